/- Parts of the proof of TopCuesAreFades, in order. -/
import Derived.Orders
import Derived.Below
import Derived.WalkKit
import Derived.Laws.StructEq
import Derived.Laws.Append
import Derived.Laws.AppendOwn
import Derived.Test.YtfcnnphidnjleaaGreatRows
import Derived.KernelRfl
import Derived.Lib.Bytealg
import Derived.Sort.Defs
import Derived.Lib.BitFns
import Derived.Test.YtfcnnphidnjleaaGreatShelf
import Derived.Laws.Externs
import Derived.Lib.Overlaps
import Derived.IntWalk
import Derived.Sort.Statements
import Derived.Shelf.SlSortCmp.WholeK
import Derived.Shelf.SlSortCmp.NoneTotal
import Derived.Sort.AssemblyPlain
import Derived.Lib.Strings
import Derived.WalkSpells
import Derived.ProofKit
import Derived.OpenShut
import Derived.Lib.Hide
import Derived.Lib.SmallJoins
import Derived.Deep.QuietTactic
import Derived.BigQuiet
import Derived.Deep.RegionHeld3
import Derived.Deep.Slices
import Derived.Test.YtfcnnphidnjleaaGreatKTopCuesAreFades5
namespace Go.Proofs.YtfcnnphidnjleaaGreat
set_option linter.unusedVariables false
set_option linter.unusedSimpArgs false
set_option linter.unusedSectionVars false
section
set_option maxRecDepth 100000
open HP
theorem ag0 {l:List oN} (h:Al l=0):l.length≤30:=by
 unfold Al at h
 split at h
 ·cases h
 ·omega
theorem Zm (size:Int):∀(l pre:List cI),zw size pre l=0→∀x∈l,(0≤x.default∧x.default≤65535)∧x.ranges.length≤30
 |[],pre,h,x,hx=>by simp at hx
 |y::l,pre,h,x,hx=>by
  rw[ahG]at h
  by_cases h0:Jd size pre y=0
  case neg=>rw[if_neg h0]at h;exact absurd h h0
  rw[if_pos h0]at h
  rcases List.mem_cons.1 hx with rfl|hx
  ·unfold Jd at h0
   split at h0
   ·cases h0
   split at h0
   ·cases h0
   split at h0
   ·cases h0
   split at h0
   ·cases h0
   rename_i h4
   split at h0
   ·cases h0
   refine⟨?_,ag0 h0⟩
   cases q:aQ x.default 0 65535
   ·exact absurd (.inr (.inr q)) h4
   ·exact oU q
  ·exact Zm size l _ h x hx
theorem RN {p:cm} (h:pL p=0):p.params.length≤40∧∀x∈p.params,(0≤x.default∧x.default≤65535)∧x.ranges.length≤30:=by
 refine⟨VE h,?_⟩
 unfold pL at h
 split at h
 ·cases h
 split at h
 ·cases h
 split at h
 ·cases h
 split at h
 ·cases h
 exact Zm _ _ _ h
structure IT (s : gJ) : Prop where
 ok:Aj s
 aR:gp s.aR=0
 pre:rS s.aR s.bJ=0
 Of:s.lists.length≤30
 Og:∀l∈s.lists,oS l.bD=0
 pl:s.bH.length≤40
 fnd:∀p∈s.bH,(tu s.lists p.list).2=true
theorem Nv {s:gJ} (hs:Aj s) (h:qP s=0):IT s:=by
 unfold qP at h
 by_cases h1:rS s.aR s.bJ=0
 case neg=>rw[if_pos h1]at h;exact absurd h h1
 rw[if_neg (fun q=>q h1)]at h
 split at h
 ·cases h
 rename_i h2
 by_cases h3:iH (DH s) s.lists 0=0
 case neg=>rw[if_pos h3]at h;exact absurd h h3
 rw[if_neg (fun q=>q h3)]at h
 split at h
 ·cases h
 rename_i h4
 refine⟨hs,PS h1,h1,by omega,fun l hl=>?_,by omega,fun p hp=>?_⟩
 ·obtain⟨i,hi,e⟩:=List.getElem_of_mem hl
  have:=(wM s.lists 0).1 h3 i l (by rw[←e];exact List.getElem?_eq_getElem hi)
  unfold DH at this
  split at this
  ·cases this
  split at this
  ·cases this
  unfold Ns at this
  rw[if_neg (fun q=>q h1)]at this
  by_cases h5:oS l.bD=0
  ·exact h5
  ·rw[if_pos h5]at this;exact absurd this h5
 ·obtain⟨i,hi,e⟩:=List.getElem_of_mem hp
  have:=(wM s.bH 0).1 h i p (by rw[←e];exact List.getElem?_eq_getElem hi)
  unfold Nt at this
  split at this
  ·cases this
  split at this
  ·cases this
  split at this
  ·cases this
  rename_i q
  simpa using q
theorem YW {r:dO} {bJ:List kE} (h:rS r bJ=0):bJ.length≤200∧∀p∈bJ,p.kD.length≤2000∧∀x∈p.kD,0≤x.level∧x.level≤65535:=by
 have hr:=PS h
 unfold rS at h
 rw[if_neg (fun q=>q hr)]at h
 split at h
 ·cases h
 refine⟨by omega,fun p hp=>?_⟩
 obtain⟨i,hi,e⟩:=List.getElem_of_mem hp
 have h2:=(wM bJ 0).1 h i p (by rw[←e];exact List.getElem?_eq_getElem hi)
 unfold MY at h2
 split at h2
 ·cases h2
 split at h2
 ·cases h2
 split at h2
 ·cases h2
 split at h2
 ·cases h2
 refine⟨by omega,fun x hx=>?_⟩
 obtain⟨j,hj,e⟩:=List.getElem_of_mem hx
 have h3:=(wM p.kD 0).1 h2 j x (by rw[←e];exact List.getElem?_eq_getElem hj)
 unfold Nw at h3
 split at h3
 ·cases h3
 split at h3
 ·cases h3
 rename_i q
 exact oU (by simpa using q)
theorem alV {r:dO} {bJ:List kE} (h:rS r bJ=0) (k:aB) (v:mu):0≤(vA bJ k v).1∧(vA bJ k v).1≤65535:=by
 unfold vA
 split
 ·simp
 split
 ·simp
 rename_i h2
 split
 ·exact oU (by simpa using h2)
 split
 ·simp
 rename_i p hp
 split
 ·simp
 rename_i x hx
 exact((YW h).2 p (List.mem_of_find?_eq_some hp)).2 x (List.mem_of_find?_eq_some hx)
theorem IT.bd {s:gJ} (h:IT s):Gw s:=by
 have hl:=DA h.aR
 have hp:=YW h.pre
 refine⟨?_,fun p hp=>?_,?_,⟨by omega,fun p q=>by have:=(hp.2 p q).1;omega⟩,by have:=h.Of;omega,fun l hl=>?_,by have:=h.pl;omega⟩
 ·unfold vQ at hl
  split at hl
  ·cases hl
  ·omega
 ·have:=RN (Ie hl p hp)
  exact⟨by omega,fun q hq=>by have:=(this.2 q hq).2;omega⟩
 ·have hr:=h.aR
  unfold gp at hr
  rw[if_pos hl]at hr
  split at hr
  ·cases hr
  ·omega
 ·have hg:=RA (h.Og l hl)
  exact⟨by have:=hg.len;omega,fun c hc=>⟨by have:=(hg.mv c hc).1;omega,by have:=hg.pts c hc;omega⟩⟩
def lD (l:List cm):List (ByteArray×cm):=l.foldl (fun m p=>dz p.name p m) []
def Cu (lm:List (ByteArray×cm)) (u:ey):List cI:=match bM u.profile lm with
 |none=>[]
 |some p=>p.params
def GD (lm:List (ByteArray×cm)) (m:List (aB×cI)) (u:ey):List (aB×cI):=(Cu lm u).foldl (fun m x=>dz ⟨u.number,x.name⟩ x m) m
def uE (r:dO):List (aB×cI):=r.units.foldl (GD (lD r.aS)) []
def kY (s:gJ) (p:mq):bh:=⟨⟨0,0,false⟩,p.number,p.priority,(tu s.lists p.list).1.bD,-1,65535,-1,none⟩
def bN (s:gJ):bI:=⟨⟨s.bH.map (kY s),0,65535,false⟩,s,nQ s.aR,some (uE s.aR),[]⟩
theorem Rm {κ ν:Type} [DecidableEq κ] {P:ν→Prop} {k:κ} {v:ν} (hv:P v):∀{l:List (κ×ν)},(∀p∈l,P p.2)→∀p∈dz k v l,P p.2
 |[],_,p,hp=>by simp [dz]at hp;rw[hp];exact hv
 |(k',v')::r,h,p,hp=>by
  rw[dz]at hp
  split at hp
  ·rcases List.mem_cons.1 hp with rfl|hp
   ·exact hv
   ·exact h p (by simp [hp])
  ·rcases List.mem_cons.1 hp with rfl|hp
   ·exact h _ (by simp)
   ·exact Rm hv (fun p hp=>h p (by simp [hp])) p hp
theorem L4 {α β:Type} {P:β→Prop} {f:β→α→β}:∀(l:List α) (b:β),P b→(∀b,P b→∀x∈l,P (f b x))→P (l.foldl f b)
 |[],b,h,_=>h
 |x::l,b,h,k=>L4 l (f b x) (k b h x (by simp)) fun b hb y hy=>k b hb y (by simp [hy])
theorem YK {P:cm→Prop} {l:List cm} (h:∀p∈l,P p):∀p∈lD l,P p.2:=by
 unfold lD
 exact L4 (P:=fun m:List (ByteArray×cm)=>∀p∈m,P p.2) l [] (by simp) fun m hm x hx=>Rm (h x hx) hm
theorem YS {P:cI→Prop} {r:dO} (h:∀p∈r.aS,∀x∈p.params,P x):∀p∈uE r,P p.2:=by
 unfold uE
 refine L4 (P:=fun m:List (aB×cI)=>∀p∈m,P p.2) r.units [] (by simp) fun m hm u hu=>?_
 unfold GD
 refine L4 (P:=fun m:List (aB×cI)=>∀p∈m,P p.2) _ m hm fun m hm x hx=>Rm ?_ hm
 unfold Cu at hx
 cases hf:bM u.profile (lD r.aS)with
 |none=>rw[hf]at hx;simp at hx
 |some p=>
  rw[hf]at hx
  exact YK (P:=fun p=>∀x∈p.params,P x) h _ (GF hf) x hx
theorem agD {l:List jl} {n:Int} (h:(tu l n).2=true):(tu l n).1∈l:=by
 unfold tu at h ⊢
 cases hf:l.find? (fun x=>decide (x.number=n))with
 |none=>rw[hf]at h;cases h
 |some x=>exact List.mem_of_find?_eq_some hf
theorem YQ {s:gJ} (h:IT s):zo (bN s):=by
 obtain⟨hr,hp,hl,hb⟩:=h.ok
 refine⟨⟨hp,alV h.pre,fun k=>?_⟩,⟨⟨Int.le_refl _,by show(0:Int)≤_;decide⟩,?_,fun b hb=>?_,by show(0:Int)≤65535∧(65535:Int)≤65535;decide⟩,?_,by show 0≤5000;decide,rfl⟩
 ·unfold dZ
  cases hf:bM k ((bN s).params.getD [])with
  |none=>simp
  |some x=>exact YS (P:=fun x=>0≤x.default∧x.default≤65535) (fun p hp x hx=>((RN (Ie (DA h.aR) p hp)).2 x hx).1) _ (GF hf)
 ·show(s.bH.map (kY s)).length≤40
  rw[List.length_map];exact h.pl
 ·obtain⟨p,hp,rfl⟩:=List.mem_map.1 hb
  have hm:=agD (h.fnd p hp)
  refine{rI:=(hl.2 _ hm).2,dD:=h.Og _ hm,can:=fun l e=>?_,runs:=fun k r q=>?_,iX:=?_,qq:=?_,bZ:=?_,CX:=?_}
  ·simp [kY]at e
  ·simp [kY]at q
  ·show(0:Int)≤65535∧(65535:Int)≤65535;decide
  ·show(0:Int)≤0∧(0:Int)≤0∧(0:Int)≤0;decide
  ·show(-1:Int)≤-1∧(-1:Int)<(((tu s.lists p.list).1.bD.length:Nat):Int);omega
  ·left;show(-1:Int)<0;decide
 ·show(s.bH.map (kY s)).map (·.number)=_
  rw[List.map_map];rfl
section
variable {aD σ : Heap} {R : HP}
section
variable {κ ν : Type} [DecidableEq κ] {ek : A.EK} {eK : κ → AV} {eV : ν → AV} {B : aK → Prop} {id : Nat} {l : List (κ × ν)}
theorem abo (hq:∀a b,A.eB ek (eK a) (eK b)=some (decide (a=b))) {x:κ} (hok:A.jB ek (eK x)=true) (v:ν) (H:Hs bY aD σ (blk id (.map (l.map fun p=>(eK p.1,eV p.2)))*R)):∃σ',A.eA ek (.om id) (eK x) (eV v) σ=some σ'∧Hs bY aD σ' (blk id (.map ((dz x v l).map fun p=>(eK p.1,eV p.2)))*R):=by
 refine⟨σ.set id (.map ((dz x v l).map fun p=>(eK p.1,eV p.2))),?_,Aq H trivial⟩
 simp only[A.eA,hok,cond_true,(iW H).2,DP hq,Option.map_some]
theorem amq (hq:∀a b,A.eB ek (eK a) (eK b)=some (decide (a=b))) {x:κ} (hok:A.jB ek (eK x)=true) (z:AV) (H:Hs B aD σ (blk id (.map (l.map fun p=>(eK p.1,eV p.2)))*R)):A.look ek (.om id) (eK x) z σ=some (((bM x l).map eV).getD z):=by
 simp only[A.look,hok,cond_true,A.entries,(iW H).2,Option.bind_some,Cf hq,Option.map_some]
end
def vP (p:ByteArray×cm):AV×AV:=(.str p.1,.agg (bP p.2))
theorem am3 {s:gJ} (hl:s.aR.aS.length≤1000000) {mI:Nat} (H:Hs bY aD σ (blk mI (.map (([]:List (ByteArray×cm)).map vP))*R)):∃W,A.loop ((fun v31 sW=>
    (A.lss (v31.getD 1 AV.undef) (AV.int .i64 (s.aR.aS.length:Int))).bind fun x34=>
    A.cond x34 (
     (A.aW 3 (sl 3 bP s.aR.aS) (v31.getD 1 AV.undef)).bind fun gy=>
     ((A.deref gy sW).bind fun gD=>A.ay 0 3 gD).bind fun bR=>
     (A.cells 3 bR).bind fun jS=>
     (A.splice 0 jS [bg,ah,AV.aq]).bind fun lp=>
     (A.aj 0 lp).bind fun dm=>
     (A.ay 0 3 lp).bind fun ef=>
     (A.eA .z (AV.om mI) dm ef sW).bind fun JI=>
     (A.add (v31.getD 1 AV.undef) aH).bind fun fL=>
     some (AX.normal,[(v31.getD 0 AV.undef),fL],JI)) (
     some (AX.exit 0,[(v31.getD 0 AV.undef),(v31.getD 1 AV.undef)],sW)))) [.lbx (bl s),.int .i64 0] σ=some (.exit 0,[.lbx (bl s),.int .i64 (s.aR.aS.length:Int)],W)∧Hs bY aD W (blk mI (.map ((lD s.aR.aS).map vP))*R):=by
 suffices h:∃q,A.loop ((fun v31 sW=>
    (A.lss (v31.getD 1 AV.undef) (AV.int .i64 (s.aR.aS.length:Int))).bind fun x34=>
    A.cond x34 (
     (A.aW 3 (sl 3 bP s.aR.aS) (v31.getD 1 AV.undef)).bind fun gy=>
     ((A.deref gy sW).bind fun gD=>A.ay 0 3 gD).bind fun bR=>
     (A.cells 3 bR).bind fun jS=>
     (A.splice 0 jS [bg,ah,AV.aq]).bind fun lp=>
     (A.aj 0 lp).bind fun dm=>
     (A.ay 0 3 lp).bind fun ef=>
     (A.eA .z (AV.om mI) dm ef sW).bind fun JI=>
     (A.add (v31.getD 1 AV.undef) aH).bind fun fL=>
     some (AX.normal,[(v31.getD 0 AV.undef),fL],JI)) (
     some (AX.exit 0,[(v31.getD 0 AV.undef),(v31.getD 1 AV.undef)],sW)))) [.lbx (bl s),.int .i64 0] σ=some q∧∃W,q=(.exit 0,[.lbx (bl s),.int .i64 (s.aR.aS.length:Int)],W)∧Hs bY aD W (blk mI (.map ((lD s.aR.aS).map vP))*R) by
  obtain⟨q,e,W,rfl,K⟩:=h
  exact⟨W,e,K⟩
 refine nO (fun z v w=>∃(i:Nat) (m:List (ByteArray×cm)),i≤s.aR.aS.length∧v=[.lbx (bl s),.int .i64 (i:Int)]∧z=s.aR.aS.length-i∧(s.aR.aS.drop i).foldl (fun m p=>dz p.name p m) m=lD s.aR.aS∧Hs bY aD w (blk mI (.map (m.map vP))*R)) ?_ (n:=s.aR.aS.length) ⟨0,[],Nat.zero_le _,rfl,rfl,rfl,H⟩
 rintro z v w ⟨i,m,hi,rfl,hz,hT,K⟩
 by_cases h:i<s.aR.aS.length
 ·obtain⟨x,cG⟩:∃x,x=s.aR.aS[i]:=⟨_,rfl⟩
  have hx:s.aR.aS[i]? =some x:=by rw[cG];exact List.getElem?_eq_getElem h
  rw[List.drop_eq_getElem_cons h,←cG]at hT
  obtain⟨w',u1,u2⟩:=abo (ek:=.z) (eK:=fun b:ByteArray=>AV.str b) (eV:=fun p:cm=>AV.agg (bP p)) (l:=m) Zr (x:=x.name) rfl x K
  refine .inl ⟨s.aR.aS.length-(i+1),_,w',by omega,?_,i+1,dz x.name x m,h,rfl,rfl,hT,u2⟩
  simp only[List.getD_cons_zero,List.getD_cons_succ]
  rw[jM hx,bS,cA,jk hx,bS,oq,bS,show A.ay 0 3 (bP x)=some (.agg (bP x))from rfl,bS,show A.cells 3 (.agg (bP x))=some (bP x)from rfl,bS,show A.splice 0 (bP x) [bg,ah,AV.aq]=some (bP x)from rfl,bS,qC,bS,show A.ay 0 3 (bP x)=some (.agg (bP x))from rfl,bS,u1,bS,gK hx (by unfold aU;omega),bS]
 ·have:i=s.aR.aS.length:=by omega
  subst this
  rw[List.drop_length]at hT
  simp only[List.foldl_nil]at hT
  rw[hT]at K
  refine .inr ⟨(.exit 0,[.lbx (bl s),.int .i64 (s.aR.aS.length:Int)],w),?_,by simp,w,rfl,K⟩
  simp only[List.getD_cons_zero,List.getD_cons_succ]
  rw[j0,bS,cz]
theorem akF (n:Int) (b:ByteArray):((((A.cell (.int .i64 n)).bind fun v=>some [v]).bind fun mX=>(A.splice 0 mX [ah,bg]).bind fun lE=>((A.cell (.str b)).bind fun v=>some [v]).bind fun kI=>(A.splice 1 kI lE).bind fun jc=>some jc).bind fun cs=>some (AV.agg cs))=some (.agg (aL ⟨n,b⟩)):=rfl
theorem alX {s : gJ} {u : ey} {ps : List cI} (hl : ps.length ≤ 1000000) {id bf : Nat} {cs : List AV} (hc : cs[10]? = some (.om bf)) (m : List (aB × cI)) (H : Hs bY aD σ (blk bf (.map (m.map iw)) * (blk id (.box cs) * R))) : ∃ W, A.loop ((fun v64 gu =>
        (A.lss (v64.getD 2 AV.undef) (AV.int .i64 (ps.length:Int))).bind fun jX=>
        A.cond jX (
         (A.aW 7 (sl 7 bU ps) (v64.getD 2 AV.undef)).bind fun gI=>
         ((A.deref gI gu).bind fun mW=>A.ay 0 7 mW).bind fun eZ=>
         (A.cells 7 eZ).bind fun lR=>
         (A.splice 0 lR [bg,ah,ah,ah,ah,aI,AV.aq]).bind fun jK=>
         (A.aN (AV.op id 0)).bind fun hG=>
         (A.aA 10 hG).bind fun iq=>
         ((A.deref iq gu).bind fun qp=>A.aj 0 qp).bind fun iD=>
         ((A.lb (v64.getD 1 AV.undef)).bind fun _=>some (0)).bind fun sQ=>
         ((A.lb (v64.getD 1 AV.undef)).bind fun oh=>A.aj sQ oh).bind fun jF=>
         (A.aj 0 jK).bind fun fA=>
         ((((A.cell jF).bind fun v=>some [v]).bind fun mX=>(A.splice 0 mX [ah,bg]).bind fun lE=>((A.cell fA).bind fun v=>some [v]).bind fun kI=>(A.splice 1 kI lE).bind fun jc=>some jc).bind fun cs=>some (AV.agg cs)).bind fun iE=>
         (A.ay 0 7 jK).bind fun jh=>
         (A.eA (.s [0,2]) iD iE jh gu).bind fun uU=>
         (A.add (v64.getD 2 AV.undef) aH).bind fun iF=>
         some (AX.normal,[(v64.getD 0 AV.undef),(v64.getD 1 AV.undef),iF],uU)) (
         some (AX.exit 4,[(v64.getD 0 AV.undef),(v64.getD 1 AV.undef),(v64.getD 2 AV.undef)],gu)))) [.lbx (bl s),.lbx (bB u),.int .i64 0] σ=some (.exit 4,[.lbx (bl s),.lbx (bB u),.int .i64 (ps.length:Int)],W)∧Hs bY aD W (blk bf (.map ((ps.foldl (fun m x=>dz ⟨u.number,x.name⟩ x m) m).map iw))*(blk id (.box cs)*R)):=by
 suffices h:∃q,A.loop ((fun v64 gu=>
        (A.lss (v64.getD 2 AV.undef) (AV.int .i64 (ps.length:Int))).bind fun jX=>
        A.cond jX (
         (A.aW 7 (sl 7 bU ps) (v64.getD 2 AV.undef)).bind fun gI=>
         ((A.deref gI gu).bind fun mW=>A.ay 0 7 mW).bind fun eZ=>
         (A.cells 7 eZ).bind fun lR=>
         (A.splice 0 lR [bg,ah,ah,ah,ah,aI,AV.aq]).bind fun jK=>
         (A.aN (AV.op id 0)).bind fun hG=>
         (A.aA 10 hG).bind fun iq=>
         ((A.deref iq gu).bind fun qp=>A.aj 0 qp).bind fun iD=>
         ((A.lb (v64.getD 1 AV.undef)).bind fun _=>some (0)).bind fun sQ=>
         ((A.lb (v64.getD 1 AV.undef)).bind fun oh=>A.aj sQ oh).bind fun jF=>
         (A.aj 0 jK).bind fun fA=>
         ((((A.cell jF).bind fun v=>some [v]).bind fun mX=>(A.splice 0 mX [ah,bg]).bind fun lE=>((A.cell fA).bind fun v=>some [v]).bind fun kI=>(A.splice 1 kI lE).bind fun jc=>some jc).bind fun cs=>some (AV.agg cs)).bind fun iE=>
         (A.ay 0 7 jK).bind fun jh=>
         (A.eA (.s [0,2]) iD iE jh gu).bind fun uU=>
         (A.add (v64.getD 2 AV.undef) aH).bind fun iF=>
         some (AX.normal,[(v64.getD 0 AV.undef),(v64.getD 1 AV.undef),iF],uU)) (
         some (AX.exit 4,[(v64.getD 0 AV.undef),(v64.getD 1 AV.undef),(v64.getD 2 AV.undef)],gu)))) [.lbx (bl s),.lbx (bB u),.int .i64 0] σ=some q∧∃W,q=(.exit 4,[.lbx (bl s),.lbx (bB u),.int .i64 (ps.length:Int)],W)∧Hs bY aD W (blk bf (.map ((ps.foldl (fun m x=>dz ⟨u.number,x.name⟩ x m) m).map iw))*(blk id (.box cs)*R)) by
  obtain⟨q,e,W,rfl,K⟩:=h
  exact⟨W,e,K⟩
 obtain⟨fm,EJ⟩:∃fm,fm=ps.foldl (fun m x=>dz (⟨u.number,x.name⟩:aB) x m) m:=⟨_,rfl⟩
 rw[←EJ]
 refine nO (fun z v w=>∃(i:Nat) (m:List (aB×cI)),i≤ps.length∧v=[.lbx (bl s),.lbx (bB u),.int .i64 (i:Int)]∧z=ps.length-i∧(ps.drop i).foldl (fun m x=>dz ⟨u.number,x.name⟩ x m) m=fm∧Hs bY aD w (blk bf (.map (m.map iw))*(blk id (.box cs)*R))) ?_ (n:=ps.length) ⟨0,m,Nat.zero_le _,rfl,rfl,EJ.symm,H⟩
 rintro z v w ⟨i,m,hi,rfl,hz,hT,K⟩
 by_cases h:i<ps.length
 ·obtain⟨x,cG⟩:∃x,x=ps[i]:=⟨_,rfl⟩
  have hx:ps[i]? =some x:=by rw[cG];exact List.getElem?_eq_getElem h
  rw[List.drop_eq_getElem_cons h,←cG]at hT
  obtain⟨w',u1,u2⟩:=abo (ek:=.s [0,2]) (eK:=fun k:aB=>AV.agg (aL k)) (eV:=fun p:cI=>AV.agg (bU p)) (l:=m) pM (x:=⟨u.number,x.name⟩) rfl x K
  have hb:=(iW (hs_eq (show _=blk id (.box cs)*(blk bf (.map (m.map iw))*R) by ac_rfl) K)).2
  refine .inl ⟨ps.length-(i+1),_,w',by omega,?_,i+1,_,h,rfl,rfl,hT,u2⟩
  simp only[List.getD_cons_zero,List.getD_cons_succ]
  rw[jM hx,bS,cA,jk hx,bS,oq,bS,show A.ay 0 7 (bU x)=some (.agg (bU x))from rfl,bS,show A.cells 7 (.agg (bU x))=some (bU x)from rfl,bS,show A.splice 0 (bU x) [bg,ah,ah,ah,ah,aI,AV.aq]=some (bU x)from rfl,bS,show A.aN (.op id 0)=some (.op id 0)from rfl,bS,show A.aA 10 (.op id 0)=some (.op id 10)from by simp [A.aA],bS,show((A.deref (.op id 10) w).bind fun qp=>A.aj 0 qp)=some (.om bf)from by simp only[A.deref,hb,Option.bind_some,A.aj,List.getElem?_drop,Nat.add_zero,hc];rfl,bS,ij,bS,bS,bS,show A.aj 0 (bB u)=some (.int .i64 u.number)from rfl,bS,H6,bS,akF,bS,show A.ay 0 7 (bU x)=some (.agg (bU x))from rfl,bS,u1,bS,gK hx (by unfold aU;omega),bS]
 ·have:i=ps.length:=by omega
  subst this
  rw[List.drop_length]at hT
  simp only[List.foldl_nil]at hT
  rw[hT]at K
  refine .inr ⟨(.exit 4,[.lbx (bl s),.lbx (bB u),.int .i64 (ps.length:Int)],w),?_,by simp,w,rfl,K⟩
  simp only[List.getD_cons_zero,List.getD_cons_succ]
  rw[j0,bS,cz]
theorem YN {f:List AV→Heap→Option LS} {v:List AV} {σ:Heap} {r:LS} (h:f v σ=some r) (hr:r.1≠.normal):A.loop f v σ=some r:=by
 obtain⟨n,hn⟩:=vu h hr
 exact Dm hn
theorem anr {qz tY yE zT β:Type} {X:Option qz} {f:qz→Option tY} {g:qz→tY→Option yE} {h:qz→tY→yE→Option zT} {v:zT} {k:qz→tY→yE→zT→Option β} {k':zT→Option β} {r:Option β} (e:(X.bind fun x=>(f x).bind fun y=>(g x y).bind fun z=>h x y z)=some v) (hk:k' v=r) (hkk:k=fun _ _ _=>k':=by rfl):(X.bind fun x=>(f x).bind fun y=>(g x y).bind fun z=>(h x y z).bind (k x y z))=r:=by
 subst hkk
 obtain⟨x,hx,e⟩:=Option.bind_eq_some_iff.1 e
 obtain⟨y,hy,e⟩:=Option.bind_eq_some_iff.1 e
 obtain⟨z,hz,e⟩:=Option.bind_eq_some_iff.1 e
 rw[hx,Option.bind_some,hy,Option.bind_some,hz,Option.bind_some,e,Option.bind_some]
 exact hk
theorem am4 {s:gJ} (hb:Gw s) {id bf mI:Nat} {cs:List AV} (hc:cs[10]? =some (.om bf)) (H:Hs bY aD σ (blk bf (.map (([]:List (aB×cI)).map iw))*(blk id (.box cs)*(blk mI (.map ((lD s.aR.aS).map vP))*R)))):∃W,A.loop ((fun v50 tW=>
     (A.lss (v50.getD 1 AV.undef) (AV.int .i64 (s.aR.units.length:Int))).bind fun gP=>
     A.cond gP (
      (A.aW 4 (sl 4 bB s.aR.units) (v50.getD 1 AV.undef)).bind fun gY=>
      ((A.deref gY tW).bind fun gM=>A.ay 0 4 gM).bind fun gG=>
      (A.cells 4 gG).bind fun iA=>
      (A.splice 0 iA [ah,bg,ah,ah]).bind fun ig=>
      (A.aj 1 ig).bind fun eW=>
      (A.look .z (AV.om mI) eW (AV.agg [bg,ah,AV.aq]) tW).bind fun gz=>
      ((A.cells 3 gz).bind fun l6=>A.aj 2 l6).bind fun eY=>
      (A.bK eY).bind fun eR=>
      (A.loop (fun v64 gu=>
        (A.lss (v64.getD 2 AV.undef) eR).bind fun jX=>
        A.cond jX (
         (A.aW 7 eY (v64.getD 2 AV.undef)).bind fun gI=>
         ((A.deref gI gu).bind fun mW=>A.ay 0 7 mW).bind fun eZ=>
         (A.cells 7 eZ).bind fun lR=>
         (A.splice 0 lR [bg,ah,ah,ah,ah,aI,AV.aq]).bind fun jK=>
         (A.aN (AV.op id 0)).bind fun hG=>
         (A.aA 10 hG).bind fun iq=>
         ((A.deref iq gu).bind fun qp=>A.aj 0 qp).bind fun iD=>
         ((A.lb (v64.getD 1 AV.undef)).bind fun _=>some (0)).bind fun sQ=>
         ((A.lb (v64.getD 1 AV.undef)).bind fun oh=>A.aj sQ oh).bind fun jF=>
         (A.aj 0 jK).bind fun fA=>
         ((((A.cell jF).bind fun v=>some [v]).bind fun mX=>(A.splice 0 mX [ah,bg]).bind fun lE=>((A.cell fA).bind fun v=>some [v]).bind fun kI=>(A.splice 1 kI lE).bind fun jc=>some jc).bind fun cs=>some (AV.agg cs)).bind fun iE=>
         (A.ay 0 7 jK).bind fun jh=>
         (A.eA (.s [0,2]) iD iE jh gu).bind fun uU=>
         (A.add (v64.getD 2 AV.undef) aH).bind fun iF=>
         some (AX.normal,[(v64.getD 0 AV.undef),(v64.getD 1 AV.undef),iF],uU)) (
         some (AX.exit 4,[(v64.getD 0 AV.undef),(v64.getD 1 AV.undef),(v64.getD 2 AV.undef)],gu))) [(v50.getD 0 AV.undef),(AV.lbx ig),ah] tW).bind fun yw=>
      bif yw.1==AX.exit 4 then(
       (A.add (v50.getD 1 AV.undef) aH).bind fun x90=>
       some (AX.normal,[(yw.2.1.getD 0 AV.undef),x90],yw.2.2))else
      none) (
      some (AX.exit 2,[(v50.getD 0 AV.undef),(v50.getD 1 AV.undef)],tW)))) [.lbx (bl s),.int .i64 0] σ=some (.exit 2,[.lbx (bl s),.int .i64 (s.aR.units.length:Int)],W)∧Hs bY aD W (blk bf (.map ((uE s.aR).map iw))*(blk id (.box cs)*(blk mI (.map ((lD s.aR.aS).map vP))*R))):=by
 suffices h:∃q,A.loop ((fun v50 tW=>
     (A.lss (v50.getD 1 AV.undef) (AV.int .i64 (s.aR.units.length:Int))).bind fun gP=>
     A.cond gP (
      (A.aW 4 (sl 4 bB s.aR.units) (v50.getD 1 AV.undef)).bind fun gY=>
      ((A.deref gY tW).bind fun gM=>A.ay 0 4 gM).bind fun gG=>
      (A.cells 4 gG).bind fun iA=>
      (A.splice 0 iA [ah,bg,ah,ah]).bind fun ig=>
      (A.aj 1 ig).bind fun eW=>
      (A.look .z (AV.om mI) eW (AV.agg [bg,ah,AV.aq]) tW).bind fun gz=>
      ((A.cells 3 gz).bind fun l6=>A.aj 2 l6).bind fun eY=>
      (A.bK eY).bind fun eR=>
      (A.loop (fun v64 gu=>
        (A.lss (v64.getD 2 AV.undef) eR).bind fun jX=>
        A.cond jX (
         (A.aW 7 eY (v64.getD 2 AV.undef)).bind fun gI=>
         ((A.deref gI gu).bind fun mW=>A.ay 0 7 mW).bind fun eZ=>
         (A.cells 7 eZ).bind fun lR=>
         (A.splice 0 lR [bg,ah,ah,ah,ah,aI,AV.aq]).bind fun jK=>
         (A.aN (AV.op id 0)).bind fun hG=>
         (A.aA 10 hG).bind fun iq=>
         ((A.deref iq gu).bind fun qp=>A.aj 0 qp).bind fun iD=>
         ((A.lb (v64.getD 1 AV.undef)).bind fun _=>some (0)).bind fun sQ=>
         ((A.lb (v64.getD 1 AV.undef)).bind fun oh=>A.aj sQ oh).bind fun jF=>
         (A.aj 0 jK).bind fun fA=>
         ((((A.cell jF).bind fun v=>some [v]).bind fun mX=>(A.splice 0 mX [ah,bg]).bind fun lE=>((A.cell fA).bind fun v=>some [v]).bind fun kI=>(A.splice 1 kI lE).bind fun jc=>some jc).bind fun cs=>some (AV.agg cs)).bind fun iE=>
         (A.ay 0 7 jK).bind fun jh=>
         (A.eA (.s [0,2]) iD iE jh gu).bind fun uU=>
         (A.add (v64.getD 2 AV.undef) aH).bind fun iF=>
         some (AX.normal,[(v64.getD 0 AV.undef),(v64.getD 1 AV.undef),iF],uU)) (
         some (AX.exit 4,[(v64.getD 0 AV.undef),(v64.getD 1 AV.undef),(v64.getD 2 AV.undef)],gu))) [(v50.getD 0 AV.undef),(AV.lbx ig),ah] tW).bind fun yw=>
      bif yw.1==AX.exit 4 then(
       (A.add (v50.getD 1 AV.undef) aH).bind fun x90=>
       some (AX.normal,[(yw.2.1.getD 0 AV.undef),x90],yw.2.2))else
      none) (
      some (AX.exit 2,[(v50.getD 0 AV.undef),(v50.getD 1 AV.undef)],tW)))) [.lbx (bl s),.int .i64 0] σ=some q∧∃W,q=(.exit 2,[.lbx (bl s),.int .i64 (s.aR.units.length:Int)],W)∧Hs bY aD W (blk bf (.map ((uE s.aR).map iw))*(blk id (.box cs)*(blk mI (.map ((lD s.aR.aS).map vP))*R))) by
  obtain⟨q,e,W,rfl,K⟩:=h
  exact⟨W,e,K⟩
 have hun:=hb.un
 refine nO (fun z v w=>∃(i:Nat) (m:List (aB×cI)),i≤s.aR.units.length∧v=[.lbx (bl s),.int .i64 (i:Int)]∧z=s.aR.units.length-i∧(s.aR.units.drop i).foldl (GD (lD s.aR.aS)) m=uE s.aR∧Hs bY aD w (blk bf (.map (m.map iw))*(blk id (.box cs)*(blk mI (.map ((lD s.aR.aS).map vP))*R)))) ?_ (n:=s.aR.units.length) ⟨0,[],Nat.zero_le _,rfl,rfl,rfl,H⟩
 rintro z v w ⟨i,m,hi,rfl,hz,hT,K⟩
 by_cases h:i<s.aR.units.length
 ·obtain⟨x,cG⟩:∃x,x=s.aR.units[i]:=⟨_,rfl⟩
  have hx:s.aR.units[i]? =some x:=by rw[cG];exact List.getElem?_eq_getElem h
  rw[List.drop_eq_getElem_cons h,←cG]at hT
  have hpl:(Cu (lD s.aR.aS) x).length≤1000000:=by
   unfold Cu
   cases hf:bM x.profile (lD s.aR.aS)with
   |none=>simp
   |some p=>exact YK (P:=fun p=>p.params.length≤1000000) (fun p hp=>(hb.par p hp).1) _ (GF hf)
  obtain⟨w',l1,l2⟩:=alX (s:=s) (u:=x) hpl hc m K
  have hlk:((A.look .z (AV.om mI) (.str x.profile) (AV.agg [bg,ah,AV.aq]) w).bind fun gz=>((A.cells 3 gz).bind fun l6=>A.aj 2 l6).bind fun eY=>(A.bK eY).bind fun eR=>(A.loop ((fun v64 gu=>
        (A.lss (v64.getD 2 AV.undef) eR).bind fun jX=>
        A.cond jX (
         (A.aW 7 eY (v64.getD 2 AV.undef)).bind fun gI=>
         ((A.deref gI gu).bind fun mW=>A.ay 0 7 mW).bind fun eZ=>
         (A.cells 7 eZ).bind fun lR=>
         (A.splice 0 lR [bg,ah,ah,ah,ah,aI,AV.aq]).bind fun jK=>
         (A.aN (AV.op id 0)).bind fun hG=>
         (A.aA 10 hG).bind fun iq=>
         ((A.deref iq gu).bind fun qp=>A.aj 0 qp).bind fun iD=>
         ((A.lb (v64.getD 1 AV.undef)).bind fun _=>some (0)).bind fun sQ=>
         ((A.lb (v64.getD 1 AV.undef)).bind fun oh=>A.aj sQ oh).bind fun jF=>
         (A.aj 0 jK).bind fun fA=>
         ((((A.cell jF).bind fun v=>some [v]).bind fun mX=>(A.splice 0 mX [ah,bg]).bind fun lE=>((A.cell fA).bind fun v=>some [v]).bind fun kI=>(A.splice 1 kI lE).bind fun jc=>some jc).bind fun cs=>some (AV.agg cs)).bind fun iE=>
         (A.ay 0 7 jK).bind fun jh=>
         (A.eA (.s [0,2]) iD iE jh gu).bind fun uU=>
         (A.add (v64.getD 2 AV.undef) aH).bind fun iF=>
         some (AX.normal,[(v64.getD 0 AV.undef),(v64.getD 1 AV.undef),iF],uU)) (
         some (AX.exit 4,[(v64.getD 0 AV.undef),(v64.getD 1 AV.undef),(v64.getD 2 AV.undef)],gu)))) [.lbx (bl s),.lbx (bB x),.int .i64 0] w))=some (.exit 4,[.lbx (bl s),.lbx (bB x),.int .i64 ((Cu (lD s.aR.aS) x).length:Int)],w'):=by
   rw[amq (ek:=.z) (eK:=fun b:ByteArray=>AV.str b) (eV:=fun p:cm=>AV.agg (bP p)) (l:=lD s.aR.aS) Zr (x:=x.profile) rfl _ (hs_eq (show _=blk mI (.map ((lD s.aR.aS).map vP))*(blk bf (.map (m.map iw))*(blk id (.box cs)*R)) by ac_rfl) K),bS]
   unfold Cu at l1 ⊢
   cases hf:bM x.profile (lD s.aR.aS)with
   |none=>
    rw[hf]at l1
    simp only[Option.map_none,Option.getD_none]
    rw[show((A.cells 3 (AV.agg [bg,ah,AV.aq])).bind fun l6=>A.aj 2 l6)=some .aq from rfl,bS,show A.bK .aq=some (.int .i64 0)from rfl,bS]
    have hw:w'=w:=by
     have e0:A.loop ((fun v64 gu=>
        (A.lss (v64.getD 2 AV.undef) (AV.int .i64 ((([]:List cI).length:Nat):Int))).bind fun jX=>
        A.cond jX (
         (A.aW 7 (sl 7 bU ([]:List cI)) (v64.getD 2 AV.undef)).bind fun gI=>
         ((A.deref gI gu).bind fun mW=>A.ay 0 7 mW).bind fun eZ=>
         (A.cells 7 eZ).bind fun lR=>
         (A.splice 0 lR [bg,ah,ah,ah,ah,aI,AV.aq]).bind fun jK=>
         (A.aN (AV.op id 0)).bind fun hG=>
         (A.aA 10 hG).bind fun iq=>
         ((A.deref iq gu).bind fun qp=>A.aj 0 qp).bind fun iD=>
         ((A.lb (v64.getD 1 AV.undef)).bind fun _=>some (0)).bind fun sQ=>
         ((A.lb (v64.getD 1 AV.undef)).bind fun oh=>A.aj sQ oh).bind fun jF=>
         (A.aj 0 jK).bind fun fA=>
         ((((A.cell jF).bind fun v=>some [v]).bind fun mX=>(A.splice 0 mX [ah,bg]).bind fun lE=>((A.cell fA).bind fun v=>some [v]).bind fun kI=>(A.splice 1 kI lE).bind fun jc=>some jc).bind fun cs=>some (AV.agg cs)).bind fun iE=>
         (A.ay 0 7 jK).bind fun jh=>
         (A.eA (.s [0,2]) iD iE jh gu).bind fun uU=>
         (A.add (v64.getD 2 AV.undef) aH).bind fun iF=>
         some (AX.normal,[(v64.getD 0 AV.undef),(v64.getD 1 AV.undef),iF],uU)) (
         some (AX.exit 4,[(v64.getD 0 AV.undef),(v64.getD 1 AV.undef),(v64.getD 2 AV.undef)],gu)))) [.lbx (bl s),.lbx (bB x),.int .i64 0] w=some (.exit 4,[.lbx (bl s),.lbx (bB x),.int .i64 0],w):=
      YN rfl (by simp)
     have l1:=e0.symm.trans l1
     injection l1 with l1
     exact(congrArg (fun z:LS=>z.2.2) l1).symm
    rw[hw]
    exact YN rfl (by simp)
   |some p=>
    rw[hf]at l1
    simp only[Option.map_some,Option.getD_some]
    rw[show((A.cells 3 (AV.agg (bP p))).bind fun l6=>A.aj 2 l6)=some (sl 7 bU p.params)from rfl,bS,gf,bS]
    exact l1
  refine .inl ⟨s.aR.units.length-(i+1),_,w',by omega,?_,i+1,_,h,rfl,rfl,hT,l2⟩
  simp only[List.getD_cons_zero,List.getD_cons_succ]
  rw[jM hx,bS,cA,jk hx,bS,oq,bS,show A.ay 0 4 (bB x)=some (.agg (bB x))from rfl,bS,show A.cells 4 (.agg (bB x))=some (bB x)from rfl,bS,show A.splice 0 (bB x) [ah,bg,ah,ah]=some (bB x)from rfl,bS,show A.aj 1 (bB x)=some (.str x.profile)from rfl,bS]
  refine anr hlk ?_
  simp only[nG,List.getD_cons_zero,List.getD_cons_succ]
  rw[gK hx (by unfold aU;omega),bS]
 ·have:i=s.aR.units.length:=by omega
  subst this
  rw[List.drop_length]at hT
  simp only[List.foldl_nil]at hT
  rw[hT]at K
  refine .inr ⟨(.exit 2,[.lbx (bl s),.int .i64 (s.aR.units.length:Int)],w),?_,by simp,w,rfl,K⟩
  simp only[List.getD_cons_zero,List.getD_cons_succ]
  rw[j0,bS,cz]
end
end
section
set_option maxRecDepth 100000
open HP
section
variable {aD σ : Heap} {R : HP}
theorem akE (s:gJ) (p:mq):((((A.cell (.int .i64 p.number)).bind fun v=>some [v]).bind fun p7=>(A.splice 3 p7 [ah,ah,aI,ah,ah,AV.aq,ah,ah,ah,AV.nm]).bind fun xm=>((A.cell (.int .i64 p.priority)).bind fun v=>some [v]).bind fun nT=>(A.splice 4 nT xm).bind fun AM=>((A.cell (sl 11 aX (tu s.lists p.list).1.bD)).bind fun v=>some [v]).bind fun xq=>(A.splice 5 xq AM).bind fun sw=>((A.cell (AV.int .i64 (-1))).bind fun v=>some [v]).bind fun qV=>(A.splice 6 qV sw).bind fun lU=>((A.cell (AV.int .i64 65535)).bind fun v=>some [v]).bind fun AN=>(A.splice 7 AN lU).bind fun AO=>((A.cell (AV.int .i64 (-1))).bind fun v=>some [v]).bind fun xu=>(A.splice 8 xu AO).bind fun AP=>some AP).bind fun cs=>some (AV.agg cs))=some (.agg (aP (kY s p))):=rfl
theorem ak8 (b:bh):(((A.cells 10 (.agg (aP b))).bind fun nU=>(A.splice 0 nU [ah,ah,aI,ah,ah,AV.aq,ah,ah,ah,AV.nm]).bind fun AQ=>some AQ).bind fun cs=>some (AV.sl 10 (chunks 10 1 cs)))=some (.sl 10 [aP b]):=rfl
theorem ZU (a:fC):A.splice 0 (bG a) [ah,ah,ah,ah,ah]=some (bG a):=rfl
theorem am5 {s:gJ} (hs:IT s) {id bf:Nat} (H:Hs bY aD σ (blk id (.box (gA .aq bf .aq (bN s)))*R)):∃vb W,A.loop ((fun jE sZ=>
      (A.lss (jE.getD 1 AV.undef) (AV.int .i64 (s.bH.length:Int))).bind fun x99=>
      A.cond x99 (
       (A.aW 3 (sl 3 cC s.bH) (jE.getD 1 AV.undef)).bind fun nX=>
       ((A.deref nX sZ).bind fun nC=>A.ay 0 3 nC).bind fun x102=>
       (A.cells 3 x102).bind fun DV=>
       (A.splice 0 DV [ah,ah,ah]).bind fun sv=>
       ((A.lb (jE.getD 0 AV.undef)).bind fun AL=>A.ay 0 5 AL).bind fun nY=>
       (A.aj 1 sv).bind fun nZ=>
       (BS [nY,nZ] sZ).bind fun nV=>
       (A.ext 0 nV.1).bind fun n4=>
       (A.ext 1 nV.1).bind fun Bc=>
       (A.cells 2 n4).bind fun lT=>
       (A.splice 0 lT [ah,AV.aq]).bind fun DX=>
       (A.aN (AV.op id 0)).bind fun x113=>
       (A.aA 0 x113).bind fun x114=>
       (A.aA 0 x114).bind fun x115=>
       ((A.deref x115 nV.2).bind fun p6=>A.aj 0 p6).bind fun qi=>
       (A.aj 0 sv).bind fun xL=>
       (A.aj 2 sv).bind fun Bd=>
       (A.aj 1 DX).bind fun xM=>
       ((((A.cell xL).bind fun v=>some [v]).bind fun p7=>(A.splice 3 p7 [ah,ah,aI,ah,ah,AV.aq,ah,ah,ah,AV.nm]).bind fun xm=>((A.cell Bd).bind fun v=>some [v]).bind fun nT=>(A.splice 4 nT xm).bind fun AM=>((A.cell xM).bind fun v=>some [v]).bind fun xq=>(A.splice 5 xq AM).bind fun sw=>((A.cell (AV.int .i64 (-1))).bind fun v=>some [v]).bind fun qV=>(A.splice 6 qV sw).bind fun lU=>((A.cell (AV.int .i64 65535)).bind fun v=>some [v]).bind fun AN=>(A.splice 7 AN lU).bind fun AO=>((A.cell (AV.int .i64 (-1))).bind fun v=>some [v]).bind fun xu=>(A.splice 8 xu AO).bind fun AP=>some AP).bind fun cs=>some (AV.agg cs)).bind fun n5=>
       (((A.cells 10 n5).bind fun nU=>(A.splice 0 nU [ah,ah,aI,ah,ah,AV.aq,ah,ah,ah,AV.nm]).bind fun AQ=>some AQ).bind fun cs=>some (AV.sl 10 (chunks 10 1 cs))).bind fun lQ=>
       (A.append 10 (140737488355328 / 96) qi lQ nV.2).bind fun xH=>
       (A.aN (AV.op id 0)).bind fun lZ=>
       (A.aA 0 lZ).bind fun xQ=>
       (A.aA 0 xQ).bind fun xR=>
       ((A.cell xH.1).bind fun v=>some [v]).bind fun D0=>
       (A.storeAt xR D0 xH.2).bind fun AR=>
       (A.add (jE.getD 1 AV.undef) aH).bind fun mQ=>
       some (AX.normal,[(jE.getD 0 AV.undef),mQ],AR)) (
       some (AX.exit 6,[(jE.getD 0 AV.undef),(jE.getD 1 AV.undef)],sZ)))) [.lbx (bl s),.int .i64 0] σ=some (.exit 6,[.lbx (bl s),.int .i64 (s.bH.length:Int)],W)∧Hs bY aD W (blk id (.box (gA vb bf .aq (bN s)))*(Sl (fl aP) 10 vb (s.bH.map (kY s))*R)):=by
 suffices h:∃q,A.loop ((fun jE sZ=>
      (A.lss (jE.getD 1 AV.undef) (AV.int .i64 (s.bH.length:Int))).bind fun x99=>
      A.cond x99 (
       (A.aW 3 (sl 3 cC s.bH) (jE.getD 1 AV.undef)).bind fun nX=>
       ((A.deref nX sZ).bind fun nC=>A.ay 0 3 nC).bind fun x102=>
       (A.cells 3 x102).bind fun DV=>
       (A.splice 0 DV [ah,ah,ah]).bind fun sv=>
       ((A.lb (jE.getD 0 AV.undef)).bind fun AL=>A.ay 0 5 AL).bind fun nY=>
       (A.aj 1 sv).bind fun nZ=>
       (BS [nY,nZ] sZ).bind fun nV=>
       (A.ext 0 nV.1).bind fun n4=>
       (A.ext 1 nV.1).bind fun Bc=>
       (A.cells 2 n4).bind fun lT=>
       (A.splice 0 lT [ah,AV.aq]).bind fun DX=>
       (A.aN (AV.op id 0)).bind fun x113=>
       (A.aA 0 x113).bind fun x114=>
       (A.aA 0 x114).bind fun x115=>
       ((A.deref x115 nV.2).bind fun p6=>A.aj 0 p6).bind fun qi=>
       (A.aj 0 sv).bind fun xL=>
       (A.aj 2 sv).bind fun Bd=>
       (A.aj 1 DX).bind fun xM=>
       ((((A.cell xL).bind fun v=>some [v]).bind fun p7=>(A.splice 3 p7 [ah,ah,aI,ah,ah,AV.aq,ah,ah,ah,AV.nm]).bind fun xm=>((A.cell Bd).bind fun v=>some [v]).bind fun nT=>(A.splice 4 nT xm).bind fun AM=>((A.cell xM).bind fun v=>some [v]).bind fun xq=>(A.splice 5 xq AM).bind fun sw=>((A.cell (AV.int .i64 (-1))).bind fun v=>some [v]).bind fun qV=>(A.splice 6 qV sw).bind fun lU=>((A.cell (AV.int .i64 65535)).bind fun v=>some [v]).bind fun AN=>(A.splice 7 AN lU).bind fun AO=>((A.cell (AV.int .i64 (-1))).bind fun v=>some [v]).bind fun xu=>(A.splice 8 xu AO).bind fun AP=>some AP).bind fun cs=>some (AV.agg cs)).bind fun n5=>
       (((A.cells 10 n5).bind fun nU=>(A.splice 0 nU [ah,ah,aI,ah,ah,AV.aq,ah,ah,ah,AV.nm]).bind fun AQ=>some AQ).bind fun cs=>some (AV.sl 10 (chunks 10 1 cs))).bind fun lQ=>
       (A.append 10 (140737488355328 / 96) qi lQ nV.2).bind fun xH=>
       (A.aN (AV.op id 0)).bind fun lZ=>
       (A.aA 0 lZ).bind fun xQ=>
       (A.aA 0 xQ).bind fun xR=>
       ((A.cell xH.1).bind fun v=>some [v]).bind fun D0=>
       (A.storeAt xR D0 xH.2).bind fun AR=>
       (A.add (jE.getD 1 AV.undef) aH).bind fun mQ=>
       some (AX.normal,[(jE.getD 0 AV.undef),mQ],AR)) (
       some (AX.exit 6,[(jE.getD 0 AV.undef),(jE.getD 1 AV.undef)],sZ)))) [.lbx (bl s),.int .i64 0] σ=some q∧∃vb W,q=(.exit 6,[.lbx (bl s),.int .i64 (s.bH.length:Int)],W)∧Hs bY aD W (blk id (.box (gA vb bf .aq (bN s)))*(Sl (fl aP) 10 vb (s.bH.map (kY s))*R)) by
  obtain⟨q,e,vb,W,rfl,K⟩:=h
  exact⟨vb,W,e,K⟩
 have hpl:=hs.pl
 have C4:s.lists.length≤aU:=by have:=hs.Of;unfold aU;omega
 refine nO (fun z v w=>∃(i:Nat) (vb:AV),i≤s.bH.length∧v=[.lbx (bl s),.int .i64 (i:Int)]∧z=s.bH.length-i∧Hs bY aD w (blk id (.box (gA vb bf .aq (bN s)))*(Sl (fl aP) 10 vb ((s.bH.take i).map (kY s))*R))) ?_ (n:=s.bH.length) ⟨0,.aq,Nat.zero_le _,rfl,rfl,hs_eq (by ac_rfl) (yA (v:=.aq) (E:=fl aP) (sz:=10) H (.inl rfl))⟩
 rintro z v w ⟨i,vb,hi,rfl,hz,K⟩
 by_cases h:i<s.bH.length
 ·obtain⟨x,cG⟩:∃x,x=s.bH[i]:=⟨_,rfl⟩
  have hx:s.bH[i]? =some x:=by rw[cG];exact List.getElem?_eq_getElem h
  have hb:=(iW K).2
  have step:∃rJ w',((fun jE sZ=>
      (A.lss (jE.getD 1 AV.undef) (AV.int .i64 (s.bH.length:Int))).bind fun x99=>
      A.cond x99 (
       (A.aW 3 (sl 3 cC s.bH) (jE.getD 1 AV.undef)).bind fun nX=>
       ((A.deref nX sZ).bind fun nC=>A.ay 0 3 nC).bind fun x102=>
       (A.cells 3 x102).bind fun DV=>
       (A.splice 0 DV [ah,ah,ah]).bind fun sv=>
       ((A.lb (jE.getD 0 AV.undef)).bind fun AL=>A.ay 0 5 AL).bind fun nY=>
       (A.aj 1 sv).bind fun nZ=>
       (BS [nY,nZ] sZ).bind fun nV=>
       (A.ext 0 nV.1).bind fun n4=>
       (A.ext 1 nV.1).bind fun Bc=>
       (A.cells 2 n4).bind fun lT=>
       (A.splice 0 lT [ah,AV.aq]).bind fun DX=>
       (A.aN (AV.op id 0)).bind fun x113=>
       (A.aA 0 x113).bind fun x114=>
       (A.aA 0 x114).bind fun x115=>
       ((A.deref x115 nV.2).bind fun p6=>A.aj 0 p6).bind fun qi=>
       (A.aj 0 sv).bind fun xL=>
       (A.aj 2 sv).bind fun Bd=>
       (A.aj 1 DX).bind fun xM=>
       ((((A.cell xL).bind fun v=>some [v]).bind fun p7=>(A.splice 3 p7 [ah,ah,aI,ah,ah,AV.aq,ah,ah,ah,AV.nm]).bind fun xm=>((A.cell Bd).bind fun v=>some [v]).bind fun nT=>(A.splice 4 nT xm).bind fun AM=>((A.cell xM).bind fun v=>some [v]).bind fun xq=>(A.splice 5 xq AM).bind fun sw=>((A.cell (AV.int .i64 (-1))).bind fun v=>some [v]).bind fun qV=>(A.splice 6 qV sw).bind fun lU=>((A.cell (AV.int .i64 65535)).bind fun v=>some [v]).bind fun AN=>(A.splice 7 AN lU).bind fun AO=>((A.cell (AV.int .i64 (-1))).bind fun v=>some [v]).bind fun xu=>(A.splice 8 xu AO).bind fun AP=>some AP).bind fun cs=>some (AV.agg cs)).bind fun n5=>
       (((A.cells 10 n5).bind fun nU=>(A.splice 0 nU [ah,ah,aI,ah,ah,AV.aq,ah,ah,ah,AV.nm]).bind fun AQ=>some AQ).bind fun cs=>some (AV.sl 10 (chunks 10 1 cs))).bind fun lQ=>
       (A.append 10 (140737488355328 / 96) qi lQ nV.2).bind fun xH=>
       (A.aN (AV.op id 0)).bind fun lZ=>
       (A.aA 0 lZ).bind fun xQ=>
       (A.aA 0 xQ).bind fun xR=>
       ((A.cell xH.1).bind fun v=>some [v]).bind fun D0=>
       (A.storeAt xR D0 xH.2).bind fun AR=>
       (A.add (jE.getD 1 AV.undef) aH).bind fun mQ=>
       some (AX.normal,[(jE.getD 0 AV.undef),mQ],AR)) (
       some (AX.exit 6,[(jE.getD 0 AV.undef),(jE.getD 1 AV.undef)],sZ)))) [.lbx (bl s),.int .i64 (i:Int)] w=some (.normal,[.lbx (bl s),.int .i64 ((i+1:Nat):Int)],w')∧Hs bY aD w' (blk id (.box (gA rJ bf .aq (bN s)))*(Sl (fl aP) 10 rJ ((s.bH.take i).map (kY s)++[kY s x])*R)):=by
   have K1:=hs_eq (show _=Sl (fl aP) 10 vb ((s.bH.take i).map (kY s))*(blk id (.box (gA vb bf .aq (bN s)))*R) by ac_rfl) K
   have cvb:=AB K1
   simp only[List.getD_cons_zero,List.getD_cons_succ]
   rw[jM hx,bS,cA,jk hx,bS,oq,bS,show A.ay 0 3 (cC x)=some (.agg (cC x))from rfl,bS,show A.cells 3 (.agg (cC x))=some (cC x)from rfl,bS,show A.splice 0 (cC x) [ah,ah,ah]=some (cC x)from rfl,bS,ij,bS,show A.ay 0 5 (bl s)=some (.agg (bl s))from rfl,bS,show A.aj 1 (cC x)=some (.int .i64 x.list)from rfl,bS,Wn (aav s C4 x.list),bS]
   simp only
   rw[iQ,bS,ext1,bS,show A.cells 2 (.agg (dR (tu s.lists x.list).1))=some (dR (tu s.lists x.list).1)from rfl,bS,show A.splice 0 (dR (tu s.lists x.list).1) [ah,AV.aq]=some (dR (tu s.lists x.list).1)from rfl,bS]
   simp only[show A.aN (.op id 0)=some (.op id 0)from rfl,bS,show A.aA 0 (.op id 0)=some (.op id 0)from rfl]
   rw[show((A.deref (.op id 0) w).bind fun p6=>A.aj 0 p6)=some vb from by simp only[A.deref,hb];exact cvb,bS,show A.aj 0 (cC x)=some (.int .i64 x.number)from rfl,bS,show A.aj 2 (cC x)=some (.int .i64 x.priority)from rfl,bS,Qr,bS,akE,bS,ak8,bS]
   obtain⟨rJ,w2,f1,f2⟩:=MG (most:=140737488355328 / 96) (E:=fl aP) (l:=(s.bH.take i).map (kY s)) (v:=vb) (e:=aP (kY s x)) (x:=kY s x) (R:=blk id (.box (gA vb bf .aq (bN s)))*R) (by rw[List.length_map,List.length_take];omega) (hs_eq (by rw[show fl aP (aP (kY s x)) (kY s x)=pr (aP (kY s x)=aP (kY s x))from rfl];ac_rfl) (nR.2 ⟨(rfl:aP (kY s x)=aP (kY s x)),K1⟩))
   rw[f1,bS]
   simp only
   have f3:=hs_eq (show _=blk id (.box (gA vb bf .aq (bN s)))*(Sl (fl aP) 10 rJ ((s.bH.take i).map (kY s)++[kY s x])*R) by ac_rfl) f2
   have zH:=(iW f3).2
   have f4:=Aq (b':=.box (gA rJ bf .aq (bN s))) f3 trivial
   rw[show((A.cell rJ).bind fun v=>some [v])=some [rJ]from by rw[AB f2];rfl,bS,show A.storeAt (.op id 0) [rJ] w2=some (w2.set id (.box (gA rJ bf .aq (bN s))))from by simp only[A.storeAt,zH];rfl,bS,gK hx (by unfold aU;omega),bS]
   exact⟨rJ,_,rfl,f4⟩
  obtain⟨rJ,w',s1,s2⟩:=step
  refine .inl ⟨s.bH.length-(i+1),_,_,by omega,s1,i+1,rJ,h,rfl,rfl,?_⟩
  rw[List.take_add_one,hx,Option.toList_some,List.map_append,List.map_cons,List.map_nil]
  exact s2
 ·have:i=s.bH.length:=by omega
  subst this
  rw[List.take_length]at K
  refine .inr ⟨(.exit 6,[.lbx (bl s),.int .i64 (s.bH.length:Int)],w),?_,by simp,vb,w,rfl,K⟩
  simp only[List.getD_cons_zero,List.getD_cons_succ]
  rw[j0,bS,cz]
theorem Z3 {eS:List Sh} {r:AV→Heap→Option (AV×Heap)} {x v:AV} {σ σ':Heap} (ho:A.own x=false) (e1:A.bT eS [x]=[x]) (e:r x σ=some (v,σ')):A.wrap true eS .k (A.dH r) [x] σ=some (v,σ'):=by
 have e2:A.dH r [x] σ=some (v,σ'):=e
 simp only[A.wrap,List.any_cons,ho,List.any_nil,Bool.or_self,Bool.and_false,cond_false,e1,e2,Option.map_some,gQ]
theorem alu {s:gJ} (hs:Aj s) (h:¬qP s=0) (σ:Heap):Dr [.agg (bl s)] σ=some (.aF [.np,.int .i64 (qP s)],σ):=by
 refine Z3 rfl (ff (mA rfl) rfl) ?_
 unfold Ij
 rw[show A.cells 5 (.agg (bl s))=some (bl s)from rfl,bS,show A.ay 0 5 (bl s)=some (.agg (bl s))from rfl,bS,Vr (VY s hs),bS]
 simp only
 rw[fI,bS,decide_eq_true h,cA]
theorem amu {s:gJ} (hs:Aj s) (h:qP s=0) (H:Hs bY aD σ R):∃id σ',Dr [.agg (bl s)] σ=some (.aF [.op id 0,.int .i64 0],σ')∧Hs bY aD σ' (qR (.op id 0) (bN s)*R):=by
 suffices hh:∃id σ',Ij (.agg (bl s)) σ=some (.aF [.op id 0,.int .i64 0],σ')∧Hs bY aD σ' (qR (.op id 0) (bN s)*R) by
  obtain⟨id,σ',e,K⟩:=hh
  exact⟨id,σ',Z3 rfl (ff (mA rfl) rfl) e,K⟩
 have hO:=Nv hs h
 have hB:=hO.bd
 unfold Ij
 rw[show A.cells 5 (.agg (bl s))=some (bl s)from rfl,bS,show A.ay 0 5 (bl s)=some (.agg (bl s))from rfl,bS,Vr (VY s hs),bS]
 simp only
 rw[fI,bS,decide_eq_false (fun q=>q h),cz,bS,aiC hB,bS]
 simp only
 rw[show A.cells 5 (.agg (bl s))=some (bl s)from rfl,bS,show A.splice 0 (bl s) (bl s)=some (bl s)from rfl,bS,show A.ay 0 5 (bl s)=some (.agg (bl s))from rfl,bS]
 obtain⟨bf,abB⟩:∃bf,bf=σ.length:=⟨_,rfl⟩
 obtain⟨id,hid⟩:∃id,id=(σ++[aK.map []]).length:=⟨_,rfl⟩
 rw[←abB,←hid]
 rw[show(((A.cells 5 (.agg (bl s))).bind fun dJ=>(A.splice 4 dJ [AV.aq,ah,ah,aI,AV.aq,AV.aq,AV.aq,AV.aq,AV.aq,AV.aq,AV.nm,AV.aq]).bind fun fN=>((A.cell (AV.om bf)).bind fun v=>some [v]).bind fun dX=>(A.splice 10 dX fN).bind fun fV=>some fV).bind fun cs=>some (AV.agg cs))=some (.agg [AV.aq,ah,ah,aI,sl 3 bP s.aR.aS,sl 4 bB s.aR.units,sl 3 dP s.bJ,sl 2 dR s.lists,sl 3 cC s.bH,AV.aq,.om bf,AV.aq])from rfl,bS]
 rw[show A.cells 12 (.agg [AV.aq,ah,ah,aI,sl 3 bP s.aR.aS,sl 4 bB s.aR.units,sl 3 dP s.bJ,sl 2 dR s.lists,sl 3 cC s.bH,AV.aq,.om bf,AV.aq])=some [AV.aq,ah,ah,aI,sl 3 bP s.aR.aS,sl 4 bB s.aR.units,sl 3 dP s.bJ,sl 2 dR s.lists,sl 3 cC s.bH,AV.aq,.om bf,AV.aq]from rfl,bS]
 have K0:=IM (b:=aK.map (([]:List (aB×cI)).map iw)) H trivial
 rw[←abB]at K0
 have K1:=IM (b:=aK.box [AV.aq,ah,ah,aI,sl 3 bP s.aR.aS,sl 4 bB s.aR.units,sl 3 dP s.bJ,sl 2 dR s.lists,sl 3 cC s.bH,AV.aq,.om bf,AV.aq]) K0 trivial
 rw[show(σ++[aK.map (([]:List (aB×cI)).map iw)]).length=id from hid.symm]at K1
 have zG:=(iW K1).2
 have K2:=Aq (b':=.box [AV.aq,ah,(AV.int .i64 65535),aI,sl 3 bP s.aR.aS,sl 4 bB s.aR.units,sl 3 dP s.bJ,sl 2 dR s.lists,sl 3 cC s.bH,AV.aq,.om bf,AV.aq]) K1 trivial
 rw[List.map_nil]at zG K2
 simp only[show A.aN (.op id 0)=some (.op id 0)from rfl,bS,show A.aA 0 (.op id 0)=some (.op id 0)from rfl,show A.aA 2 (.op id 0)=some (.op id 2)from by simp [A.aA],pV]
 rw[show A.storeAt (.op id 2) [.int .i64 65535] ((σ++[aK.map []])++[aK.box [AV.aq,ah,ah,aI,sl 3 bP s.aR.aS,sl 4 bB s.aR.units,sl 3 dP s.bJ,sl 2 dR s.lists,sl 3 cC s.bH,AV.aq,.om bf,AV.aq]])=some (((σ++[aK.map []])++[aK.box [AV.aq,ah,ah,aI,sl 3 bP s.aR.aS,sl 4 bB s.aR.units,sl 3 dP s.bJ,sl 2 dR s.lists,sl 3 cC s.bH,AV.aq,.om bf,AV.aq]]).set id (.box [AV.aq,ah,(AV.int .i64 65535),aI,sl 3 bP s.aR.aS,sl 4 bB s.aR.units,sl 3 dP s.bJ,sl 2 dR s.lists,sl 3 cC s.bH,AV.aq,.om bf,AV.aq]))from by simp only[A.storeAt,zG];rfl,bS]
 generalize (((σ++[aK.map []])++[aK.box [AV.aq,ah,ah,aI,sl 3 bP s.aR.aS,sl 4 bB s.aR.units,sl 3 dP s.bJ,sl 2 dR s.lists,sl 3 cC s.bH,AV.aq,.om bf,AV.aq]]).set id (.box [AV.aq,ah,(AV.int .i64 65535),aI,sl 3 bP s.aR.aS,sl 4 bB s.aR.units,sl 3 dP s.bJ,sl 2 dR s.lists,sl 3 cC s.bH,AV.aq,.om bf,AV.aq]))=W2 at K2 ⊢
 rw[show A.ay 0 2 (bl s)=some (.agg (eo s.aR))from rfl,bS,Rp s.aR hs.1,bS,if_pos hO.aR]
 simp only
 rw[iQ,bS,ext1,bS]
 have zH:=(iW K2).2
 have K3:=Aq (b':=.box (gA .aq bf .aq (bN s))) K2 trivial
 simp only[show A.aA 9 (.op id 0)=some (.op id 9)from by simp [A.aA],bS]
 rw[show((A.cell (sl 2 aL (nQ s.aR))).bind fun v=>some [v])=some [sl 2 aL (nQ s.aR)]from rfl,bS,show A.storeAt (.op id 9) [sl 2 aL (nQ s.aR)] W2=some (W2.set id (.box (gA .aq bf .aq (bN s))))from by simp only[A.storeAt,zH];rfl,bS]
 generalize W2.set id (.box (gA .aq bf .aq (bN s)))=W3 at K3 ⊢
 rw[Wu,bS,gf,bS]
 obtain⟨mI,aoy⟩:∃mI,mI=W3.length:=⟨_,rfl⟩
 have K4:=IM (b:=aK.map (([]:List (ByteArray×cm)).map vP)) K3 trivial
 rw[←aoy]at K4 ⊢
 rw[List.map_nil]at K4
 obtain⟨W4,l1,K5⟩:=am3 (s:=s) hB.gq K4
 refine Jg l1 ?_
 simp only[nG,List.getD_cons_zero,List.getD_cons_succ,ij,bS]
 rw[show A.aj (0+1) (bl s)=some (sl 4 bB s.aR.units)from rfl,bS,gf,bS]
 obtain⟨W5,l2,K6⟩:=am4 (s:=s) hB (id:=id) (bf:=bf) (mI:=mI) (cs:=gA .aq bf .aq (bN s)) (R:=R) rfl (hs_eq (by ac_rfl) K5)
 refine Jg l2 ?_
 simp only[nG,List.getD_cons_zero,List.getD_cons_succ,ij,bS]
 rw[show A.aj 4 (bl s)=some (sl 3 cC s.bH)from rfl,bS,gf,bS]
 obtain⟨vb,W6,l3,K7⟩:=am5 (s:=s) hO (id:=id) (bf:=bf) (R:=blk bf (.map ((uE s.aR).map iw))*(blk mI (.map ((lD s.aR.aS).map vP))*R)) (hs_eq (by ac_rfl) K6)
 refine Jg l3 ?_
 simp only[nG]
 refine⟨id,W6,rfl,F0 (vb:=vb) (bf:=bf) (va:=.aq) rfl ?_⟩
 have K8:=wT (hs_eq (show _=blk mI (.map ((lD s.aR.aS).map vP))*(blk id (.box (gA vb bf .aq (bN s)))*(Sl (fl aP) 10 vb (s.bH.map (kY s))*(blk bf (.map ((uE s.aR).map iw))*R))) by ac_rfl) K7)
 have K9:=yA (v:=.aq) (E:=fl bG) (sz:=5) K8 (.inl rfl)
 exact hs_eq (show _=lM id vb bf .aq (bN s)*R by unfold lM;show _=blk id (.box (gA vb bf .aq (bN s)))*(Sl (fl aP) 10 vb (s.bH.map (kY s))*(blk bf (.map ((uE s.aR).map iw))*Sl (fl bG) 5 .aq []))*R;ac_rfl) K9
theorem ald (l:List fC) {aD w:Heap} {R:HP} (_:Hs bY aD w (emp*R)) {i:Nat} {x:fC} (hx:l[i]? =some x):∃p,A.aW 5 (sl 5 bG l) (.int .i64 (i:Int))=some p∧A.deref p w=some (bG x):=⟨_,jk hx,oq _ _⟩
end
end
theorem WJ (size:Int):∀(l pre:List cI),zw size pre l=0→(∀x∈l,iI x.name (pre.map (·.name))=false)∧(l.map (·.name)).Nodup
 |[],pre,h=>⟨by simp,by simp⟩
 |x::l,pre,h=>by
  rw[zw]at h
  split at h
  ·simp at h
  split at h
  ·simp at h
  rename_i h2
  split at h
  ·simp at h
  split at h
  ·simp at h
  split at h
  ·simp at h
  split at h
  case isFalse=>rename_i h6;exact absurd h h6
  obtain⟨q1,q2⟩:=WJ size l _ h
  refine⟨fun y hy=>?_,?_⟩
  ·simp only[List.mem_cons]at hy
   rcases hy with rfl|hy
   ·simpa using h2
   ·have:=q1 y hy
    cases hc:iI y.name (pre.map (·.name))
    ·rfl
    ·rw[F7]at hc
     have h3:iI y.name ((pre++[x]).map (·.name))=true:=F7.2 (by rw[List.map_append];exact List.mem_append.2 (.inl hc))
     rw[this]at h3;cases h3
  ·rw[List.map_cons,List.nodup_cons]
   refine⟨fun hx=>?_,q2⟩
   obtain⟨y,hy,e⟩:=List.mem_map.1 hx
   have:=q1 y hy
   have h3:iI y.name ((pre++[x]).map (·.name))=true:=F7.2 (by rw[List.map_append];exact List.mem_append.2 (.inr (by simp [e])))
   rw[this]at h3;cases h3
theorem afS {r:dO} (h:gp r=0) (nm:ByteArray):((iP nm r.aS).1.params.map (·.name)).Nodup:=by
 rw[H9]
 cases hf:r.aS.find? (fun x:cm=>decide (x.name=nm))with
 |none=>exact List.nodup_nil
 |some p=>
  have:=Ie (DA h) p (List.mem_of_find?_eq_some hf)
  unfold pL at this
  repeat' split at this
  all_goals first|(simp at this;done)|exact(WJ _ _ _ this).2
theorem QM {α κ ν:Type} [DecidableEq κ] {f:α→κ} {g:α→ν} {k:κ}:∀(l:List α) (m:List (κ×ν)),(l.map f).Nodup→bM k (l.foldl (fun m x=>dz (f x) (g x) m) m)=((l.find? (fun x=>decide (f x=k))).map g).or (bM k m)
 |[],m,_=>by simp
 |x::l,m,h=>by
  rw[List.map_cons,List.nodup_cons]at h
  rw[List.foldl_cons,QM l _ h.2,QE,List.find?_cons]
  by_cases e:f x=k
  ·have hn:l.find? (fun x=>decide (f x=k))=none:=by
    rw[List.find?_eq_none]
    intro y hy q
    exact h.1 (List.mem_map.2 ⟨y,hy,by rw[e];simpa using q⟩)
   rw[hn,if_pos e.symm,decide_eq_true e]
   rfl
  ·rw[if_neg (fun q=>e q.symm),decide_eq_false e]
theorem WG:∀(l pre:List cm),zu pre l=0→(∀x∈l,iI x.name (pre.map (·.name))=false)∧(l.map (·.name)).Nodup
 |[],pre,h=>⟨by simp,by simp⟩
 |x::l,pre,h=>by
  rw[zu]at h
  split at h
  case isFalse=>rename_i h6;exact absurd h h6
  split at h
  ·cases h
  rename_i h2
  obtain⟨q1,q2⟩:=WG l _ h
  refine⟨fun y hy=>?_,?_⟩
  ·simp only[List.mem_cons]at hy
   rcases hy with rfl|hy
   ·simpa using h2
   ·have:=q1 y hy
    rw[FP]at this ⊢
    intro q
    exact this (by rw[List.map_append];exact List.mem_append_left _ q)
  ·rw[List.map_cons,List.nodup_cons]
   refine⟨fun q=>?_,q2⟩
   obtain⟨y,hy,e⟩:=List.mem_map.1 q
   have:=q1 y hy
   rw[FP]at this
   exact this (by rw[List.map_append,e];simp)
theorem ahn {r:dO} (h:gp r=0) (u:ey):Cu (lD r.aS) u=(iP u.profile r.aS).1.params:=by
 have hl:=DA h
 have hn:(r.aS.map (·.name)).Nodup:=by
  unfold vQ at hl
  split at hl
  ·cases hl
  ·exact(WG _ _ hl).2
 unfold Cu
 have:bM u.profile (lD r.aS)=r.aS.find? (fun x:cm=>decide (x.name=u.profile)):=by
  unfold lD
  rw[QM (f:=fun p:cm=>p.name) (g:=fun p:cm=>p) r.aS [] hn]
  cases r.aS.find? (fun x:cm=>decide (x.name=u.profile))<;>rfl
 rw[this,H9]
 cases r.aS.find? (fun x:cm=>decide (x.name=u.profile))<;>rfl
theorem ahm {r:dO} (h:gp r=0) (u:ey) (m:List (aB×cI)) (k:aB):bM k (GD (lD r.aS) m u)=(if u.number=k.unit then(iP u.profile r.aS).1.params.find? (fun x=>decide (x.name=k.param))else none).or (bM k m):=by
 unfold GD
 rw[ahn h]
 have hn:((iP u.profile r.aS).1.params.map (fun x=>(⟨u.number,x.name⟩:aB))).Nodup:=by
  have:=afS h u.profile
  exact List.pairwise_map.2 ((List.pairwise_map.1 this).imp fun{a b} q e=>q (by injection e))
 rw[QM (f:=fun x:cI=>(⟨u.number,x.name⟩:aB)) (g:=fun x:cI=>x) _ m hn]
 congr 1
 by_cases e:u.number=k.unit
 ·rw[if_pos e,Option.map_id']
  congr 1
  funext x
  refine decide_eq_decide.2 ⟨fun q=>by rw[←q],fun q=>?_⟩
  obtain⟨a,b⟩:=k
  simp only at e q
  rw[e,q]
 ·rw[if_neg e]
  have:(iP u.profile r.aS).1.params.find? (fun x=>decide ((⟨u.number,x.name⟩:aB)=k))=none:=by
   rw[List.find?_eq_none]
   intro x _ q
   have q:(⟨u.number,x.name⟩:aB)=k:=by simpa using q
   exact e (by rw[←q])
  rw[this];rfl
theorem XU {r:dO} (h:gp r=0) (k:aB):∀(l:List ey) (m:List (aB×cI)),(l.map (·.number)).Nodup→bM k (l.foldl (GD (lD r.aS)) m)=((l.find? (fun u=>decide (u.number=k.unit))).bind fun u=>(iP u.profile r.aS).1.params.find? (fun x=>decide (x.name=k.param))).or (bM k m)
 |[],m,_=>by simp
 |u::l,m,hn=>by
  rw[List.map_cons,List.nodup_cons]at hn
  rw[List.foldl_cons,XU h k l _ hn.2,ahm h,List.find?_cons]
  by_cases e:u.number=k.unit
  ·have hf:l.find? (fun u=>decide (u.number=k.unit))=none:=by
    rw[List.find?_eq_none]
    intro y hy q
    exact hn.1 (List.mem_map.2 ⟨y,hy,by rw[e];simpa using q⟩)
   rw[hf,if_pos e,decide_eq_true e]
   rfl
  ·rw[if_neg e,decide_eq_false e]
   rfl
theorem Q1 {r:dO} (h:gp r=0) (k:aB):bM k (uE r)=if(jj r k).2=true then some (jj r k).1 else none:=by
 have hs:(r.units.map (·.number)).Nodup:=(Qc h).imp fun q=>by omega
 unfold uE
 rw[XU h k _ _ hs]
 have key:∀(o:Option ey) (q:ey→Option cI),((o.bind q).or (bM k ([]:List (aB×cI))))=if(o.elim (zg,false) fun u=>(q u).elim (zg,false) fun x=>(x,true)).2=true then some (o.elim (zg,false) fun u=>(q u).elim (zg,false) fun x=>(x,true)).1 else none:=by
  intro o q
  cases o with
  |none=>rfl
  |some u=>
   show((q u).or none)=if((q u).elim (zg,false) fun x=>(x,true)).2=true then some ((q u).elim (zg,false) fun x=>(x,true)).1 else none
   cases q u<;>rfl
 exact key _ _
theorem ajs {d:bI} {r:dO} (h:gp r=0) (hp:d.params=some (uE r)) (k:aB):dZ d k=if(jj r k).2=true then((jj r k).1.group,(jj r k).1.default,(jj r k).1.snap)else(0,0,false):=by
 unfold dZ
 rw[hp,Option.getD_some,Q1 h]
 by_cases e:(jj r k).2=true
 ·rw[if_pos e,if_pos e]
 ·rw[if_neg e,if_neg e]
section
set_option maxRecDepth 100000
open HP
section
variable {aD σ : Heap} {R R2 : HP}
end
theorem Gx (b:Bool) {aD σ:Heap} {R:HP} (H:Hs bY aD σ R):A.fin aD (.bool b) σ=some (.bool b,aD):=IJ H (by simp [A.bw]) (fun _=>rfl)
end
section
set_option maxRecDepth 100000
open HP
noncomputable def xJ:bI→Int→List fC→bI×Int×Int
 |d,_,[]=>(d,0,0)
 |d,i,a::r=>if(qt d a).2=0 then xJ (qt d a).1 (i+1) r else(d,i,(qt d a).2)
section
variable {aD σ : Heap} {R : HP}
theorem ahs {va:AV} {s:gJ} (hs:Aj s) (h0:¬qP s=0) (σ:Heap):BQ [.agg (bl s),va] σ=some (.aF [.np,.int .i64 0,.int .i64 (qP s)],σ):=by
 refine Z2 ?_
 unfold td
 rw[show A.cells 5 (.agg (bl s))=some (bl s)from rfl,bS,show A.ay 0 5 (bl s)=some (.agg (bl s))from rfl,bS,alu hs h0,bS]
 simp only
 rw[iQ,bS,ext1,bS,fI,bS,decide_eq_true h0,cA]
theorem agh {Q:HP} {va:AV} {s:gJ} {l:List fC} (hQ:∀{aD w:Heap} {R:HP},Hs bY aD w (Q*R)→∀{i:Nat} {x:fC},l[i]? =some x→∃p,A.aW 5 va (.int .i64 (i:Int))=some p∧A.deref p w=some (bG x)) (Uq:A.bK va=some (.int .i64 (l.length:Int))) (hs:Aj s) (h0:qP s=0) (hl:l.length≤aU) (H:Hs bY aD σ (Q*R)):
  ((xJ (bN s) 0 l).2.2=0→∃id σ',BQ [.agg (bl s),va] σ=some (.aF [.op id 0,.int .i64 0,.int .i64 0],σ')∧zo (xJ (bN s) 0 l).1∧Hs bY aD σ' (qR (.op id 0) (xJ (bN s) 0 l).1*(Q*R)))∧
  (¬(xJ (bN s) 0 l).2.2=0→∃σ',BQ [.agg (bl s),va] σ=some (.aF [.np,.int .i64 (xJ (bN s) 0 l).2.1,.int .i64 (xJ (bN s) 0 l).2.2],σ')∧Hs bY aD σ' (Q*R)):=by
 obtain⟨f,hf⟩:∃f,f=xJ (bN s) 0 l:=⟨_,rfl⟩
 rw[←hf]
 obtain⟨id,W,n1,K⟩:=amu hs h0 H
 have hL:∃q,A.loop ((fun v8 s9=>
    (A.lss (v8.getD 3 AV.undef) (AV.int .i64 (l.length:Int))).bind fun cg=>
    A.cond cg (
     (A.aW 5 va (v8.getD 3 AV.undef)).bind fun ck=>
     ((A.deref ck s9).bind fun fV=>A.ay 0 5 fV).bind fun cN=>
     (A.cells 5 cN).bind fun gV=>
     (A.splice 0 gV [ah,ah,ah,ah,ah]).bind fun jO=>
     (A.ay 0 5 jO).bind fun cQ=>
     (Fy [(AV.op id 0),cQ] s9).bind fun tQ=>
     (A.neq .i tQ.1 ah).bind fun bX=>
     A.cond bX (
      some (AX.ret,[AV.np,(v8.getD 3 AV.undef),tQ.1,(v8.getD 3 AV.undef)],tQ.2)) (
      (A.add (v8.getD 3 AV.undef) aH).bind fun cR=>
      some (AX.normal,[(v8.getD 0 AV.undef),(v8.getD 1 AV.undef),(v8.getD 2 AV.undef),cR],tQ.2))) (
     some (AX.exit 0,[(v8.getD 0 AV.undef),(v8.getD 1 AV.undef),(v8.getD 2 AV.undef),(v8.getD 3 AV.undef)],s9)))) [AV.np,.int .i64 0,.int .i64 0,.int .i64 0] W=some q∧∃u W',(f.2.2=0∧q=(.exit 0,u,W')∧zo f.1∧Hs bY aD W' (Q*(qR (.op id 0) f.1*R)))∨(¬f.2.2=0∧∃u3,q=(.ret,[AV.np,.int .i64 f.2.1,.int .i64 f.2.2,u3],W')∧Hs bY aD W' (Q*R)):=by
  refine nO (fun z v w=>∃(i:Nat) (d:bI),i≤l.length∧v=[AV.np,.int .i64 0,.int .i64 0,.int .i64 (i:Int)]∧z=l.length-i∧xJ d (i:Int) (l.drop i)=f∧zo d∧Hs bY aD w (Q*(qR (.op id 0) d*R))) ?_ (n:=l.length) ⟨0,bN s,Nat.zero_le _,rfl,rfl,hf.symm,YQ (Nv hs h0),hs_eq (by ac_rfl) K⟩
  rintro z v w ⟨i,d,hi,rfl,hz,hT,Uj,K⟩
  by_cases h:i<l.length
  ·obtain⟨x,cG⟩:∃x,x=l[i]:=⟨_,rfl⟩
   have hx:l[i]? =some x:=by rw[cG];exact List.getElem?_eq_getElem h
   rw[List.drop_eq_getElem_cons h,←cG]at hT
   obtain⟨p,p1,p2⟩:=hQ K hx
   obtain⟨w',d1,d2⟩:=ane Uj x (R:=Q*R) (hs_eq (by ac_rfl) K)
   unfold xJ at hT
   by_cases he:(qt d x).2=0
   ·rw[if_pos he]at hT
    rw[he]at d1
    refine .inl ⟨l.length-(i+1),_,w',by omega,?_,i+1,(qt d x).1,h,rfl,rfl,hT,alI Uj x,hs_eq (by ac_rfl) d2⟩
    simp only[List.getD_cons_zero,List.getD_cons_succ]
    rw[jM hx,bS,cA,p1,bS,p2,bS,FQ,bS,show A.cells 5 (.agg (bG x))=some (bG x)from rfl,bS,ZU,bS,FQ,bS,d1,bS]
    simp only
    rw[fI,bS,decide_eq_false (fun q=>q rfl),cz,gK hx hl,bS]
   ·rw[if_neg he]at hT
    have uW:f.2.2=(qt d x).2:=by rw[←hT]
    have C2:f.2.1=(i:Int):=by rw[←hT]
    refine .inr ⟨(.ret,[AV.np,.int .i64 f.2.1,.int .i64 f.2.2,.int .i64 (i:Int)],w'),?_,by simp,[],w',.inr ⟨by rw[uW];exact he,_,rfl,wT d2⟩⟩
    simp only[List.getD_cons_zero,List.getD_cons_succ]
    rw[jM hx,bS,cA,p1,bS,p2,bS,FQ,bS,show A.cells 5 (.agg (bG x))=some (bG x)from rfl,bS,ZU,bS,FQ,bS,d1,bS]
    simp only
    rw[fI,bS,decide_eq_true he,cA,C2,uW]
  ·have:i=l.length:=by omega
   subst this
   rw[List.drop_length]at hT
   have hT:(d,0,0)=f:=hT
   refine .inr ⟨(.exit 0,[AV.np,.int .i64 0,.int .i64 0,.int .i64 (l.length:Int)],w),?_,by simp,[AV.np,.int .i64 0,.int .i64 0,.int .i64 (l.length:Int)],w,.inl ⟨by rw[←hT],rfl,by rw[←hT];exact Uj,by rw[←hT];exact K⟩⟩
   simp only[List.getD_cons_zero,List.getD_cons_succ]
   rw[j0,bS,cz]
 obtain⟨q,l1,u,W',hq⟩:=hL
 have head:∀r,(A.loop ((fun v8 s9=>
    (A.lss (v8.getD 3 AV.undef) (AV.int .i64 (l.length:Int))).bind fun cg=>
    A.cond cg (
     (A.aW 5 va (v8.getD 3 AV.undef)).bind fun ck=>
     ((A.deref ck s9).bind fun fV=>A.ay 0 5 fV).bind fun cN=>
     (A.cells 5 cN).bind fun gV=>
     (A.splice 0 gV [ah,ah,ah,ah,ah]).bind fun jO=>
     (A.ay 0 5 jO).bind fun cQ=>
     (Fy [(AV.op id 0),cQ] s9).bind fun tQ=>
     (A.neq .i tQ.1 ah).bind fun bX=>
     A.cond bX (
      some (AX.ret,[AV.np,(v8.getD 3 AV.undef),tQ.1,(v8.getD 3 AV.undef)],tQ.2)) (
      (A.add (v8.getD 3 AV.undef) aH).bind fun cR=>
      some (AX.normal,[(v8.getD 0 AV.undef),(v8.getD 1 AV.undef),(v8.getD 2 AV.undef),cR],tQ.2))) (
     some (AX.exit 0,[(v8.getD 0 AV.undef),(v8.getD 1 AV.undef),(v8.getD 2 AV.undef),(v8.getD 3 AV.undef)],s9)))) [AV.np,.int .i64 0,.int .i64 0,.int .i64 0] W).bind (fun lS=>bif lS.1==AX.exit 0 then(some ((AV.aF [AV.op id 0,ah,ah]),lS.2.2))else bif lS.1==AX.ret then(some ((AV.aF [(lS.2.1.getD 0 AV.undef),(lS.2.1.getD 1 AV.undef),(lS.2.1.getD 2 AV.undef)]),lS.2.2))else none)=r→BQ [.agg (bl s),va] σ=r.map fun q=>(A.nn .k q.1,q.2):=by
  intro r hr
  have e:td (.agg (bl s)) va σ=r:=by
   unfold td
   rw[show A.cells 5 (.agg (bl s))=some (bl s)from rfl,bS,show A.ay 0 5 (bl s)=some (.agg (bl s))from rfl,bS,n1,bS]
   simp only
   rw[iQ,bS,ext1,bS,fI,bS,decide_eq_false (fun q=>q rfl),cz,Uq,bS]
   exact hr
  have:A.bQ td [.agg (bl s),va] σ=r:=e
  show A.wrap false [] .k (A.bQ td) [.agg (bl s),va] σ=_
  simp only[A.wrap,Bool.false_and,cond_false,A.bT,this]
 rw[l1]at head
 refine⟨fun h=>?_,fun h=>?_⟩
 ·rcases hq with⟨_,rfl,hKf,K'⟩|⟨h2,_⟩
  ·refine⟨id,W',?_,hKf,hs_eq (by ac_rfl) K'⟩
   rw[head _ rfl,bS]
   simp only[nG,Option.map_some,gQ]
  ·exact absurd h h2
 ·rcases hq with⟨h2,_⟩|⟨_,u3,rfl,K'⟩
  ·exact absurd h2 h
  ·refine⟨W',?_,K'⟩
   rw[head _ rfl,bS]
   simp only[show(AX.ret==AX.exit 0)=false from rfl,cond_false,show(AX.ret==AX.ret)=true from rfl,cond_true,Option.map_some,gQ,List.getD_cons_zero,List.getD_cons_succ]
noncomputable def Ar (d:bI) (k:aB) (t:Int):Int:=(([zl d.actions t,if(!(bM k (d.params.getD [])).isSome)=true then 8 else 0]:List Int).find? fun n=>decide (¬n=0)).getD 0
theorem akB (d:bI) (hl:d.actions.length≤aU) (k:aB) (t:Int) (σ:Heap):HH [.rp (pU d),.agg (aL k),.int .i64 t] σ=some (.int .i64 (Ar d k t),σ):=by
 refine aiB rfl rfl (gQ _) ?_
 unfold Vt
 rw[wS,bS,pe,bS,kX,bS,P5,bS,nP,bS,WM pM k _ rfl,bS,iQ,bS,ext1,bS]
 rw[show(((bM k (d.params.getD [])).map fun x=>AV.agg (bU x)).getD (AV.agg Cv))=.agg (jv d k)from by unfold jv;cases bM k (d.params.getD [])<;>rfl,DE,bS,Sc,bS,amj d hl,bS]
 simp only
 rw[sy,bS,tg,bS]
 simp only
 rw[abf,bS,Ab _ (by show 2≤aU;decide),bS]
 exact br _ _
noncomputable def BB (d:bI) (k:aB) (t:Int):Int×Int:=if ¬(Ar d k t=0)then(0,Ar d k t)else(NG d (kS d d.state t) k t,0)
theorem aiD {pd:AV} {d:bI} (hK:zo d) (k:aB) (t:Int) (H:Hs bY aD σ (qR pd d*R)):∃σ',O2 [pd,.agg (aL k),.int .i64 t] σ=some (.aF [.int .i64 (BB d k t).1,.int .i64 (BB d k t).2],σ')∧Hs bY aD σ' (qR pd d*R):=by
 suffices h:∃σ',Lc pd (.agg (aL k)) (.int .i64 t) σ=some (.aF [.int .i64 (BB d k t).1,.int .i64 (BB d k t).2],σ')∧Hs bY aD σ' (qR pd d*R) by
  obtain⟨σ',e,h⟩:=h
  exact⟨σ',Ni (gQ _) e,h⟩
 obtain⟨id,vb,bf,va,rfl,hp,H⟩:=Yo H
 have He:d.actions.length≤aU:=by have:=hK.len;unfold aU;omega
 have ou:=aaa H
 have N9:=hs_eq (show _=Sl (fl aP) 10 vb d.state.az*(blk id (.box (gA vb bf va d))*(blk bf (.map ((d.params.getD []).map iw))*Sl (fl bG) 5 va d.actions)*R) by unfold lM;ac_rfl) H
 have hkn:HH [.op id 0,.agg (aL k),.int .i64 t] σ=some (.int .i64 (Ar d k t),σ):=
  CR (cO:=[.op id 0,.agg (aL k),.int .i64 t]) (ts:=[.rp (pU d),.agg (aL k),.int .i64 t]) ⟨MS hp H,IX (vE (yV k)) rfl,R3 t,trivial⟩ (fun σ=>akB d He k t σ) rfl
 unfold Lc BB
 rw[wS,bS,nP,bS,hkn,bS]
 simp only
 rw[fI,bS]
 by_cases h0:Ar d k t=0
 case neg=>
  rw[decide_eq_true h0,cA,if_pos h0]
  exact⟨σ,rfl,F0 hp H⟩
 rw[decide_eq_false (fun q=>q h0),cz,if_neg (fun q=>q h0)]
 obtain⟨z1,z2⟩:=Zv h0
 obtain⟨t1,t2⟩:=ajM z1
 have hrd:=ZS hp H
 obtain⟨v,W,e1,e2⟩:=Zj hK.di hrd t1.2 hK.si t2 ⟨.op id 0,by simp [A.aA],by simp only[A.deref,ou];rfl⟩ (ZY N9)
 have JK:=QF hK.di hK.si t2 t1.2
 obtain⟨s1,hs1⟩:∃s1,s1=kS d d.state t:=⟨_,rfl⟩
 rw[←hs1]at e1 e2 JK ⊢
 rw[e1,bS]
 simp only
 rw[show A.cells 4 (.agg (bA v s1))=some (bA v s1)from rfl,bS]
 obtain⟨x1,x2,x3,x4⟩:=RT e2
 rw[x2,bS,bS]
 obtain⟨ids,Tm⟩:∃ids,ids=W.length:=⟨_,rfl⟩
 obtain⟨W0,C0⟩:∃W0,W0=W++[aK.box (bA v s1)]:=⟨_,rfl⟩
 rw[←Tm]at x3 x4 ⊢
 rw[←C0]at x3 x4 ⊢
 have Jk:∃ex,W0=σ++ex:=by rw[C0];obtain⟨ex,rfl⟩:=x1;exact⟨_,List.append_assoc _ _ _⟩
 have hlen:σ.length≤ids:=by rw[Tm];obtain⟨ex,rfl⟩:=x1;simp
 have K:Hs bY aD W0 (lM id vb bf va d*(blk ids (.box (bA v s1))*(Sl (fl aP) 10 v s1.az*R))):=by
  rcases x4 with⟨q1,q2⟩|⟨g,q1,q2⟩
  ·have A1:=Mt H Jk hlen x3
   rw[q2,q1]
   rw[q2]at A1
   exact hs_eq (by ac_rfl) (yA (v:=.ez) (E:=fl aP) (sz:=10) A1 (.inr rfl))
  ·obtain⟨exW,aov⟩:=x1
   have zH:W[σ.length+1]? =some (.arr g 10 (s1.az.map aP)):=by
    have:=q2.b2
    rcases e2 with⟨z1,z2,_⟩|⟨g',z1,z2⟩
    ·rw[q1]at z2;cases z2
    ·have hl:σ.length+1<W.length:=by rw[z2];simp
     rw[C0,List.getElem?_append_left hl]at this
     exact this
   have A1:=Mt H ⟨exW,aov⟩ (Nat.le_succ _) zH
   have A2:=Mt A1 (W:=W0) ⟨_,C0⟩ (by rw[Tm];exact Nat.le_refl _) x3
   rw[q1]
   rw[q1]at A2
   have A4:=hs_eq (show _=blk (σ.length+1) (.arr g 10 (s1.az.map aP))*(lM id vb bf va d*(blk ids (.box (bA (.os (σ.length+1) g 10 0 s1.az.length) s1))*R)) by ac_rfl) A2
   exact hs_eq (by ac_rfl) (Sa (n:=s1.az.length) A4)
 rw[akr hp K hK.di JK k,bS]
 obtain⟨ex,rfl⟩:=Jk
 exact⟨_,rfl,F0 hp (MR H ex)⟩
end
end
section
set_option maxRecDepth 100000
open HP
def mD (c:aY) (k:aB) (n:Int):aY:={c with number:=1000,title:=⟨#[]⟩,block:=false,follow:=-1,dr:=[⟨k,⟨n,0⟩,false,false,0,0⟩]}
def lX (r:dO) (c:aY) (k:aB) (n:Int):gJ:=⟨r,[],[⟨1,[mD c k n]⟩],[⟨1,1,0⟩]⟩
def kn:fC:=⟨0,1,1,0,0⟩
def mE (p:cI) (n:Int) (c:aY):gm:=⟨if p.group=1 then 0 else p.default,n,0,c.delay,if p.snap=true then 0 else if p.group=1 then c.up else c.other,c.dS⟩
theorem alJ {b:bh} (h:b.follow<0):ia b=-1:=by unfold ia;rw[if_pos (.inl h)]
theorem Yd {d:bI} {s:bW} {b:bh} (hb:s.az=[b]) (h:b.follow<0) (t:Int):kS d s t=s:=by
 have hn:zj d t s=none:=by
  unfold zj
  rw[hb]
  have:qX t [b] 0 (-1,0)=(-1,0):=by
   show Ah t 0 b (-1,0)=_
   unfold Ah
   rw[alJ h,if_neg (by omega)]
  rw[this]
  exact if_pos (by decide)
 unfold kS
 cases w8 s.az with
 |zero=>rfl
 |succ n=>unfold yY;rw[hn]
theorem ajH {c:aY} {k:aB} {n:Int} (h:oS [mD c k n]=0) {b:bh} (hb:b.bD=[mD c k n]):vM b (mD c k n)=[⟨k,⟨n,0⟩,1000⟩]:=by
 unfold vM yQ
 rw[hb,if_neg (fun q=>q h),if_neg (by rw[show uA [mD c k n] (mD c k n).number=true from by simp [uA]];decide)]
 have hp:kZ [mD c k n] (mD c k n).number=0:=by simp [kZ]
 rw[hp]
 rfl
theorem Y6 {a:Int} (h:0≤a∧a≤65535):wD a 65535=a:=by unfold wD;omega
theorem ali {r:dO} {c:aY} {k:aB} {n:Int} (hs:Aj (lX r c k n)) (h0:qP (lX r c k n)=0) (hk:(jj r k).2=true) (hd:(qt (bN (lX r c k n)) kn).2=0) (Gz:¬36000000<c.delay+(mE (jj r k).1 n c).time):
  oM (mE (jj r k).1 n c)∧∀t,0≤t→t≤36000000→BB (qt (bN (lX r c k n)) kn).1 k t=(zK (mE (jj r k).1 n c) t,0):=by
 obtain⟨s,EN⟩:∃s,s=lX r c k n:=⟨_,rfl⟩
 obtain⟨x,hx⟩:∃x,x=mD c k n:=⟨_,rfl⟩
 rw[←EN]at hs h0 hd ⊢
 have hO:=Nv hs h0
 have GM:gp r=0:=by have:=hO.aR;rw[EN]at this;exact this
 have hK0:=YQ hO
 obtain⟨b0,hb0⟩:∃b0,b0=kY s ⟨1,1,0⟩:=⟨_,rfl⟩
 have ng:(bN s).state.az=[b0]:=by rw[hb0,EN];rfl
 have hc0:b0.bD=[x]:=by rw[hb0,EN,hx];rfl
 have hform:oS [x]=0:=hO.Og ⟨1,[x]⟩ (by rw[EN,hx];exact List.mem_singleton.2 rfl)
 have u9:=Rb hform (List.mem_singleton.2 rfl:x∈[x])
 -- the action
 unfold qt at hd ⊢
 by_cases e0:ED (bN s) kn=0
 case neg=>rw[if_pos e0]at hd;exact absurd hd e0
 rw[if_neg (fun q=>q e0)]at hd ⊢
 by_cases e1:(kg (bN s) (kS (bN s) (bN s).state kn.time) kn).2=0
 case neg=>rw[if_pos e1]at hd;exact absurd hd e1
 rw[if_neg (fun q=>q e1)]
 have hah:kS (bN s) (bN s).state kn.time=(bN s).state:=Yd ng (by rw[hb0];show(-1:Int)<0;decide) _
 obtain⟨s1,hs1⟩:∃s1:bW,s1={(bN s).state with number:=IntKind.i64.wrap ((bN s).state.number+1)}:=⟨_,rfl⟩
 obtain⟨b1,zG⟩:∃b1,b1=kL (bN s) s1 b0 x 0 0:=⟨_,rfl⟩
 have hact:(kg (bN s) (kS (bN s) (bN s).state kn.time) kn).1={s1 with az:=[b1]}:=by
  rw[hah]
  unfold kg
  rw[if_neg (by decide),if_neg (by decide),ng]
  have hi:(jI (fun b:bh=>decide (b.number=kn.jL)) [b0]).toNat=0:=by rw[hb0];rfl
  rw[hi]
  show(GG (bN s) (bN s).state kn 0 b0).1=_
  unfold GG
  rw[if_pos (show kn.kind=1 from rfl),if_neg (by rw[hc0,hb0];show ¬((-1:Int)+1=1);decide)]
  unfold uT
  rw[show(b0.bZ+1).toNat=0 from by rw[hb0];rfl,hc0]
  show({(bN s).state with number:=IntKind.i64.wrap ((bN s).state.number+1),az:=(bN s).state.az.set 0 (kL (bN s) {(bN s).state with number:=IntKind.i64.wrap ((bN s).state.number+1)} b0 x (b0.bZ+1) kn.time)}:bW)=_
  rw[←hs1,ng,zG,show b0.bZ+1=0 from by rw[hb0];rfl,hs1]
  rfl
 rw[hact]
 -- its run
 have yc:dc b0.clock 0=0:=by rw[hb0];rfl
 have abO:b0.runs=none:=by rw[hb0];rfl
 have Tc:∀k c,dw b0 k c=(abp,false):=fun k c=>by unfold dw;rw[abO];rfl
 obtain⟨run,hrun⟩:∃run,run=vJ (bN s) s1 b0 x 0 0 ⟨k,⟨n,0⟩,1000⟩:=⟨_,rfl⟩
 have hR:za (bN s) s1 b0 x 0=[(k,run)]:=by
  unfold za
  rw[yc,abO,show vM b0 x=[⟨k,⟨n,0⟩,1000⟩]from by rw[hx];rw[hx]at hform hc0;exact ajH hform hc0,hrun]
  rfl
 have abP:b1.runs=some [(k,run)]:=by
  rw[zG]
  show some (AZ (za (bN s) s1 b0 x 0))=_
  rw[hR,List.perm_singleton.1 (LZ [(k,run)])]
 have hpar:dZ (bN s) k=((jj r k).1.group,(jj r k).1.default,(jj r k).1.snap):=by
  rw[ajs (r:=r) GM (by rw[EN];rfl),if_pos hk]
 obtain⟨p,hp⟩:∃p,p=(jj r k).1:=⟨_,rfl⟩
 rw[←hp]at hpar Gz ⊢
 have aoA:zA (bN s) ⟨k,⟨n,0⟩,1000⟩=n∧0≤n∧n≤65535:=by
  have EJ:=hform
  unfold oS at EJ
  rw[if_neg (by simp)]at EJ
  by_cases h2:iH (uz [x]) [x] 0=0
  case neg=>rw[if_pos h2]at EJ;exact absurd EJ h2
  have ow:=(wM [x] 0).1 h2 0 x rfl
  unfold uz at ow
  split at ow
  ·cases ow
  split at ow
  ·cases ow
  split at ow
  ·cases ow
  split at ow
  ·cases ow
  split at ow
  ·rename_i h5;exact absurd ow h5
  split at ow
  ·cases ow
  have hm:=(wM x.dr 0).1 ow 0 ⟨k,⟨n,0⟩,false,false,0,0⟩ (by rw[hx];rfl)
  unfold GA at hm
  split at hm
  ·cases hm
  split at hm
  ·cases hm
  split at hm
  ·cases hm
  split at hm
  ·cases hm
  rename_i h6
  simp only[Bool.or_eq_true,Bool.not_eq_true',not_or,Bool.not_eq_false]at h6
  have hn:=oU h6.1
  refine⟨?_,hn⟩
  unfold zA vA
  simp only
  rw[if_neg (by simp),if_neg (by rw[h6.1];decide),if_pos trivial]
 have hgd:(bN s).setup=s:=rfl
 have hfd:wW (bN s) x k (if ¬p.group=1 then p.default else 0) n 0=mE p n c:=by
  have C1:x.delay=c.delay:=by rw[hx];rfl
  have Oa:=u9.d
  have hxu:=u9.u
  have aoN:=u9.o
  have abX:x.up=c.up:=by rw[hx];rfl
  have abW:x.other=c.other:=by rw[hx];rfl
  have hcv:x.dS=c.dS:=by rw[hx];rfl
  unfold wW
  rw[hpar]
  have h1:Gm x k (Ao p.group x (if ¬p.group=1 then p.default else 0) n 0)=Ao p.group x (if ¬p.group=1 then p.default else 0) n 0:=by
   unfold Gm
   rw[hx]
   simp [mD]
  rw[h1]
  have h2:Ce p.snap (Ao p.group x (if ¬p.group=1 then p.default else 0) n 0)=mE p n c:=by
   unfold Ce Ao mE
   rw[C1,abX,abW,hcv]
   by_cases g:p.group=1
   ·simp only[g,not_true_eq_false,if_false,if_true]
    rw[if_neg (show ¬n<0 by omega)]
    cases p.snap<;>rfl
   ·simp only[g,not_false_eq_true,if_true,if_false]
    cases p.snap<;>rfl
  rw[h2]
  have htm:0≤(mE p n c).time∧(mE p n c).time≤36000000:=by
   show 0≤(if p.snap=true then 0 else if p.group=1 then c.up else c.other)∧(if p.snap=true then 0 else if p.group=1 then c.up else c.other)≤36000000
   rw[←abX,←abW]
   split
   ·simp
   split
   ·exact hxu
   ·exact aoN
  rw[C1]at Oa
  obtain⟨tm,J5⟩:∃tm,tm=(mE p n c).time:=⟨_,rfl⟩
  rw[←J5]at Gz htm
  have e:mE p n c=⟨if p.group=1 then 0 else p.default,n,0,c.delay,tm,c.dS⟩:=by rw[J5];rfl
  rw[e]
  unfold sx
  have e1:mn 0 36000000=0:=by unfold mn;rw[if_neg (by decide)]
  simp only[e1]
  rw[show IntKind.i64.wrap (36000000-0)=36000000 from wrap64 (by unfold aM;omega)]
  have e2:mn c.delay 36000000=c.delay:=by unfold mn;rw[if_neg (by omega)]
  rw[e2,show IntKind.i64.wrap (36000000-c.delay)=36000000-c.delay from wrap64 (by unfold aM;omega)]
  have e3:mn tm (36000000-c.delay)=tm:=by unfold mn;rw[if_neg (by omega)]
  rw[e3]
 have hrf:run.jH=mE p n c∧run.ending=false:=by
  rw[hrun]
  unfold vJ
  rw[Tc,if_neg (fun q=>by cases q.1),aoA.1]
  refine⟨?_,rfl⟩
  show wW (bN s) x k (A3 (bN s) s1 b0 k 0 0) n 0=_
  have:A3 (bN s) s1 b0 k 0 0=if ¬p.group=1 then p.default else 0:=by
   unfold A3
   rw[Tc,if_neg (by decide),hpar]
   simp only
   congr 1
   unfold pH
   have:s1.az=[b0]:=by rw[hs1];exact ng
   rw[this]
   simp only[List.foldl_cons,List.foldl_nil,oP,Tc,true_or,if_true,hpar]
  rw[this,hfd]
 have hBI:uu 0 b1:=by
  rw[zG]
  have hsi:jq 0 s1:=by rw[hs1];exact Mz hK0.si _
  exact Rz hK0.di hsi (Int.le_refl _) (by decide) (by rw[hs1];show b0∈(bN s).state.az;rw[ng];exact List.mem_singleton.2 rfl) (to:=0) (by rw[hc0];rfl)
 have hfo:oM (mE p n c):=by
  rw[←hrf.1]
  exact hBI.runs k run (by rw[abP];exact List.mem_singleton.2 rfl)
 refine⟨hfo,fun t t0 t1=>?_⟩
 -- what is given
 have hkn:Ar {(bN s)with state:={s1 with az:=[b1]},actions:=(bN s).actions++[kn]} k t=0:=by
  unfold Ar
  have h1:zl ((bN s).actions++[kn]) t=0:=by
   unfold zl
   rw[if_pos (Da t0 t1),show qT ((bN s).actions++[kn])=0 from rfl,decide_eq_false (by omega)]
   rfl
  have h2:(bM k ((bN s).params.getD [])).isSome=true:=by
   show(bM k (uE s.aR)).isSome=true
   rw[show s.aR=r from by rw[EN];rfl,Q1 GM,if_pos hk];rfl
  show(([zl ((bN s).actions++[kn]) t,if(!(bM k ((bN s).params.getD [])).isSome)=true then 8 else 0]:List Int).find? fun n=>decide (¬n=0)).getD 0=0
  rw[h1,h2]
  rfl
 unfold BB
 rw[if_neg (fun q=>q hkn)]
 congr 1
 have aol:kS {(bN s)with state:={s1 with az:=[b1]},actions:=(bN s).actions++[kn]} {s1 with az:=[b1]} t={s1 with az:=[b1]}:=by
  refine Yd rfl ?_ t
  rw[zG]
  show(if 0≤x.follow∧(0:Int)+1<(b0.bD.length:Int)then _ else(-1:Int))<0
  rw[if_neg (fun q=>by have:=q.1;rw[hx]at this;exact absurd this (by show ¬(0:Int)≤-1;decide))]
  decide
 show NG {(bN s)with state:={s1 with az:=[b1]},actions:=(bN s).actions++[kn]} (kS {(bN s)with state:={s1 with az:=[b1]},actions:=(bN s).actions++[kn]} {s1 with az:=[b1]} t) k t=_
 rw[aol]
 have aor:dc b1.clock t=t:=by
  rw[zG]
  show dc ⟨dc b0.clock 0,0,false⟩ t=t
  rw[yc]
  show IntKind.i64.wrap (IntKind.i64.wrap (0+t) -0)=t
  rw[show IntKind.i64.wrap (0+t)=t from by rw[Int.zero_add];exact wrap64 (by unfold aM;omega),Int.sub_zero]
  exact wrap64 (by unfold aM;omega)
 have aou:dw b1 k t=(run,true):=by
  unfold dw
  rw[abP]
  simp only[Option.getD_some,bM,if_true,hrf.2,Bool.false_and,Bool.not_false]
 have hlv:sS run t=zK (mE p n c) t:=by
  unfold sS
  rw[if_neg (by omega),hrf.1]
 have hbd:=aaw hfo t
 have hmg:(pH {(bN s)with state:={s1 with az:=[b1]},actions:=(bN s).actions++[kn]} [b1] k t).out=zK (mE p n c) t:=by
  unfold pH
  have Sn:dZ {(bN s)with state:={s1 with az:=[b1]},actions:=(bN s).actions++[kn]} k=dZ (bN s) k:=rfl
  rw[Sn,hpar]
  simp only[List.foldl_cons,List.foldl_nil]
  unfold oP
  have hpr:b1.priority=0:=by rw[zG];show b0.priority=0;rw[hb0];rfl
  have hfa:b1.iX=65535:=by rw[zG];show b0.iX=65535;rw[hb0];rfl
  rw[aor,aou,hpr,if_neg (by simp),if_pos (.inl (by show(-1:Int)<0;decide))]
  show CS p.group b1 run t=_
  unfold CS
  rw[hlv,hfa]
  split
  ·exact Y6 hbd
  ·rfl
 unfold NG
 have Sn:dZ {(bN s)with state:={s1 with az:=[b1]},actions:=(bN s).actions++[kn]} k=dZ (bN s) k:=rfl
 rw[Sn,hpar]
 simp only
 rw[hmg]
 have wj:s1.mz=65535∧s1.black=false:=by rw[hs1];exact⟨rfl,rfl⟩
 rw[wj.1,wj.2]
 split
 ·rfl
 ·rw[if_neg (by decide)];exact Y6 hbd
theorem ah1 {d:bI} {k:aB} {t:Int} (h:¬(0≤t∧t≤36000000)):BB d k t=(0,1):=by
 have h1:zl d.actions t=1:=by
  unfold zl
  rw[if_neg (by unfold aQ;simpa using h)]
 have:Ar d k t=1:=by unfold Ar;rw[h1];rfl
 unfold BB
 rw[this,if_pos (by decide)]
theorem ams {f:gm} (h:oM f) {t:Int} (ht:¬(0≤t∧t≤36000000)) (σ:Heap):Ih [.agg (ew f),.int .i64 t] σ=some (.aF [.int .i64 0,.int .i64 1],σ):=by
 refine yR (z:=.int .i64 0) rfl (ff (mA rfl) rfl) (gQ _) ?_
 unfold Qx
 have hw:aQ t 0 36000000=false:=by unfold aQ;simpa using ht
 rw[Ac,bS,BZ,bS,Vq (aac h),bS]
 simp only
 rw[Fv (r:=false) (by unfold HR;rw[hw]),bS]
 simp only
 rw[aoS,bS,tg,bS]
 simp only[if_true]
 rw[show((((A.cell (.int .i64 0)).bind fun v=>some [v]).bind fun c7=>(A.splice 0 c7 [ah,ah]).bind fun c8=>((A.cell (.int .i64 1)).bind fun v=>some [v]).bind fun c9=>(A.splice 1 c9 c8).bind fun dJ=>some dJ).bind fun cs=>some (AV.sl 1 (chunks 1 2 cs)))=some (sl 1 qW [0,1])from rfl,bS,Ab _ (by decide),bS]
 simp only
 rw[show((List.find? (fun n=>decide (¬n=0)) ([0,1]:List Int)).getD 0)=1 from rfl,SI,bS,decide_eq_true (by decide),cA]
 exact br _ _
end
section
set_option maxRecDepth 100000
theorem acq (dyn:Nat→List AV→Heap→Option (AV×Heap)) (l:List cI) (hl:l.length≤aU) (n:Nat) (caps:List AV) (p:cI→Bool) (σ:Heap) (hd:∀x∈l,dyn n ((.agg (bU x):AV)::caps) σ=some (.bool (p x),σ)):KL dyn [sl 7 bU l,.fn n caps] σ=some (.int .i64 (jI p l),σ):=by
 refine wrap_eq rfl ?_ rfl
 show KM dyn (sl 7 bU l) (.fn n caps) σ=_
 unfold KM
 simp only[aO,reduceCtorEq]
 refine(oI (S:=Unit) (R:=Int) l (fun pre x _=>if p x=true then .out (pre.length:Int)else .go ())
  (fun pre _=>[.int .i64 0,.int .i64 (pre.length:Int)]) (fun _ _=>σ) (fun _=>(.exit 0,[.int .i64 0,.int .i64 (l.length:Int)],σ)) (fun pre _ r=>(.ret,[.int .i64 (pre.length:Int),.int .i64 (pre.length:Int)],σ))
  (fun _ _=>True) () (fun _=>some (AV.int .i64 (-1),σ)) (fun r=>some (AV.int .i64 r,σ)) ?_ ?_ trivial (fun _ _ _ _ _ _ _ _=>trivial) ?_ ?_).trans ?_
 ·intro pre x rest u hl' _
  have hx:=oL hl'
  have hlt:=qO hl'
  have hi1:IntKind.i64.wrap ((pre.length:Int)+1)=(pre.length:Int)+1:=wrap64 (by unfold aM;unfold aU at hl;omega)
  have hlt':(pre.length:Int)<(l.length:Int):=by omega
  have gO:=jZ 7 bU l hx
  have jT:=hd x (by rw[hl'];simp)
  simp only[aO,reduceCtorEq,H6,Ly,Lz,LA,LB,LC,LD,Mb,L0,Aa,hlt',gO,A.fR,List.cons_append,List.nil_append,jT,hi1]
  cases p x<;>simp [aO,reduceCtorEq]
 ·intro u _;simp only[aO,reduceCtorEq,Int.lt_irrefl]
 ·intro u _;simp only[aO,reduceCtorEq]
 ·intro pre x rest s q hl' _ hb
  have:q=(pre.length:Int):=by
   cases hpx:p x
   ·rw[hpx]at hb;cases hb
   ·rw[hpx]at hb;simp at hb;exact hb.symm
  simp only[aO,reduceCtorEq,this]
 ·rw[BX p _ _ l [] (by simp)]
  simp only[List.nil_append]
  split
  ·rename_i h;rw[h]
  ·rfl
end
section
set_option maxRecDepth 100000
noncomputable def OF (a0:cI) (a1:ByteArray):Option Bool:=
 some (decide (a0.name=a1))
theorem ac8 {a0:cI} {a1:ByteArray} {σ:Heap} {r:Bool} (h:OF a0 a1=some r):Hw [(AV.agg (bU a0)),(AV.rp [(AV.str a1)])] σ=some ((AV.bool r),σ):=by
 refine uc (f:=OC) (y0:=(AV.agg (bU a0))) (y1:=(AV.rp [(AV.str a1)])) (enc:=fun r:Bool=>(AV.bool r)) (T:=OF a0 a1) rfl rfl ?_ r h
 unfold OC OF
 refine au _ rfl<|au _ rfl<|au _ rfl<|au _ (SH _ _) ?_
 exact eE _ (br _ _) ⟨rfl,rfl⟩
noncomputable def HC (a0:cm) (a1:ByteArray):Option (cI×Bool):=
 (tq (a0.params.length≤aU) (jI (fun x=>(decide (x.name=a1))) a0.params)).bind fun r1=>
 if r1<0 then
  some ((⟨(⟨#[]⟩:ByteArray),0,0,0,0,false,[]⟩:cI),false)
 else
 (vi a0.params r1).bind fun x2=>
 some (x2,true)
theorem adu {a0:cm} {a1:ByteArray} {σ:Heap} {r:(cI×Bool)} (h:HC a0 a1=some r):OP [(AV.agg (bP a0)),(AV.str a1)] σ=some ((AV.aF [(AV.agg (bU r.1)),(AV.bool r.2)]),σ):=by
 refine uc (f:=KT) (y0:=(AV.agg (bP a0))) (y1:=(AV.str a1)) (enc:=fun r:(cI×Bool)=>(AV.aF [(AV.agg (bU r.1)),(AV.bool r.2)])) (T:=HC a0 a1) rfl rfl ?_ r h
 unfold KT HC
 refine au _ rfl<|au _ rfl<|au (sl 7 bU a0.params) rfl ?_
 refine lg (fun r1:Int=>((AV.int .i64 r1),σ)) (fun r1 jU=>(vN (e:=fun r:Int=>((AV.int .i64 r),σ)) (fun hs=>acq _ a0.params hs _ _ (fun x=>(decide (x.name=a1))) σ (fun x hx=>ac8 (σ:=σ) (r:=(decide (x.name=a1))) rfl))) jU) (fun r1 jU=>?_)
 refine au _ rfl ?_
 refine lP (p:=r1<0) (fun c3=>?_) (fun c3=>?_)
 ·refine au [(AV.str (⟨#[]⟩:ByteArray)),ah,ah,ah,ah,aI,AV.aq] rfl<|au [(AV.str (⟨#[]⟩:ByteArray)),ah,ah,ah,ah,aI,AV.aq] rfl<|au (AV.agg [(AV.str (⟨#[]⟩:ByteArray)),ah,ah,ah,ah,aI,AV.aq]) rfl ?_
  exact eE _ (br _ _) ⟨(NP (ff (mA (ff rfl (ff rfl (ff rfl (ff rfl (ff rfl (ff rfl (ff (by first|rfl|exact ZC _ _) AG)))))))) (ff rfl AG))),rfl⟩
 refine au (sl 7 bU a0.params) rfl ?_
 refine lg (fun x2:cI=>(AV.rp (bU x2))) (fun x2 hx2=>Cs hx2) (fun x2 hx2=>?_)
 refine au _ rfl<|au _ rfl<|au _ (Aa _ _ rfl)<|au _ rfl ?_
 exact eE _ (br _ _) ⟨(NP (ff (mA rfl) (ff rfl AG))),rfl⟩
end
section
set_option maxRecDepth 100000
open HP
def CU (l:List ey) (n:Int):Nat:=(l.takeWhile fun c=>decide (c.number<n)).length
theorem RM {l:List ey} {n:Int} (h:l.Pairwise fun a b=>a.number<b.number):∀{i:Nat} {x:ey},l[i]? =some x→(x.number<n↔i<CU l n):=by
 induction l with
 |nil=>intro i x hx;simp at hx
 |cons a l ih=>
  intro i x hx
  have hs:=List.pairwise_cons.1 h
  unfold CU
  rw[List.takeWhile_cons]
  by_cases ha:a.number<n
  ·rw[decide_eq_true ha]
   simp only[if_true,List.length_cons]
   cases i with
   |zero=>simp at hx;subst hx;simp [ha]
   |succ i=>
    simp only[List.getElem?_cons_succ]at hx
    rw[ih hs.2 hx]
    unfold CU
    omega
  ·rw[decide_eq_false ha]
   simp only[Bool.false_eq_true,if_false,List.length_nil,Nat.not_lt_zero,iff_false]
   cases i with
   |zero=>simp at hx;subst hx;exact ha
   |succ i=>
    simp only[List.getElem?_cons_succ]at hx
    have:=hs.1 x (List.mem_of_getElem? hx)
    omega
theorem bsU {dyn:Nat→List AV→Heap→Option (AV×Heap)} {l:List ey} {fn:Nat} {k:Int} {cv:ey→Int} {p:Nat} {σ:Heap} (hl:l.length<4611686018427387904) (hp:p≤l.length)
  (hd:∀x∈l,dyn fn [.agg (bB x),.int .i64 k] σ=some (.int .i64 (cv x),σ)) (hc:∀h x,l[h]? =some x→(cv x<0↔h<p)):
  Fb dyn [sl 4 bB l,.int .i64 k,.fn fn []] σ=some (.aF [.int .i64 (p:Int),.bool ((l[p]?).any fun x=>decide (cv x=0))],σ):=by
 refine wrap_eq rfl ?_ rfl
 show Fc dyn (sl 4 bB l) (.int .i64 k) (.fn fn []) σ=_
 unfold Fc
 rw[gf,Option.bind_some]
 rw[Zl (v0:=[.int .i64 0,.int .i64 (l.length:Int)]) (fun i j=>[.int .i64 (i:Int),.int .i64 (j:Int)]) hp rfl ?_ ?_,Option.bind_some]
 ·simp only[JG,List.getD_cons_succ,List.getD_cons_zero]
  rw[vU,Option.bind_some]
  by_cases hpl:p<l.length
  ·have hx:l[p]? =some l[p]:=List.getElem?_eq_getElem hpl
   have jT:=hd _ (List.mem_of_getElem? hx)
   have gO:=jZ 4 bB l hx
   have hq:=quiet_of (by show A.fR dyn (.fn fn []) [.agg (bB l[p]),.int .i64 k] σ=_;simp only[A.fR,List.append_nil];exact jT)
   simp only[decide_eq_true hpl,A.guard,beq_self_eq_true,cond_true,Option.bind_some,List.getD_cons_succ,List.getD_cons_zero,gO,A.deref,nr,A.lb,A.aj,A.ay,A.pick,hx,Option.any_some]
   show((A.quiet (A.fR dyn (.fn fn []) [.agg (bB l[p]),.int .i64 k] σ) σ).bind _)=_
   rw[hq,Option.bind_some,gR]
   exact br _ _
  ·have hx:l[p]? =none:=List.getElem?_eq_none (by omega)
   simp only[decide_eq_false hpl,A.guard,Option.bind_some,A.pick,hx,Option.any_none]
   exact br _ _
 ·intro i j hij hj
  have hlt:(i+j) / 2<l.length:=by omega
  have hx:l[(i+j) / 2]? =some l[(i+j) / 2]:=List.getElem?_eq_getElem hlt
  have jT:=hd _ (List.mem_of_getElem? hx)
  have gO:=jZ 4 bB l hx
  have hq:A.fR dyn (.fn fn []) [.agg (bB l[(i+j) / 2]),.int .i64 k] σ=some (.int .i64 (cv l[(i+j) / 2]),σ):=by simp only[A.fR,List.append_nil];exact jT
  simp only[List.getD_cons_succ,List.getD_cons_zero]
  rw[vU,Option.bind_some,decide_eq_true hij]
  simp only[A.cond,cond_true]
  rw[Jt (by omega),Option.bind_some,M8 (by omega),Option.bind_some,MQ (by omega),Option.bind_some,M7 (by omega),Option.bind_some,gO,Option.bind_some]
  simp only[A.deref,Option.bind_some,nr,A.lb]
  rw[hq,Option.bind_some,Nz,Option.bind_some]
  by_cases hh:(i+j) / 2<p
  ·have:=(hc _ _ hx).2 hh
   rw[decide_eq_true this,if_pos hh]
   simp only[cond_true,GC (show(i+j) / 2+1<9223372036854775808 by omega),Option.bind_some]
   rfl
  ·have:¬(cv l[(i+j) / 2]<0):=fun e=>hh ((hc _ _ hx).1 e)
   rw[decide_eq_false this,if_neg hh]
   rfl
 ·intro i hi
  simp only[List.getD_cons_succ,List.getD_cons_zero]
  rw[vU,Option.bind_some,decide_eq_false (Nat.lt_irrefl i)]
  rfl
theorem alD {dyn:Nat→List AV→Heap→Option (AV×Heap)} {l:List ey} {fn:Nat} {k:Int} {cv:ey→Int} {σ:Heap} (hl:l.length<4611686018427387904)
  (hd:∀x∈l,dyn fn [.agg (bB x),.int .i64 k] σ=some (.int .i64 (cv x),σ)) (hc:∀x∈l,cv x≠0):
  ∃p:Nat,p≤l.length∧Fb dyn [sl 4 bB l,.int .i64 k,.fn fn []] σ=some (.aF [.int .i64 (p:Int),.bool false],σ):=by
 suffices h:∃p:Nat,p≤l.length∧Fc dyn (sl 4 bB l) (.int .i64 k) (.fn fn []) σ=some (.aF [.int .i64 (p:Int),.bool false],σ) by
  obtain⟨p,hp,h⟩:=h
  exact⟨p,hp,wrap_eq rfl h rfl⟩
 unfold Fc
 rw[gf,Option.bind_some]
 refine Zk (v0:=[.int .i64 0,.int .i64 (l.length:Int)]) (r:=fun p=>((AV.aF [.int .i64 (p:Int),.bool false],σ):AV×Heap)) (fun i j=>[.int .i64 (i:Int),.int .i64 (j:Int)]) rfl (fun h=>((l[h]?).any fun x=>decide (cv x<0))) (fun i j hij hj=>?_) (fun i hi=>?_) (fun p hp=>?_)
 ·have hlt:(i+j) / 2<l.length:=by omega
  have hx:l[(i+j) / 2]? =some l[(i+j) / 2]:=List.getElem?_eq_getElem hlt
  have jT:=hd _ (List.mem_of_getElem? hx)
  have gO:=jZ 4 bB l hx
  have hq:A.fR dyn (.fn fn []) [.agg (bB l[(i+j) / 2]),.int .i64 k] σ=some (.int .i64 (cv l[(i+j) / 2]),σ):=by simp only[A.fR,List.append_nil];exact jT
  simp only[List.getD_cons_succ,List.getD_cons_zero]
  rw[vU,Option.bind_some,decide_eq_true hij]
  simp only[A.cond,cond_true]
  rw[Jt (by omega),Option.bind_some,M8 (by omega),Option.bind_some,MQ (by omega),Option.bind_some,M7 (by omega),Option.bind_some,gO,Option.bind_some]
  simp only[A.deref,Option.bind_some,nr,A.lb]
  rw[hq,Option.bind_some,Nz,Option.bind_some]
  simp only[hx,Option.any_some]
  by_cases hh:cv l[(i+j) / 2]<0
  ·rw[decide_eq_true hh]
   simp only[cond_true,if_true,GC (show(i+j) / 2+1<9223372036854775808 by omega),Option.bind_some]
   rfl
  ·rw[decide_eq_false hh]
   rfl
 ·simp only[List.getD_cons_succ,List.getD_cons_zero]
  rw[vU,Option.bind_some,decide_eq_false (Nat.lt_irrefl i)]
  rfl
 ·simp only[JG,List.getD_cons_succ,List.getD_cons_zero]
  rw[vU,Option.bind_some]
  by_cases hpl:p<l.length
  ·have hx:l[p]? =some l[p]:=List.getElem?_eq_getElem hpl
   have jT:=hd _ (List.mem_of_getElem? hx)
   have hne:=hc _ (List.mem_of_getElem? hx)
   have gO:=jZ 4 bB l hx
   have hq:=quiet_of (by show A.fR dyn (.fn fn []) [.agg (bB l[p]),.int .i64 k] σ=_;simp only[A.fR,List.append_nil];exact jT)
   simp only[decide_eq_true hpl,A.guard,beq_self_eq_true,cond_true,Option.bind_some,List.getD_cons_succ,List.getD_cons_zero,gO,A.deref,nr,A.lb,A.aj,A.ay,A.pick]
   show((A.quiet (A.fR dyn (.fn fn []) [.agg (bB l[p]),.int .i64 k] σ) σ).bind _)=_
   rw[hq,Option.bind_some,gR,decide_eq_false hne]
   exact br _ _
  ·simp only[decide_eq_false hpl,A.guard,Option.bind_some,A.pick]
   exact br _ _
theorem aho (u:ey) (n:Int) (σ:Heap):Df [.agg (bB u),.int .i64 n] σ=some (.int .i64 (IntKind.i64.wrap (u.number-n)),σ):=by
 refine IG rfl ?_
 unfold Vk
 rw[show A.cells 4 (.agg (bB u))=some (bB u)from rfl,bS,show A.aj 0 (bB u)=some (.int .i64 u.number)from rfl,bS,oZ,bS]
 exact br _ _
theorem Ym (gq:List cm):∀(l pre:List ey),CI gq pre l=0→∀u∈l,1≤u.number∧u.number≤9999
 |[],pre,h,u,hu=>by simp at hu
 |x::l,pre,h,u,hu=>by
  rw[CI]at h
  split at h
  ·cases h
  rename_i h1
  split at h
  ·cases h
  split at h
  ·cases h
  split at h
  ·cases h
  split at h
  ·cases h
  rcases List.mem_cons.1 hu with rfl|hu
  ·cases q:aQ u.number 1 9999
   ·exact absurd q h1
   ·exact oU q
  ·exact Ym gq l _ h u hu
theorem ak6 {r:dO} (h:gp r=0):r.units.length≤400∧∀u∈r.units,1≤u.number∧u.number≤9999:=by
 have hl:=DA h
 unfold gp at h
 rw[if_pos hl]at h
 split at h
 ·cases h
 ·exact⟨by omega,Ym _ _ _ h⟩
theorem amk {r:dO} (h:gp r=0) {n:Int} (hn:aM n) (σ:Heap):(∃(i:Nat) (u:ey),r.units[i]? =some u∧r.units.find? (fun u=>decide (u.number=n))=some u∧HN [.agg (eo r),.int .i64 n] σ=some (.aF [.int .i64 (i:Int),.bool true],σ))∨
  (r.units.find? (fun u=>decide (u.number=n))=none∧∃p:Nat,HN [.agg (eo r),.int .i64 n] σ=some (.aF [.int .i64 (p:Int),.bool false],σ)):=by
 obtain⟨hlen,NJ⟩:=ak6 h
 have NM:r.units.Pairwise fun a b=>a.number<b.number:=List.pairwise_map.1 (Qc h)
 have hl:r.units.length<4611686018427387904:=by omega
 have hd:∀x∈r.units,A.tab (fun _ _=>none) [(428,Df)] 428 [.agg (bB x),.int .i64 n] σ=some (.int .i64 (IntKind.i64.wrap (x.number-n)),σ):=fun x _=>aho x n σ
 have wr:∀{p:Nat} {b:Bool},Fb (A.tab (fun _ _=>none) [(428,Df)]) [sl 4 bB r.units,.int .i64 n,.fn 428 []] σ=some (.aF [.int .i64 (p:Int),.bool b],σ)→HN [.agg (eo r),.int .i64 n] σ=some (.aF [.int .i64 (p:Int),.bool b],σ):=by
  intro p b e
  refine yR (z:=.aq) rfl (ff (mA rfl) rfl) (gQ _) ?_
  unfold Pw
  rw[show A.cells 2 (.agg (eo r))=some (eo r)from rfl,bS,show A.aj 1 (eo r)=some (sl 4 bB r.units)from rfl,bS,e,bS]
  simp only
  rw[iQ,bS,ext1,bS]
  exact br _ _
 rcases Option.eq_none_or_eq_some (r.units.find? (fun u=>decide (u.number=n)))with hf|⟨u,hf⟩
 ·refine .inr ⟨hf,?_⟩
  have hno:∀x∈r.units,IntKind.i64.wrap (x.number-n)≠0:=by
   intro x hx e
   rw[List.find?_eq_none]at hf
   have h1:=hf x hx
   have h2:=NJ x hx
   have:x.number-n=0:=by
    unfold aM at hn
    have h3:IntKind.i64.wrap (x.number-n)=x.number-n∨IntKind.i64.wrap (x.number-n)=x.number-n-18446744073709551616:=by
     by_cases hh:x.number-n<9223372036854775808
     ·exact .inl (wrap64 (by unfold aM;omega))
     ·right
      unfold IntKind.wrap
      simp [IntKind.bits,IntKind.signed]
      omega
    rcases h3 with h3|h3<;>rw[h3]at e<;>omega
   exact h1 (by simp only[decide_eq_true_eq];omega)
  obtain⟨p,_,e⟩:=alD hl hd hno
  exact⟨p,wr e⟩
 ·have hu:=List.mem_of_find?_eq_some hf
  have hun:u.number=n:=by simpa using List.find?_some hf
  have aqB:=NJ u hu
  obtain⟨i,hi,e⟩:=List.getElem_of_mem hu
  have hi2:r.units[i]? =some u:=by rw[←e];exact List.getElem?_eq_getElem hi
  have hw:∀x∈r.units,IntKind.i64.wrap (x.number-n)=x.number-n:=fun x hx=>by
   have:=NJ x hx
   exact wrap64 (by unfold aM;omega)
  have hpos:CU r.units n=i:=by
   have h1:=RM (n:=n) NM hi2
   rcases Nat.lt_trichotomy (CU r.units n) i with q|q|q
   ·exfalso
    have hx:r.units[CU r.units n]? =some (r.units[CU r.units n]'(by omega)):=List.getElem?_eq_getElem _
    have h2:=RM (n:=n) NM hx
    have h3:=List.pairwise_iff_getElem.1 NM (CU r.units n) i (by omega) hi q
    rw[e]at h3
    exact Nat.lt_irrefl _ (h2.1 (by omega))
   ·exact q
   ·have:=h1.2 q;omega
  refine .inl ⟨i,u,hi2,hf,wr ?_⟩
  have hb:=bsU (cv:=fun x:ey=>IntKind.i64.wrap (x.number-n)) (p:=i) hl (Nat.le_of_lt hi) hd (fun j x hx=>by
   rw[hw x (List.mem_of_getElem? hx),←hpos,←RM (n:=n) NM hx]
   omega)
  rw[hb,hi2]
  simp only[Option.any_some,hw u hu]
  rw[decide_eq_true (by omega)]
theorem amG {r:dO} (hr:rZ r) (h:gp r=0) {k:aB} (hk:AH k) (σ:Heap):Pq [.agg (eo r),.agg (aL k)] σ=some (.aF [.agg (bU (jj r k).1),.bool (jj r k).2],σ):=by
 suffices hh:∃v,A.nn (.t [(.a oV),.k]) v=.aF [.agg (bU (jj r k).1),.bool (jj r k).2]∧Pv (.agg (eo r)) (.agg (aL k)) σ=some (v,σ) by
  obtain⟨v,h1,h2⟩:=hh
  exact yR (z:=.aq) rfl (ff (mA rfl) rfl) h1 h2
 unfold Pv
 rw[show A.cells 2 (.agg (eo r))=some (eo r)from rfl,bS,wS,bS,show A.ay 0 2 (eo r)=some (.agg (eo r))from rfl,bS,show A.aj 0 (aL k)=some (.int .i64 k.unit)from rfl,bS]
 unfold jj
 rcases amk h hk.1 σ with⟨i,u,h1,h2,h3⟩|⟨h2,p,h3⟩
 ·rw[h3,bS]
  simp only
  rw[iQ,bS,ext1,bS,sy,bS,show(!true)=false from rfl,cz,show A.aj 0 (eo r)=some (sl 3 bP r.aS)from rfl,bS,show A.aj 1 (eo r)=some (sl 4 bB r.units)from rfl,bS,jk h1,bS,kX,bS,oq,bS,show A.aj 0 ((bB u).drop 1)=some (.str u.profile)from rfl,bS,quiet_of (Qu r.aS hr.1.1 u.profile σ),bS,iQ,bS,ext1,bS]
  obtain⟨q,hq⟩:∃q,q=(iP u.profile r.aS).1:=⟨_,rfl⟩
  have hql:q.params.length≤aU:=by rw[hq];have:=Qs h u.profile;unfold aU;omega
  rw[←hq,show A.cells 3 (.agg (bP q))=some (bP q)from rfl,bS,show A.splice 0 (bP q) [bg,ah,AV.aq]=some (bP q)from rfl,bS,show A.ay 0 3 (bP q)=some (.agg (bP q))from rfl,bS,show A.aj 1 (aL k)=some (.str k.param)from rfl,bS]
  rw[h2,Option.elim_some,←hq]
  have J3:HC q k.param=some (Av q k.param):=by
   unfold HC Av
   rw[uf hql,Option.bind_some]
   rcases zY (fun x:cI=>decide (x.name=k.param)) q.params with⟨e1,_,e2⟩|⟨j,x,e1,_,e2,e3,_⟩
   ·rw[e1,e2];rfl
   ·rw[e2,e3,if_neg (by omega),RS (x:=x) (by have:=(List.getElem?_eq_some_iff.1 e1).1;omega) (by simpa using e1)];rfl
  rw[adu J3,bS]
  simp only
  rw[iQ,bS,ext1,bS,show A.cells 7 (.agg (bU (Av q k.param).1))=some (bU (Av q k.param).1)from rfl,bS,Aa _ _ rfl,bS,show A.ay 0 7 (bU (Av q k.param).1)=some (.agg (bU (Av q k.param).1))from rfl,bS]
  exact⟨_,rfl,br _ _⟩
 ·rw[h3,bS]
  simp only
  rw[iQ,bS,ext1,bS,sy,bS,show(!false)=true from rfl,cA,h2]
  exact⟨_,rfl,br _ _⟩
def DM (r:dO) (k:aB):Int:=if ¬(gp r=0)then gp r else if(jj r k).2=true then 0 else 8
theorem als {r:dO} (hr:rZ r) {k:aB} (hk:AH k) (σ:Heap):∃p:cI,(DM r k=0→p=(jj r k).1)∧Pp [.agg (eo r),.agg (aL k)] σ=some (.aF [.agg (bU p),.int .i64 (DM r k)],σ):=by
 suffices hh:∃(p:cI) (v:AV),(DM r k=0→p=(jj r k).1)∧A.nn (.t [(.a oV),.k]) v=.aF [.agg (bU p),.int .i64 (DM r k)]∧Pu (.agg (eo r)) (.agg (aL k)) σ=some (v,σ) by
  obtain⟨p,v,h0,h1,h2⟩:=hh
  exact⟨p,h0,yR (z:=.aq) rfl (ff (mA rfl) rfl) h1 h2⟩
 unfold Pu DM
 rw[show A.cells 2 (.agg (eo r))=some (eo r)from rfl,bS,wS,bS,show A.ay 0 2 (eo r)=some (.agg (eo r))from rfl,bS,Lq r hr σ,bS]
 simp only
 rw[fI,bS]
 by_cases h:gp r=0
 case neg=>
  rw[decide_eq_true h,cA,if_pos h]
  refine⟨zg,_,fun q=>absurd q h,?_,br _ _⟩
  rfl
 rw[decide_eq_false (fun q=>q h),cz,if_neg (fun q=>q h),bS,nP,bS,amG hr h hk,bS]
 simp only
 rw[iQ,bS,ext1,bS,show A.cells 7 (.agg (bU (jj r k).1))=some (bU (jj r k).1)from rfl,bS,Aa _ _ rfl,bS,sy,bS]
 by_cases hp:(jj r k).2=true
 case neg=>
  have hp':(jj r k).2=false:=by simpa using hp
  rw[hp',show(!false)=true from rfl,cA,if_neg (by decide)]
  refine⟨zg,_,fun(q:(8:Int)=0)=>absurd q (by decide),?_,br _ _⟩
  rfl
 rw[hp,show(!true)=false from rfl,cz,if_pos rfl]
 have hrl:(jj r k).1.ranges.length≤1000000:=by
  have:=Q1 h k
  rw[if_pos hp]at this
  have:=YS (P:=fun x=>x.ranges.length≤30) (fun p hp x hx=>((RN (Ie (DA h) p hp)).2 x hx).2) _ (GF this)
  simp only at this
  omega
 generalize (jj r k).1=p at hrl ⊢
 rw[show A.aj 6 (bU p)=some (sl 3 lK p.ranges)from rfl,bS]
 obtain⟨v,σ',e1,e2,K⟩:=MH (B:=bY) (most:=140737488355328 / 32) (m:=zU) (r:=fun _ _=>none) (r0:=KR) (c:=lK) (sz:=3) (l:=p.ranges) rfl (fun _ _=>rfl) (by omega) (fun _ _ _ _=>trivial) (Gn (B:=bY) σ)
 rw[e1,bS]
 simp only
 rw[show((A.cell v).bind fun v=>some [v])=some [v]from by rw[e2];rfl,bS,show A.splice 6 [v] (bU p)=some [.str p.name,.int .i64 p.group,.int .i64 p.jC,.int .i64 p.iZ,.int .i64 p.default,.bool p.snap,v]from rfl,bS,show A.ay 0 7 [.str p.name,.int .i64 p.group,.int .i64 p.jC,.int .i64 p.iZ,.int .i64 p.default,.bool p.snap,v]=some (.agg [.str p.name,.int .i64 p.group,.int .i64 p.jC,.int .i64 p.iZ,.int .i64 p.default,.bool p.snap,v])from rfl,bS,show A.cells 7 (.agg [.str p.name,.int .i64 p.group,.int .i64 p.jC,.int .i64 p.iZ,.int .i64 p.default,.bool p.snap,v])=some [.str p.name,.int .i64 p.group,.int .i64 p.jC,.int .i64 p.iZ,.int .i64 p.default,.bool p.snap,v]from rfl,bS,show A.splice 0 [.str p.name,.int .i64 p.group,.int .i64 p.jC,.int .i64 p.iZ,.int .i64 p.default,.bool p.snap,v] [bg,ah,ah,ah,ah,aI,AV.aq]=some [.str p.name,.int .i64 p.group,.int .i64 p.jC,.int .i64 p.iZ,.int .i64 p.default,.bool p.snap,v]from rfl,bS,show A.ay 0 7 [.str p.name,.int .i64 p.group,.int .i64 p.jC,.int .i64 p.iZ,.int .i64 p.default,.bool p.snap,v]=some (.agg [.str p.name,.int .i64 p.group,.int .i64 p.jC,.int .i64 p.iZ,.int .i64 p.default,.bool p.snap,v])from rfl,bS]
 obtain⟨v',f1,f2⟩:=MO K QT (Nat.le_refl _) 7
 refine⟨p,.aF [.agg [.str p.name,.int .i64 p.group,.int .i64 p.jC,.int .i64 p.iZ,.int .i64 p.default,.bool p.snap,v'],.int .i64 0],fun _=>rfl,?_,IJ K ?_ ?_⟩
 ·have hv:A.nn (.s 3) v'=sl 3 lK p.ranges:=by
   rcases f2 with⟨h,rfl|rfl⟩|rfl
   ·rw[h];rfl
   ·rw[h];rfl
   ·rfl
  show AV.aF [AV.agg (A.bT oV [.str p.name,.int .i64 p.group,.int .i64 p.jC,.int .i64 p.iZ,.int .i64 p.default,.bool p.snap,v']),.int .i64 0]=_
  simp only[A.bT,gQ,hv]
  rfl
 ·simp only[A.bw,A.eG,f1,Option.bind_some,Option.map_some]
 ·intro e
  have:v'=v:=by
   rcases yK K with⟨_,rfl|rfl,_⟩|⟨id,g,rfl,K'⟩
   ·simp [A.bw]at f1;exact f1.symm
   ·simp [A.bw]at f1;exact f1.symm
   ·obtain⟨k1,k2⟩:=iW K'
    have:=(List.getElem?_eq_some_iff.1 k2).1
    subst e;omega
  rw[this]
end
section
set_option maxRecDepth 100000
open HP
theorem amp {s:List Sh} {r:AV→AV→AV→AV→AV→Heap→Option (AV×Heap)} {x y z u w v:AV} {σ:Heap} (h:[x,y,z,u,w].any A.own=false) (e1:A.bT s [x,y,z,u,w]=[x,y,z,u,w]) (e:r x y z u w σ=some (v,σ)):A.wrap true s .k (A.Bh r) [x,y,z,u,w] σ=some (v,σ):=by
 refine wrap_eq h ?_ (gQ _)
 rw[e1]
 exact e
abbrev zn (r:dO) (c:aY) (k:aB) (n:Int):List AV:=[sl 3 bP r.aS,sl 4 bB r.units,.aq,sl 2 dR [⟨1,[mD c k n]⟩],sl 3 cC [⟨1,1,0⟩]]
theorem ag4 (r:dO) (c:aY) (k:aB) (n:Int) (va:AV) (σ:Heap):BQ [.agg (zn r c k n),va] σ=BQ [.agg (bl (lX r c k n)),va] σ:=by
 have e:td (.agg (zn r c k n)) va σ=td (.agg (bl (lX r c k n))) va σ:=by
  unfold td
  rw[show A.cells 5 (.agg (zn r c k n))=some (zn r c k n)from rfl,bS,show A.ay 0 5 (zn r c k n)=some (.agg (zn r c k n))from rfl,bS,show A.cells 5 (.agg (bl (lX r c k n)))=some (bl (lX r c k n))from rfl,bS,show A.ay 0 5 (bl (lX r c k n))=some (.agg (bl (lX r c k n)))from rfl,bS]
  rw[show Dr [.agg (zn r c k n)] σ=Dr [.agg (bl (lX r c k n))] σ from M3 rfl rfl rfl]
 show A.wrap false [] .k (A.bQ td) [.agg (zn r c k n),va] σ=A.wrap false [] .k (A.bQ td) [.agg (bl (lX r c k n)),va] σ
 have e1:A.bQ td [.agg (zn r c k n),va] σ=A.bQ td [.agg (bl (lX r c k n)),va] σ:=e
 simp only[A.wrap,Bool.false_and,cond_false,A.bT,e1]
theorem am6 {r:dO} {c:aY} {k:aB} {n:Int} (hr:rZ r) (hc:um c) (hk:AH k) (hn:aM n):Aj (lX r c k n):=by
 obtain⟨_,_,h1,h2,h3,h4,h5,_,_⟩:=hc
 have hcc:um (mD c k n):=by
  refine⟨by show aM 1000;unfold aM;omega,by show jd ⟨#[]⟩;unfold jd;exact Nat.zero_le _,h1,h2,h3,h4,h5,by show aM (-1);unfold aM;omega,by show(1:Nat)≤aU;unfold aU;omega,fun m hm=>?_⟩
  have hm:m=⟨k,⟨n,0⟩,false,false,0,0⟩:=List.mem_singleton.1 hm
  rw[hm]
  exact⟨hk,⟨hn,by show aM 0;unfold aM;omega⟩,by show aM 0;unfold aM;omega,by show aM 0;unfold aM;omega⟩
 refine⟨hr,⟨by show(0:Nat)≤aU;unfold aU;omega,fun x hx=>by cases hx⟩,⟨by show(1:Nat)≤aU;unfold aU;omega,fun x hx=>?_⟩,⟨by show(1:Nat)≤aU;unfold aU;omega,fun x hx=>?_⟩⟩
 ·have hx:x=⟨1,[mD c k n]⟩:=List.mem_singleton.1 hx
  rw[hx]
  refine⟨by show aM 1;unfold aM;omega,by show(1:Nat)≤aU;unfold aU;omega,fun y hy=>?_⟩
  have hy:y=mD c k n:=List.mem_singleton.1 hy
  rw[hy];exact hcc
 ·have hx:x=⟨1,1,0⟩:=List.mem_singleton.1 hx
  rw[hx]
  exact⟨by show aM 1;unfold aM;omega,by show aM 1;unfold aM;omega,by show aM 0;unfold aM;omega⟩
theorem akG (r:dO) (c:aY) (k:aB) (n:Int) {β:Type} (K:List AV→AV→AV→Option β):(((((A.cell (.int .i64 n)).bind fun v=>some [v]).bind fun dX=>(A.splice 0 dX [ah,ah]).bind fun fV=>some fV).bind fun cs=>some (AV.agg cs)).bind fun cN=>
 (((A.cells 2 (.agg (aL k))).bind fun gV=>(A.splice 0 gV [ah,bg,ah,ah,aI,aI,ah,ah]).bind fun jO=>(A.cells 2 cN).bind fun jP=>(A.splice 2 jP jO).bind fun iT=>some iT).bind fun cs=>some (AV.agg cs)).bind fun bX=>
 (((A.cells 8 bX).bind fun iJ=>(A.splice 0 iJ [ah,bg,ah,ah,aI,aI,ah,ah]).bind fun i7=>some i7).bind fun cs=>some (AV.sl 8 (chunks 8 1 cs))).bind fun cZ=>
 ((A.cell (AV.int .i64 1000)).bind fun v=>some [v]).bind fun fk=>
 (A.splice 0 fk (aX c)).bind fun iy=>
 ((A.cell (AV.int .i64 (-1))).bind fun v=>some [v]).bind fun iK=>
 (A.splice 9 iK iy).bind fun fW=>
 ((A.cell aI).bind fun v=>some [v]).bind fun jR=>
 (A.splice 8 jR fW).bind fun qm=>
 ((A.cell bg).bind fun v=>some [v]).bind fun tL=>
 (A.splice 1 tL qm).bind fun qn=>
 ((A.cell cZ).bind fun v=>some [v]).bind fun ru=>
 (A.splice 10 ru qn).bind fun vW=>
 (some (AV.agg (eo r))).bind fun ep=>
 (A.ay 0 11 vW).bind fun x34=>
 (((A.cells 11 x34).bind fun gC=>(A.splice 0 gC [ah,bg,ah,ah,ah,ah,ah,AV.aq,aI,ah,AV.aq]).bind fun gD=>some gD).bind fun cs=>some (AV.sl 11 (chunks 11 1 cs))).bind fun bR=>
 ((((A.cell aH).bind fun v=>some [v]).bind fun jS=>(A.splice 0 jS [ah,AV.aq]).bind fun lp=>((A.cell bR).bind fun v=>some [v]).bind fun tM=>(A.splice 1 tM lp).bind fun sI=>some sI).bind fun cs=>some (AV.agg cs)).bind fun fP=>
 (((A.cells 2 fP).bind fun qo=>(A.splice 0 qo [ah,AV.aq]).bind fun Ew=>some Ew).bind fun cs=>some (AV.sl 2 (chunks 2 1 cs))).bind fun dU=>
 ((((A.cell aH).bind fun v=>some [v]).bind fun Ey=>(A.splice 0 Ey [ah,ah,ah]).bind fun iz=>((A.cell aH).bind fun v=>some [v]).bind fun mT=>(A.splice 1 mT iz).bind fun uO=>some uO).bind fun cs=>some (AV.agg cs)).bind fun lF=>
 (((A.cells 3 lF).bind fun sJ=>(A.splice 0 sJ [ah,ah,ah]).bind fun Bi=>some Bi).bind fun cs=>some (AV.sl 3 (chunks 3 1 cs))).bind fun gP=>
 (((A.cells 2 ep).bind fun rz=>(A.splice 0 rz ur).bind fun gM=>((A.cell dU).bind fun v=>some [v]).bind fun mU=>(A.splice 3 mU gM).bind fun iA=>((A.cell gP).bind fun v=>some [v]).bind fun ig=>(A.splice 4 ig iA).bind fun Ez=>some Ez).bind fun cs=>some (AV.agg cs)).bind fun gz=>
 (A.cells 5 gz).bind fun l6=>
 (A.splice 0 l6 ur).bind fun Jz=>
 (A.ay 0 5 Jz).bind fun eR=>
 ((((A.cell aH).bind fun v=>some [v]).bind fun mV=>(A.splice 1 mV [ah,ah,ah,ah,ah]).bind fun sK=>((A.cell aH).bind fun v=>some [v]).bind fun EA=>(A.splice 2 EA sK).bind fun sL=>some sL).bind fun cs=>some (AV.agg cs)).bind fun gI=>
 (((A.cells 5 gI).bind fun mW=>(A.splice 0 mW [ah,ah,ah,ah,ah]).bind fun EB=>some EB).bind fun cs=>some (AV.sl 5 (chunks 5 1 cs))).bind fun mm=>K vW eR mm)=K (aX (mD c k n)) (.agg (zn r c k n)) (sl 5 bG [kn]):=rfl
set_option maxHeartbeats 1000000 in
theorem ado {r:dO} {k:aB} {n:Int} {c:aY} {t:Int} {σ:Heap} (h:rZ r∧AH k∧aM n∧um c):Vb [.agg (eo r),.agg (aL k),.int .i64 n,.agg (aX c),.int .i64 t] σ=some (.bool true,σ):=by
 obtain⟨hr,hk,hn,hc⟩:=h
 refine amp rfl (ff (mA rfl) rfl) ?_
 unfold Vc
 obtain⟨p,hp,f1⟩:=als hr hk σ
 rw[show A.cells 2 (.agg (eo r))=some (eo r)from rfl,bS,wS,bS,Ix,bS,show A.ay 0 2 (eo r)=some (.agg (eo r))from rfl,bS,nP,bS,f1,bS]
 simp only
 rw[iQ,bS,ext1,bS,show A.cells 7 (.agg (bU p))=some (bU p)from rfl,bS,Aa _ _ rfl,bS,bS]
 refine(akG r c k n _).trans ?_
 rw[ag4]
 have hs:=am6 hr hc hk hn
 by_cases h0:qP (lX r c k n)=0
 case neg=>
  rw[ahs hs h0,bS]
  simp only
  rw[show A.ext 0 (.aF [.np,.int .i64 0,.int .i64 (qP (lX r c k n))])=some .np from rfl,bS,show A.ext 1 (.aF [.np,.int .i64 0,.int .i64 (qP (lX r c k n))])=some (.int .i64 0)from rfl,bS,show A.ext 2 (.aF [.np,.int .i64 0,.int .i64 (qP (lX r c k n))])=some (.int .i64 (qP (lX r c k n)))from rfl,bS,fI,bS,decide_eq_true h0]
  simp only[vZ,gU,bS,lq,cT,show A.eql .p .np .np=some (.bool true)from rfl]
  exact Gx true (Gn (B:=bY) σ)
 have hR:=agh (Q:=emp) (va:=sl 5 bG [kn]) (l:=[kn]) (fun H _ _ hx=>ald [kn] H hx) rfl hs h0 (by show(1:Nat)≤aU;unfold aU;omega) (hs_eq (Ad _).symm (Gn (B:=bY) σ))
 obtain⟨d,hd⟩:∃d,d=qt (bN (lX r c k n)) kn:=⟨_,rfl⟩
 have uB:xJ (bN (lX r c k n)) 0 [kn]=if d.2=0 then(d.1,0,0)else(bN (lX r c k n),0,d.2):=by rw[hd];rfl
 by_cases hd2:d.2=0
 case neg=>
  rw[if_neg hd2]at uB
  rw[uB]at hR
  obtain⟨W,e1,K⟩:=hR.2 hd2
  rw[e1,bS]
  simp only
  rw[show A.ext 0 (.aF [.np,.int .i64 0,.int .i64 d.2])=some .np from rfl,bS,show A.ext 1 (.aF [.np,.int .i64 0,.int .i64 d.2])=some (.int .i64 0)from rfl,bS,show A.ext 2 (.aF [.np,.int .i64 0,.int .i64 d.2])=some (.int .i64 d.2)from rfl,bS,fI,bS,decide_eq_true hd2]
  simp only[vZ,gU,bS,lq,cT,show A.eql .p .np .np=some (.bool true)from rfl]
  exact Gx true K
 rw[if_pos hd2]at uB
 rw[uB]at hR
 obtain⟨id,W,e1,hK,K⟩:=hR.1 rfl
 rw[e1,bS]
 simp only
 rw[show A.ext 0 (.aF [.op id 0,.int .i64 0,.int .i64 0])=some (.op id 0)from rfl,bS,show A.ext 1 (.aF [.op id 0,.int .i64 0,.int .i64 0])=some (.int .i64 0)from rfl,bS,show A.ext 2 (.aF [.op id 0,.int .i64 0,.int .i64 0])=some (.int .i64 0)from rfl,bS,fI,bS,decide_eq_false (fun q=>q rfl)]
 have hnp:A.eql .p (.op id 0) .np=some (.bool false):=rfl
 simp only[gF,bS,fI,nh]
 by_cases hf:DM r k=0
 case neg=>
  rw[decide_eq_true hf,cA,hnp]
  simp only[gF,bS,fI,decide_eq_true hf,nh]
  exact Gx true K
 rw[decide_eq_false (fun q=>q hf),cz,hnp,bS,cz]
 have Bx:=hp hf
 have hpk:(jj r k).2=true:=by
  unfold DM at hf
  split at hf
  ·rename_i q;exact absurd hf q
  ·split at hf
   ·assumption
   ·cases hf
 rw[show A.aj 4 (bU p)=some (.int .i64 p.default)from rfl,bS,Ma,bS,QZ,bS,Lm,bS]
 rw[show((((A.cell (.int .i64 p.default)).bind fun v=>some [v]).bind fun l8=>(A.splice 0 l8 [ah,ah,ah,ah,ah,ah,AV.aq]).bind fun l9=>((A.cell (.int .i64 n)).bind fun v=>some [v]).bind fun Bn=>(A.splice 1 Bn l9).bind fun JC=>((A.cell (.int .i64 (mD c k n).delay)).bind fun v=>some [v]).bind fun vX=>(A.splice 3 vX JC).bind fun oo=>((A.cell (.int .i64 (mD c k n).other)).bind fun v=>some [v]).bind fun iU=>(A.splice 4 iU oo).bind fun xV=>(A.cells 2 (.agg (lJ (mD c k n).dS))).bind fun sN=>(A.splice 5 sN xV).bind fun mY=>some mY).bind fun cs=>some (AV.agg cs))=some (.agg (ew ⟨p.default,n,0,c.delay,c.other,c.dS⟩))from rfl,bS,Ac,bS,It _ _ rfl,bS,show A.aj 1 (bU p)=some (.int .i64 p.group)from rfl,bS,gR,bS]
 have A1:(A.cond (.bool (decide (p.group=1))) ((A.aj 3 (aX (mD c k n))).bind fun uI=>((A.cell ah).bind fun v=>some [v]).bind fun SM=>(A.splice 0 SM (ew ⟨p.default,n,0,c.delay,c.other,c.dS⟩)).bind fun SN=>((A.cell uI).bind fun v=>some [v]).bind fun xk=>(A.splice 4 xk SN).bind fun I2=>some ([(AV.lbx (aL k)),(AV.lbx (bU p)),(AV.lbx I2)],W)) (some ([(AV.lbx (aL k)),(AV.lbx (bU p)),(AV.lbx (ew ⟨p.default,n,0,c.delay,c.other,c.dS⟩))],W)))=some ([(AV.lbx (aL k)),(AV.lbx (bU p)),(AV.lbx (ew ⟨if p.group=1 then 0 else p.default,n,0,c.delay,if p.group=1 then c.up else c.other,c.dS⟩))],W):=by
  by_cases g:p.group=1
  ·simp only[decide_eq_true g,cT,if_pos g];rfl
  ·simp only[decide_eq_false g,cF,if_neg g]
 refine(congrArg (fun z=>Option.bind z _) A1).trans ?_
 rw[bS]
 simp only[List.getD_cons_zero,List.getD_cons_succ,ij,bS,show A.aj 5 (bU p)=some (.bool p.snap)from rfl]
 have A2:(A.cond (.bool p.snap) (((A.cell ah).bind fun v=>some [v]).bind fun p5=>(A.splice 4 p5 (ew ⟨if p.group=1 then 0 else p.default,n,0,c.delay,if p.group=1 then c.up else c.other,c.dS⟩)).bind fun p6=>some ([(AV.lbx (aL k)),(AV.lbx p6)],W)) (some ([(AV.lbx (aL k)),(AV.lbx (ew ⟨if p.group=1 then 0 else p.default,n,0,c.delay,if p.group=1 then c.up else c.other,c.dS⟩))],W)))=some ([(AV.lbx (aL k)),(AV.lbx (ew (mE p n c)))],W):=by
  unfold mE
  cases p.snap<;>rfl
 refine(congrArg (fun z=>Option.bind z _) A2).trans ?_
 rw[bS]
 simp only[List.getD_cons_zero,List.getD_cons_succ,ij,bS,LQ,Qq,kU,DT]
 have hO:=Nv hs h0
 have u9:=Rb (hO.Og ⟨1,[mD c k n]⟩ (List.mem_singleton.2 rfl)) (List.mem_singleton.2 rfl:mD c k n∈[mD c k n])
 have mH:0≤c.delay∧c.delay≤36000000:=u9.d
 have UA:0≤c.up∧c.up≤36000000:=u9.u
 have hot:0≤c.other∧c.other≤36000000:=u9.o
 have htm:0≤(mE p n c).time∧(mE p n c).time≤36000000:=by
  show 0≤(if p.snap=true then 0 else if p.group=1 then c.up else c.other)∧(if p.snap=true then 0 else if p.group=1 then c.up else c.other)≤36000000
  split
  ·simp
  split
  ·exact UA
  ·exact hot
 rw[show(mE p n c).delay=c.delay from rfl,show IntKind.i64.wrap (c.delay+(mE p n c).time)=c.delay+(mE p n c).time from wrap64 (by unfold aM;omega)]
 by_cases Gz:36000000<c.delay+(mE p n c).time
 ·rw[decide_eq_true Gz,cA]
  exact Gx true K
 rw[decide_eq_false Gz,cz]
 rw[hd]at hd2
 have abC:=ali hs h0 hpk hd2 (by rw[←Bx];exact Gz)
 rw[←Bx,←hd]at abC
 obtain⟨hfo,hlv⟩:=abC
 have K1:=hs_eq (show _=qR (.op id 0) d.1*emp by rw[Ad]) K
 obtain⟨W2,v1,K2⟩:=aiD hK k t K1
 rw[BZ,bS]
 by_cases ht:0≤t∧t≤36000000
 ·rw[aaP hfo ht.1 ht.2,bS]
  simp only
  rw[iQ,bS,ext1,bS,nP,bS,v1,hlv t ht.1 ht.2,bS]
  simp only
  rw[iQ,bS,ext1,bS,gR,bS,decide_eq_true rfl]
  simp only[gT,bS,gR,decide_true,lq]
  exact Gx true K2
 ·rw[ams hfo ht,bS]
  simp only
  rw[iQ,bS,ext1,bS,nP,bS,v1,ah1 ht,bS]
  simp only
  rw[iQ,bS,ext1,bS,gR,bS,decide_eq_true rfl]
  simp only[gT,bS,gR,decide_true,lq]
  exact Gx true K2
theorem adt (r:dO) (k:aB) (n:Int) (c:aY) (t:Int) (hr:rZ r) (hk:AH k) (hn:aM n) (hc:um c) (_:aM t):rZ r∧AH k∧aM n∧um c:=⟨hr,hk,hn,hc⟩
end
section
open Go.ChangeShapes Go.WideShapes Go.ChangeAt Go.RowKit
theorem own:ownKnob Tryz.prog.godebug=none:=by kernel_rfl
theorem laidOut:laidOutB Tryz.prog=true:=by kernel_rfl
theorem VX {H:Type} {enc:TypeId×Value→H} {P:Program} (hl:laidOutB P=true) {W W':World} (hb:Below W.heap.size W W'):
  ∀{ts:List TypeId} {vs:List Value} {ds:List (DataW H)} {ps:List MemPlace},(ts.all fun t=>P.readableRec t&&decide (t<P.types.size))=true→
   DataW.TrodAll enc P W 0 (fun _=>true) true ts vs ds ps→(∀x∈ps,x.block<W.heap.size)→DataW.TrodAll enc P W' 0 (fun b=>decide (b<W.heap.size)) true ts vs ds ps
 |[],[],[],_,_,h,_=>h
 |t::ts,v::vs,d::ds,ps,hts,h,hlt=>by
  obtain⟨p,q,h1,h2,rfl⟩:=h
  simp only[List.all_cons,Bool.and_eq_true,decide_eq_true_eq]at hts
  exact⟨p,q,Below.trod hl hts.1.1 hts.1.2 h1 hb (fun x hx=>hlt x (List.mem_append_left _ hx)),
   VX hl hb (by simpa using hts.2) h2 (fun x hx=>hlt x (List.mem_append_right _ hx)),rfl⟩
 |[],_::_,_,_,_,h,_=>h.elim
 |[],[],_::_,_,_,h,_=>h.elim
 |_::_,[],_,_,_,h,_=>h.elim
 |_::_,_::_,[],_,_,h,_=>h.elim
theorem aje {H:Type} {enc:TypeId×Value→H} {f:Func} {s:ChangeSpec} {W W':World} {args:Array Value} {ds gs:List (DataW H)} {before:List MemPlace} {t:TypeId}
  (hts:(f.params.toList.all fun t=>Tryz.prog.readableRec t&&decide (t<Tryz.prog.types.size))=true) (Bz:f.resultTypes=#[t]) (ht:Tryz.prog.underlying t=some .bool) (hvs:s.vars=[])
  (hW:DataW.Whole enc Tryz.prog f.params.toList s.vars false W args.toList ds gs before) (hb:Below W.heap.size W W')
  (Sr:s.fn H (ds++gs)={results:=[.lit (.bool true)],args:=ds}):
  s.post enc Tryz.prog f false true false false W args (.bool true) W':=by
 have N3:=hW
 obtain⟨p,q,hA,hV,rfl,hfz,hnd⟩:=hW
 have hlt:∀x∈p++q,x.block<W.heap.size:=fun x hx=>N3.lt x hx
 refine⟨ds,gs,p++q,[],p,[],N3,?_,?_,?_,hb.frame _,fun h=>by cases h⟩
 ·rw[Sr,Bz]
  exact trodAll_cons_mk (shut_bool ht _) trodAll_mk0
 ·rw[Sr]
  exact VX laidOut hb hts hA (fun x hx=>hlt x (List.mem_append_left _ hx))
 ·rw[Sr,hvs]
  exact rfl
end
section
open Go.RowKit
def Gr (w w':World):Prop:=Below w.heap.size w w'
theorem Gr.refl (w:World):Gr w w:=Below.refl _ _
theorem Gr.below {w w':World} (h:Gr w w'):Below w.heap.size w w':=h
theorem Gr.of {w w':World} (h:Below w.heap.size w w'):Gr w w':=h
theorem Gr.trans {a b c:World} (h:Gr a b) (k:Gr b c):Gr a c:=Below.trans h (Below.mono k (Below.size h))
theorem Gr.alloc {a b:World} (h:Gr a b) (o:Obj):Gr a (b.alloc o):=Below.alloc h (Below.size h) o
theorem Gr.drew {a b:World} (h:Gr a b):Gr a b.drew:=Below.drew h
theorem Gr.drewN {a b:World} (h:Gr a b) (n:Nat):Gr a (b.drewN n):=⟨h.os,h.tape,h.output,h.size,h.block⟩
theorem Gr.set {a b:World} (h:Gr a b) {k o:Nat} (hp:a.heap.size≤k) (u:Value):Gr a (b.setCell ⟨k,o,none⟩ u):=Below.setCell h hp u
theorem Gr.put {a b:World} {k o:Nat} (hp:a.heap.size≤k) (h:Gr a b) (u:Value):Gr a (b.setCell ⟨k,o,none⟩ u):=Below.setCell h hp u
theorem Gr.after {a b c:World} (k:Gr b c) (h:Gr a b):Gr a c:=h.trans k
theorem Gr.size {a b:World} (h:Gr a b):a.heap.size≤b.heap.size:=Below.size h
theorem Gr.cell {a b:World} (h:Gr a b) {p:Addr} {v:Value} (hc:a.cell? p=some v):b.cell? p=some v:=by
 by_cases hp:p.block<a.heap.size
 ·rw[Below.cell h hp];exact hc
 ·have:a.heap[p.block]? =none:=Array.getElem?_eq_none (by omega)
  simp [World.cell?,this]at hc
theorem Gr.free {a b:World} (h:Gr a b) {p:Addr} (hp:p.block<a.heap.size) {x:Bool} (hc:a.frozen? p=x):b.frozen? p=x:=by
 rw[Below.frozen h hp];exact hc
theorem Gr.lt {w w1:World} {o:Obj} (h:Gr (w.alloc o) w1):w.heap.size<w1.heap.size:=by have:=h.size;simp at this;omega
abbrev Cx (w:World) (b:Nat) (v0:Value):Prop:=(w.cell? ⟨b,0,none⟩=some v0)∧(w.frozen? ⟨b,0,none⟩=false)∧b<w.heap.size
theorem Cx.mono {w w1:World} {b:Nat} {v0:Value} (k:Cx w b v0) (h:Gr w w1):Cx w1 b v0:=by
 obtain⟨k0,f0,hlt⟩:=k
 exact⟨h.cell k0,h.free (by exact hlt) f0,Nat.lt_of_lt_of_le hlt h.size⟩
theorem Cx.of {w:World} {b:Nat} {v0:Value} {t:TypeId} (h:w.heap[b]? =some (.cells #[v0] t (0,0))):Cx w b v0:=by
 have hlt:b<w.heap.size:=(Array.getElem?_eq_some_iff.1 h).1
 refine⟨?_,?_,hlt⟩<;>simp [World.cell?,World.frozen?,h]
theorem Cx.at {w w1:World} {b:Nat} {v0:Value} {t:TypeId} (g:Gr w w1) (h:w.heap[b]? =some (.cells #[v0] t (0,0))):Cx w1 b v0:=(Cx.of h).mono g
abbrev Cy (w:World) (b:Nat) (v0 v1:Value):Prop:=(w.cell? ⟨b,0,none⟩=some v0∧w.cell? ⟨b,1,none⟩=some v1)∧(w.frozen? ⟨b,0,none⟩=false∧w.frozen? ⟨b,1,none⟩=false)∧b<w.heap.size
theorem Cy.mono {w w1:World} {b:Nat} {v0 v1:Value} (k:Cy w b v0 v1) (h:Gr w w1):Cy w1 b v0 v1:=by
 obtain⟨⟨k0,k1⟩,⟨f0,f1⟩,hlt⟩:=k
 exact⟨⟨h.cell k0,h.cell k1⟩,⟨h.free (by exact hlt) f0,h.free (by exact hlt) f1⟩,Nat.lt_of_lt_of_le hlt h.size⟩
theorem Cy.of {w:World} {b:Nat} {v0 v1:Value} {t:TypeId} (h:w.heap[b]? =some (.cells #[v0,v1] t (0,0))):Cy w b v0 v1:=by
 have hlt:b<w.heap.size:=(Array.getElem?_eq_some_iff.1 h).1
 refine⟨⟨?_,?_⟩,⟨?_,?_⟩,hlt⟩<;>simp [World.cell?,World.frozen?,h]
theorem Cy.at {w w1:World} {b:Nat} {v0 v1:Value} {t:TypeId} (g:Gr w w1) (h:w.heap[b]? =some (.cells #[v0,v1] t (0,0))):Cy w1 b v0 v1:=(Cy.of h).mono g
abbrev Cz (w:World) (b:Nat) (v0 v1 v2:Value):Prop:=(w.cell? ⟨b,0,none⟩=some v0∧w.cell? ⟨b,1,none⟩=some v1∧w.cell? ⟨b,2,none⟩=some v2)∧(w.frozen? ⟨b,0,none⟩=false∧w.frozen? ⟨b,1,none⟩=false∧w.frozen? ⟨b,2,none⟩=false)∧b<w.heap.size
theorem Cz.mono {w w1:World} {b:Nat} {v0 v1 v2:Value} (k:Cz w b v0 v1 v2) (h:Gr w w1):Cz w1 b v0 v1 v2:=by
 obtain⟨⟨k0,k1,k2⟩,⟨f0,f1,f2⟩,hlt⟩:=k
 exact⟨⟨h.cell k0,h.cell k1,h.cell k2⟩,⟨h.free (by exact hlt) f0,h.free (by exact hlt) f1,h.free (by exact hlt) f2⟩,Nat.lt_of_lt_of_le hlt h.size⟩
theorem Cz.of {w:World} {b:Nat} {v0 v1 v2:Value} {t:TypeId} (h:w.heap[b]? =some (.cells #[v0,v1,v2] t (0,0))):Cz w b v0 v1 v2:=by
 have hlt:b<w.heap.size:=(Array.getElem?_eq_some_iff.1 h).1
 refine⟨⟨?_,?_,?_⟩,⟨?_,?_,?_⟩,hlt⟩<;>simp [World.cell?,World.frozen?,h]
theorem Cz.at {w w1:World} {b:Nat} {v0 v1 v2:Value} {t:TypeId} (g:Gr w w1) (h:w.heap[b]? =some (.cells #[v0,v1,v2] t (0,0))):Cz w1 b v0 v1 v2:=(Cz.of h).mono g
abbrev CA (w:World) (b:Nat) (v0 v1 v2 v3:Value):Prop:=(w.cell? ⟨b,0,none⟩=some v0∧w.cell? ⟨b,1,none⟩=some v1∧w.cell? ⟨b,2,none⟩=some v2∧w.cell? ⟨b,3,none⟩=some v3)∧(w.frozen? ⟨b,0,none⟩=false∧w.frozen? ⟨b,1,none⟩=false∧w.frozen? ⟨b,2,none⟩=false∧w.frozen? ⟨b,3,none⟩=false)∧b<w.heap.size
theorem CA.mono {w w1:World} {b:Nat} {v0 v1 v2 v3:Value} (k:CA w b v0 v1 v2 v3) (h:Gr w w1):CA w1 b v0 v1 v2 v3:=by
 obtain⟨⟨k0,k1,k2,k3⟩,⟨f0,f1,f2,f3⟩,hlt⟩:=k
 exact⟨⟨h.cell k0,h.cell k1,h.cell k2,h.cell k3⟩,⟨h.free (by exact hlt) f0,h.free (by exact hlt) f1,h.free (by exact hlt) f2,h.free (by exact hlt) f3⟩,Nat.lt_of_lt_of_le hlt h.size⟩
theorem CA.of {w:World} {b:Nat} {v0 v1 v2 v3:Value} {t:TypeId} (h:w.heap[b]? =some (.cells #[v0,v1,v2,v3] t (0,0))):CA w b v0 v1 v2 v3:=by
 have hlt:b<w.heap.size:=(Array.getElem?_eq_some_iff.1 h).1
 refine⟨⟨?_,?_,?_,?_⟩,⟨?_,?_,?_,?_⟩,hlt⟩<;>simp [World.cell?,World.frozen?,h]
theorem CA.at {w w1:World} {b:Nat} {v0 v1 v2 v3:Value} {t:TypeId} (g:Gr w w1) (h:w.heap[b]? =some (.cells #[v0,v1,v2,v3] t (0,0))):CA w1 b v0 v1 v2 v3:=(CA.of h).mono g
abbrev CB (w:World) (b:Nat) (v0 v1 v2 v3 v4:Value):Prop:=(w.cell? ⟨b,0,none⟩=some v0∧w.cell? ⟨b,1,none⟩=some v1∧w.cell? ⟨b,2,none⟩=some v2∧w.cell? ⟨b,3,none⟩=some v3∧w.cell? ⟨b,4,none⟩=some v4)∧(w.frozen? ⟨b,0,none⟩=false∧w.frozen? ⟨b,1,none⟩=false∧w.frozen? ⟨b,2,none⟩=false∧w.frozen? ⟨b,3,none⟩=false∧w.frozen? ⟨b,4,none⟩=false)∧b<w.heap.size
theorem CB.mono {w w1:World} {b:Nat} {v0 v1 v2 v3 v4:Value} (k:CB w b v0 v1 v2 v3 v4) (h:Gr w w1):CB w1 b v0 v1 v2 v3 v4:=by
 obtain⟨⟨k0,k1,k2,k3,k4⟩,⟨f0,f1,f2,f3,f4⟩,hlt⟩:=k
 exact⟨⟨h.cell k0,h.cell k1,h.cell k2,h.cell k3,h.cell k4⟩,⟨h.free (by exact hlt) f0,h.free (by exact hlt) f1,h.free (by exact hlt) f2,h.free (by exact hlt) f3,h.free (by exact hlt) f4⟩,Nat.lt_of_lt_of_le hlt h.size⟩
theorem CB.of {w:World} {b:Nat} {v0 v1 v2 v3 v4:Value} {t:TypeId} (h:w.heap[b]? =some (.cells #[v0,v1,v2,v3,v4] t (0,0))):CB w b v0 v1 v2 v3 v4:=by
 have hlt:b<w.heap.size:=(Array.getElem?_eq_some_iff.1 h).1
 refine⟨⟨?_,?_,?_,?_,?_⟩,⟨?_,?_,?_,?_,?_⟩,hlt⟩<;>simp [World.cell?,World.frozen?,h]
theorem CB.at {w w1:World} {b:Nat} {v0 v1 v2 v3 v4:Value} {t:TypeId} (g:Gr w w1) (h:w.heap[b]? =some (.cells #[v0,v1,v2,v3,v4] t (0,0))):CB w1 b v0 v1 v2 v3 v4:=(CB.of h).mono g
abbrev CC (w:World) (b:Nat) (v0 v1 v2 v3 v4 v5:Value):Prop:=(w.cell? ⟨b,0,none⟩=some v0∧w.cell? ⟨b,1,none⟩=some v1∧w.cell? ⟨b,2,none⟩=some v2∧w.cell? ⟨b,3,none⟩=some v3∧w.cell? ⟨b,4,none⟩=some v4∧w.cell? ⟨b,5,none⟩=some v5)∧(w.frozen? ⟨b,0,none⟩=false∧w.frozen? ⟨b,1,none⟩=false∧w.frozen? ⟨b,2,none⟩=false∧w.frozen? ⟨b,3,none⟩=false∧w.frozen? ⟨b,4,none⟩=false∧w.frozen? ⟨b,5,none⟩=false)∧b<w.heap.size
theorem CC.mono {w w1:World} {b:Nat} {v0 v1 v2 v3 v4 v5:Value} (k:CC w b v0 v1 v2 v3 v4 v5) (h:Gr w w1):CC w1 b v0 v1 v2 v3 v4 v5:=by
 obtain⟨⟨k0,k1,k2,k3,k4,k5⟩,⟨f0,f1,f2,f3,f4,f5⟩,hlt⟩:=k
 exact⟨⟨h.cell k0,h.cell k1,h.cell k2,h.cell k3,h.cell k4,h.cell k5⟩,⟨h.free (by exact hlt) f0,h.free (by exact hlt) f1,h.free (by exact hlt) f2,h.free (by exact hlt) f3,h.free (by exact hlt) f4,h.free (by exact hlt) f5⟩,Nat.lt_of_lt_of_le hlt h.size⟩
theorem CC.of {w:World} {b:Nat} {v0 v1 v2 v3 v4 v5:Value} {t:TypeId} (h:w.heap[b]? =some (.cells #[v0,v1,v2,v3,v4,v5] t (0,0))):CC w b v0 v1 v2 v3 v4 v5:=by
 have hlt:b<w.heap.size:=(Array.getElem?_eq_some_iff.1 h).1
 refine⟨⟨?_,?_,?_,?_,?_,?_⟩,⟨?_,?_,?_,?_,?_,?_⟩,hlt⟩<;>simp [World.cell?,World.frozen?,h]
theorem CC.at {w w1:World} {b:Nat} {v0 v1 v2 v3 v4 v5:Value} {t:TypeId} (g:Gr w w1) (h:w.heap[b]? =some (.cells #[v0,v1,v2,v3,v4,v5] t (0,0))):CC w1 b v0 v1 v2 v3 v4 v5:=(CC.of h).mono g
abbrev CD (w:World) (b:Nat) (v0 v1 v2 v3 v4 v5 v6:Value):Prop:=(w.cell? ⟨b,0,none⟩=some v0∧w.cell? ⟨b,1,none⟩=some v1∧w.cell? ⟨b,2,none⟩=some v2∧w.cell? ⟨b,3,none⟩=some v3∧w.cell? ⟨b,4,none⟩=some v4∧w.cell? ⟨b,5,none⟩=some v5∧w.cell? ⟨b,6,none⟩=some v6)∧(w.frozen? ⟨b,0,none⟩=false∧w.frozen? ⟨b,1,none⟩=false∧w.frozen? ⟨b,2,none⟩=false∧w.frozen? ⟨b,3,none⟩=false∧w.frozen? ⟨b,4,none⟩=false∧w.frozen? ⟨b,5,none⟩=false∧w.frozen? ⟨b,6,none⟩=false)∧b<w.heap.size
theorem CD.mono {w w1:World} {b:Nat} {v0 v1 v2 v3 v4 v5 v6:Value} (k:CD w b v0 v1 v2 v3 v4 v5 v6) (h:Gr w w1):CD w1 b v0 v1 v2 v3 v4 v5 v6:=by
 obtain⟨⟨k0,k1,k2,k3,k4,k5,k6⟩,⟨f0,f1,f2,f3,f4,f5,f6⟩,hlt⟩:=k
 exact⟨⟨h.cell k0,h.cell k1,h.cell k2,h.cell k3,h.cell k4,h.cell k5,h.cell k6⟩,⟨h.free (by exact hlt) f0,h.free (by exact hlt) f1,h.free (by exact hlt) f2,h.free (by exact hlt) f3,h.free (by exact hlt) f4,h.free (by exact hlt) f5,h.free (by exact hlt) f6⟩,Nat.lt_of_lt_of_le hlt h.size⟩
theorem CD.of {w:World} {b:Nat} {v0 v1 v2 v3 v4 v5 v6:Value} {t:TypeId} (h:w.heap[b]? =some (.cells #[v0,v1,v2,v3,v4,v5,v6] t (0,0))):CD w b v0 v1 v2 v3 v4 v5 v6:=by
 have hlt:b<w.heap.size:=(Array.getElem?_eq_some_iff.1 h).1
 refine⟨⟨?_,?_,?_,?_,?_,?_,?_⟩,⟨?_,?_,?_,?_,?_,?_,?_⟩,hlt⟩<;>simp [World.cell?,World.frozen?,h]
theorem CD.at {w w1:World} {b:Nat} {v0 v1 v2 v3 v4 v5 v6:Value} {t:TypeId} (g:Gr w w1) (h:w.heap[b]? =some (.cells #[v0,v1,v2,v3,v4,v5,v6] t (0,0))):CD w1 b v0 v1 v2 v3 v4 v5 v6:=(CD.of h).mono g
abbrev CE (w:World) (b:Nat) (v0 v1 v2 v3 v4 v5 v6 v7:Value):Prop:=(w.cell? ⟨b,0,none⟩=some v0∧w.cell? ⟨b,1,none⟩=some v1∧w.cell? ⟨b,2,none⟩=some v2∧w.cell? ⟨b,3,none⟩=some v3∧w.cell? ⟨b,4,none⟩=some v4∧w.cell? ⟨b,5,none⟩=some v5∧w.cell? ⟨b,6,none⟩=some v6∧w.cell? ⟨b,7,none⟩=some v7)∧(w.frozen? ⟨b,0,none⟩=false∧w.frozen? ⟨b,1,none⟩=false∧w.frozen? ⟨b,2,none⟩=false∧w.frozen? ⟨b,3,none⟩=false∧w.frozen? ⟨b,4,none⟩=false∧w.frozen? ⟨b,5,none⟩=false∧w.frozen? ⟨b,6,none⟩=false∧w.frozen? ⟨b,7,none⟩=false)∧b<w.heap.size
theorem CE.mono {w w1:World} {b:Nat} {v0 v1 v2 v3 v4 v5 v6 v7:Value} (k:CE w b v0 v1 v2 v3 v4 v5 v6 v7) (h:Gr w w1):CE w1 b v0 v1 v2 v3 v4 v5 v6 v7:=by
 obtain⟨⟨k0,k1,k2,k3,k4,k5,k6,k7⟩,⟨f0,f1,f2,f3,f4,f5,f6,f7⟩,hlt⟩:=k
 exact⟨⟨h.cell k0,h.cell k1,h.cell k2,h.cell k3,h.cell k4,h.cell k5,h.cell k6,h.cell k7⟩,⟨h.free (by exact hlt) f0,h.free (by exact hlt) f1,h.free (by exact hlt) f2,h.free (by exact hlt) f3,h.free (by exact hlt) f4,h.free (by exact hlt) f5,h.free (by exact hlt) f6,h.free (by exact hlt) f7⟩,Nat.lt_of_lt_of_le hlt h.size⟩
theorem CE.of {w:World} {b:Nat} {v0 v1 v2 v3 v4 v5 v6 v7:Value} {t:TypeId} (h:w.heap[b]? =some (.cells #[v0,v1,v2,v3,v4,v5,v6,v7] t (0,0))):CE w b v0 v1 v2 v3 v4 v5 v6 v7:=by
 have hlt:b<w.heap.size:=(Array.getElem?_eq_some_iff.1 h).1
 refine⟨⟨?_,?_,?_,?_,?_,?_,?_,?_⟩,⟨?_,?_,?_,?_,?_,?_,?_,?_⟩,hlt⟩<;>simp [World.cell?,World.frozen?,h]
theorem CE.at {w w1:World} {b:Nat} {v0 v1 v2 v3 v4 v5 v6 v7:Value} {t:TypeId} (g:Gr w w1) (h:w.heap[b]? =some (.cells #[v0,v1,v2,v3,v4,v5,v6,v7] t (0,0))):CE w1 b v0 v1 v2 v3 v4 v5 v6 v7:=(CE.of h).mono g
abbrev CF (w:World) (b:Nat) (v0 v1 v2 v3 v4 v5 v6 v7 v8:Value):Prop:=(w.cell? ⟨b,0,none⟩=some v0∧w.cell? ⟨b,1,none⟩=some v1∧w.cell? ⟨b,2,none⟩=some v2∧w.cell? ⟨b,3,none⟩=some v3∧w.cell? ⟨b,4,none⟩=some v4∧w.cell? ⟨b,5,none⟩=some v5∧w.cell? ⟨b,6,none⟩=some v6∧w.cell? ⟨b,7,none⟩=some v7∧w.cell? ⟨b,8,none⟩=some v8)∧(w.frozen? ⟨b,0,none⟩=false∧w.frozen? ⟨b,1,none⟩=false∧w.frozen? ⟨b,2,none⟩=false∧w.frozen? ⟨b,3,none⟩=false∧w.frozen? ⟨b,4,none⟩=false∧w.frozen? ⟨b,5,none⟩=false∧w.frozen? ⟨b,6,none⟩=false∧w.frozen? ⟨b,7,none⟩=false∧w.frozen? ⟨b,8,none⟩=false)∧b<w.heap.size
theorem CF.mono {w w1:World} {b:Nat} {v0 v1 v2 v3 v4 v5 v6 v7 v8:Value} (k:CF w b v0 v1 v2 v3 v4 v5 v6 v7 v8) (h:Gr w w1):CF w1 b v0 v1 v2 v3 v4 v5 v6 v7 v8:=by
 obtain⟨⟨k0,k1,k2,k3,k4,k5,k6,k7,k8⟩,⟨f0,f1,f2,f3,f4,f5,f6,f7,f8⟩,hlt⟩:=k
 exact⟨⟨h.cell k0,h.cell k1,h.cell k2,h.cell k3,h.cell k4,h.cell k5,h.cell k6,h.cell k7,h.cell k8⟩,⟨h.free (by exact hlt) f0,h.free (by exact hlt) f1,h.free (by exact hlt) f2,h.free (by exact hlt) f3,h.free (by exact hlt) f4,h.free (by exact hlt) f5,h.free (by exact hlt) f6,h.free (by exact hlt) f7,h.free (by exact hlt) f8⟩,Nat.lt_of_lt_of_le hlt h.size⟩
theorem CF.of {w:World} {b:Nat} {v0 v1 v2 v3 v4 v5 v6 v7 v8:Value} {t:TypeId} (h:w.heap[b]? =some (.cells #[v0,v1,v2,v3,v4,v5,v6,v7,v8] t (0,0))):CF w b v0 v1 v2 v3 v4 v5 v6 v7 v8:=by
 have hlt:b<w.heap.size:=(Array.getElem?_eq_some_iff.1 h).1
 refine⟨⟨?_,?_,?_,?_,?_,?_,?_,?_,?_⟩,⟨?_,?_,?_,?_,?_,?_,?_,?_,?_⟩,hlt⟩<;>simp [World.cell?,World.frozen?,h]
theorem CF.at {w w1:World} {b:Nat} {v0 v1 v2 v3 v4 v5 v6 v7 v8:Value} {t:TypeId} (g:Gr w w1) (h:w.heap[b]? =some (.cells #[v0,v1,v2,v3,v4,v5,v6,v7,v8] t (0,0))):CF w1 b v0 v1 v2 v3 v4 v5 v6 v7 v8:=(CF.of h).mono g
abbrev Ck (w:World) (b:Nat) (v0 v1 v2 v3 v4 v5 v6 v7 v8 v9:Value):Prop:=(w.cell? ⟨b,0,none⟩=some v0∧w.cell? ⟨b,1,none⟩=some v1∧w.cell? ⟨b,2,none⟩=some v2∧w.cell? ⟨b,3,none⟩=some v3∧w.cell? ⟨b,4,none⟩=some v4∧w.cell? ⟨b,5,none⟩=some v5∧w.cell? ⟨b,6,none⟩=some v6∧w.cell? ⟨b,7,none⟩=some v7∧w.cell? ⟨b,8,none⟩=some v8∧w.cell? ⟨b,9,none⟩=some v9)∧(w.frozen? ⟨b,0,none⟩=false∧w.frozen? ⟨b,1,none⟩=false∧w.frozen? ⟨b,2,none⟩=false∧w.frozen? ⟨b,3,none⟩=false∧w.frozen? ⟨b,4,none⟩=false∧w.frozen? ⟨b,5,none⟩=false∧w.frozen? ⟨b,6,none⟩=false∧w.frozen? ⟨b,7,none⟩=false∧w.frozen? ⟨b,8,none⟩=false∧w.frozen? ⟨b,9,none⟩=false)∧b<w.heap.size
theorem Ck.mono {w w1:World} {b:Nat} {v0 v1 v2 v3 v4 v5 v6 v7 v8 v9:Value} (k:Ck w b v0 v1 v2 v3 v4 v5 v6 v7 v8 v9) (h:Gr w w1):Ck w1 b v0 v1 v2 v3 v4 v5 v6 v7 v8 v9:=by
 obtain⟨⟨k0,k1,k2,k3,k4,k5,k6,k7,k8,k9⟩,⟨f0,f1,f2,f3,f4,f5,f6,f7,f8,f9⟩,hlt⟩:=k
 exact⟨⟨h.cell k0,h.cell k1,h.cell k2,h.cell k3,h.cell k4,h.cell k5,h.cell k6,h.cell k7,h.cell k8,h.cell k9⟩,⟨h.free (by exact hlt) f0,h.free (by exact hlt) f1,h.free (by exact hlt) f2,h.free (by exact hlt) f3,h.free (by exact hlt) f4,h.free (by exact hlt) f5,h.free (by exact hlt) f6,h.free (by exact hlt) f7,h.free (by exact hlt) f8,h.free (by exact hlt) f9⟩,Nat.lt_of_lt_of_le hlt h.size⟩
theorem Ck.of {w:World} {b:Nat} {v0 v1 v2 v3 v4 v5 v6 v7 v8 v9:Value} {t:TypeId} (h:w.heap[b]? =some (.cells #[v0,v1,v2,v3,v4,v5,v6,v7,v8,v9] t (0,0))):Ck w b v0 v1 v2 v3 v4 v5 v6 v7 v8 v9:=by
 have hlt:b<w.heap.size:=(Array.getElem?_eq_some_iff.1 h).1
 refine⟨⟨?_,?_,?_,?_,?_,?_,?_,?_,?_,?_⟩,⟨?_,?_,?_,?_,?_,?_,?_,?_,?_,?_⟩,hlt⟩<;>simp [World.cell?,World.frozen?,h]
theorem Ck.at {w w1:World} {b:Nat} {v0 v1 v2 v3 v4 v5 v6 v7 v8 v9:Value} {t:TypeId} (g:Gr w w1) (h:w.heap[b]? =some (.cells #[v0,v1,v2,v3,v4,v5,v6,v7,v8,v9] t (0,0))):Ck w1 b v0 v1 v2 v3 v4 v5 v6 v7 v8 v9:=(Ck.of h).mono g
abbrev Cl (w:World) (b:Nat) (v0 v1 v2 v3 v4 v5 v6 v7 v8 v9 v10:Value):Prop:=(w.cell? ⟨b,0,none⟩=some v0∧w.cell? ⟨b,1,none⟩=some v1∧w.cell? ⟨b,2,none⟩=some v2∧w.cell? ⟨b,3,none⟩=some v3∧w.cell? ⟨b,4,none⟩=some v4∧w.cell? ⟨b,5,none⟩=some v5∧w.cell? ⟨b,6,none⟩=some v6∧w.cell? ⟨b,7,none⟩=some v7∧w.cell? ⟨b,8,none⟩=some v8∧w.cell? ⟨b,9,none⟩=some v9∧w.cell? ⟨b,10,none⟩=some v10)∧(w.frozen? ⟨b,0,none⟩=false∧w.frozen? ⟨b,1,none⟩=false∧w.frozen? ⟨b,2,none⟩=false∧w.frozen? ⟨b,3,none⟩=false∧w.frozen? ⟨b,4,none⟩=false∧w.frozen? ⟨b,5,none⟩=false∧w.frozen? ⟨b,6,none⟩=false∧w.frozen? ⟨b,7,none⟩=false∧w.frozen? ⟨b,8,none⟩=false∧w.frozen? ⟨b,9,none⟩=false∧w.frozen? ⟨b,10,none⟩=false)∧b<w.heap.size
theorem Cl.mono {w w1:World} {b:Nat} {v0 v1 v2 v3 v4 v5 v6 v7 v8 v9 v10:Value} (k:Cl w b v0 v1 v2 v3 v4 v5 v6 v7 v8 v9 v10) (h:Gr w w1):Cl w1 b v0 v1 v2 v3 v4 v5 v6 v7 v8 v9 v10:=by
 obtain⟨⟨k0,k1,k2,k3,k4,k5,k6,k7,k8,k9,ES⟩,⟨f0,f1,f2,f3,f4,f5,f6,f7,f8,f9,f10⟩,hlt⟩:=k
 exact⟨⟨h.cell k0,h.cell k1,h.cell k2,h.cell k3,h.cell k4,h.cell k5,h.cell k6,h.cell k7,h.cell k8,h.cell k9,h.cell ES⟩,⟨h.free (by exact hlt) f0,h.free (by exact hlt) f1,h.free (by exact hlt) f2,h.free (by exact hlt) f3,h.free (by exact hlt) f4,h.free (by exact hlt) f5,h.free (by exact hlt) f6,h.free (by exact hlt) f7,h.free (by exact hlt) f8,h.free (by exact hlt) f9,h.free (by exact hlt) f10⟩,Nat.lt_of_lt_of_le hlt h.size⟩
theorem Cl.of {w:World} {b:Nat} {v0 v1 v2 v3 v4 v5 v6 v7 v8 v9 v10:Value} {t:TypeId} (h:w.heap[b]? =some (.cells #[v0,v1,v2,v3,v4,v5,v6,v7,v8,v9,v10] t (0,0))):Cl w b v0 v1 v2 v3 v4 v5 v6 v7 v8 v9 v10:=by
 have hlt:b<w.heap.size:=(Array.getElem?_eq_some_iff.1 h).1
 refine⟨⟨?_,?_,?_,?_,?_,?_,?_,?_,?_,?_,?_⟩,⟨?_,?_,?_,?_,?_,?_,?_,?_,?_,?_,?_⟩,hlt⟩<;>simp [World.cell?,World.frozen?,h]
theorem Cl.at {w w1:World} {b:Nat} {v0 v1 v2 v3 v4 v5 v6 v7 v8 v9 v10:Value} {t:TypeId} (g:Gr w w1) (h:w.heap[b]? =some (.cells #[v0,v1,v2,v3,v4,v5,v6,v7,v8,v9,v10] t (0,0))):Cl w1 b v0 v1 v2 v3 v4 v5 v6 v7 v8 v9 v10:=(Cl.of h).mono g
abbrev Cm (w:World) (b:Nat) (v0 v1 v2 v3 v4 v5 v6 v7 v8 v9 v10 v11:Value):Prop:=(w.cell? ⟨b,0,none⟩=some v0∧w.cell? ⟨b,1,none⟩=some v1∧w.cell? ⟨b,2,none⟩=some v2∧w.cell? ⟨b,3,none⟩=some v3∧w.cell? ⟨b,4,none⟩=some v4∧w.cell? ⟨b,5,none⟩=some v5∧w.cell? ⟨b,6,none⟩=some v6∧w.cell? ⟨b,7,none⟩=some v7∧w.cell? ⟨b,8,none⟩=some v8∧w.cell? ⟨b,9,none⟩=some v9∧w.cell? ⟨b,10,none⟩=some v10∧w.cell? ⟨b,11,none⟩=some v11)∧(w.frozen? ⟨b,0,none⟩=false∧w.frozen? ⟨b,1,none⟩=false∧w.frozen? ⟨b,2,none⟩=false∧w.frozen? ⟨b,3,none⟩=false∧w.frozen? ⟨b,4,none⟩=false∧w.frozen? ⟨b,5,none⟩=false∧w.frozen? ⟨b,6,none⟩=false∧w.frozen? ⟨b,7,none⟩=false∧w.frozen? ⟨b,8,none⟩=false∧w.frozen? ⟨b,9,none⟩=false∧w.frozen? ⟨b,10,none⟩=false∧w.frozen? ⟨b,11,none⟩=false)∧b<w.heap.size
theorem Cm.mono {w w1:World} {b:Nat} {v0 v1 v2 v3 v4 v5 v6 v7 v8 v9 v10 v11:Value} (k:Cm w b v0 v1 v2 v3 v4 v5 v6 v7 v8 v9 v10 v11) (h:Gr w w1):Cm w1 b v0 v1 v2 v3 v4 v5 v6 v7 v8 v9 v10 v11:=by
 obtain⟨⟨k0,k1,k2,k3,k4,k5,k6,k7,k8,k9,ES,Kb⟩,⟨f0,f1,f2,f3,f4,f5,f6,f7,f8,f9,f10,f11⟩,hlt⟩:=k
 exact⟨⟨h.cell k0,h.cell k1,h.cell k2,h.cell k3,h.cell k4,h.cell k5,h.cell k6,h.cell k7,h.cell k8,h.cell k9,h.cell ES,h.cell Kb⟩,⟨h.free (by exact hlt) f0,h.free (by exact hlt) f1,h.free (by exact hlt) f2,h.free (by exact hlt) f3,h.free (by exact hlt) f4,h.free (by exact hlt) f5,h.free (by exact hlt) f6,h.free (by exact hlt) f7,h.free (by exact hlt) f8,h.free (by exact hlt) f9,h.free (by exact hlt) f10,h.free (by exact hlt) f11⟩,Nat.lt_of_lt_of_le hlt h.size⟩
theorem Cm.of {w:World} {b:Nat} {v0 v1 v2 v3 v4 v5 v6 v7 v8 v9 v10 v11:Value} {t:TypeId} (h:w.heap[b]? =some (.cells #[v0,v1,v2,v3,v4,v5,v6,v7,v8,v9,v10,v11] t (0,0))):Cm w b v0 v1 v2 v3 v4 v5 v6 v7 v8 v9 v10 v11:=by
 have hlt:b<w.heap.size:=(Array.getElem?_eq_some_iff.1 h).1
 refine⟨⟨?_,?_,?_,?_,?_,?_,?_,?_,?_,?_,?_,?_⟩,⟨?_,?_,?_,?_,?_,?_,?_,?_,?_,?_,?_,?_⟩,hlt⟩<;>simp [World.cell?,World.frozen?,h]
theorem Cm.at {w w1:World} {b:Nat} {v0 v1 v2 v3 v4 v5 v6 v7 v8 v9 v10 v11:Value} {t:TypeId} (g:Gr w w1) (h:w.heap[b]? =some (.cells #[v0,v1,v2,v3,v4,v5,v6,v7,v8,v9,v10,v11] t (0,0))):Cm w1 b v0 v1 v2 v3 v4 v5 v6 v7 v8 v9 v10 v11:=(Cm.of h).mono g
abbrev Cn (w:World) (b:Nat) (v0 v1 v2 v3 v4 v5 v6 v7 v8 v9 v10 v11 v12:Value):Prop:=(w.cell? ⟨b,0,none⟩=some v0∧w.cell? ⟨b,1,none⟩=some v1∧w.cell? ⟨b,2,none⟩=some v2∧w.cell? ⟨b,3,none⟩=some v3∧w.cell? ⟨b,4,none⟩=some v4∧w.cell? ⟨b,5,none⟩=some v5∧w.cell? ⟨b,6,none⟩=some v6∧w.cell? ⟨b,7,none⟩=some v7∧w.cell? ⟨b,8,none⟩=some v8∧w.cell? ⟨b,9,none⟩=some v9∧w.cell? ⟨b,10,none⟩=some v10∧w.cell? ⟨b,11,none⟩=some v11∧w.cell? ⟨b,12,none⟩=some v12)∧(w.frozen? ⟨b,0,none⟩=false∧w.frozen? ⟨b,1,none⟩=false∧w.frozen? ⟨b,2,none⟩=false∧w.frozen? ⟨b,3,none⟩=false∧w.frozen? ⟨b,4,none⟩=false∧w.frozen? ⟨b,5,none⟩=false∧w.frozen? ⟨b,6,none⟩=false∧w.frozen? ⟨b,7,none⟩=false∧w.frozen? ⟨b,8,none⟩=false∧w.frozen? ⟨b,9,none⟩=false∧w.frozen? ⟨b,10,none⟩=false∧w.frozen? ⟨b,11,none⟩=false∧w.frozen? ⟨b,12,none⟩=false)∧b<w.heap.size
theorem Cn.mono {w w1:World} {b:Nat} {v0 v1 v2 v3 v4 v5 v6 v7 v8 v9 v10 v11 v12:Value} (k:Cn w b v0 v1 v2 v3 v4 v5 v6 v7 v8 v9 v10 v11 v12) (h:Gr w w1):Cn w1 b v0 v1 v2 v3 v4 v5 v6 v7 v8 v9 v10 v11 v12:=by
 obtain⟨⟨k0,k1,k2,k3,k4,k5,k6,k7,k8,k9,ES,Kb,UI⟩,⟨f0,f1,f2,f3,f4,f5,f6,f7,f8,f9,f10,f11,f12⟩,hlt⟩:=k
 exact⟨⟨h.cell k0,h.cell k1,h.cell k2,h.cell k3,h.cell k4,h.cell k5,h.cell k6,h.cell k7,h.cell k8,h.cell k9,h.cell ES,h.cell Kb,h.cell UI⟩,⟨h.free (by exact hlt) f0,h.free (by exact hlt) f1,h.free (by exact hlt) f2,h.free (by exact hlt) f3,h.free (by exact hlt) f4,h.free (by exact hlt) f5,h.free (by exact hlt) f6,h.free (by exact hlt) f7,h.free (by exact hlt) f8,h.free (by exact hlt) f9,h.free (by exact hlt) f10,h.free (by exact hlt) f11,h.free (by exact hlt) f12⟩,Nat.lt_of_lt_of_le hlt h.size⟩
theorem Cn.of {w:World} {b:Nat} {v0 v1 v2 v3 v4 v5 v6 v7 v8 v9 v10 v11 v12:Value} {t:TypeId} (h:w.heap[b]? =some (.cells #[v0,v1,v2,v3,v4,v5,v6,v7,v8,v9,v10,v11,v12] t (0,0))):Cn w b v0 v1 v2 v3 v4 v5 v6 v7 v8 v9 v10 v11 v12:=by
 have hlt:b<w.heap.size:=(Array.getElem?_eq_some_iff.1 h).1
 refine⟨⟨?_,?_,?_,?_,?_,?_,?_,?_,?_,?_,?_,?_,?_⟩,⟨?_,?_,?_,?_,?_,?_,?_,?_,?_,?_,?_,?_,?_⟩,hlt⟩<;>simp [World.cell?,World.frozen?,h]
theorem Cn.at {w w1:World} {b:Nat} {v0 v1 v2 v3 v4 v5 v6 v7 v8 v9 v10 v11 v12:Value} {t:TypeId} (g:Gr w w1) (h:w.heap[b]? =some (.cells #[v0,v1,v2,v3,v4,v5,v6,v7,v8,v9,v10,v11,v12] t (0,0))):Cn w1 b v0 v1 v2 v3 v4 v5 v6 v7 v8 v9 v10 v11 v12:=(Cn.of h).mono g
abbrev Co (w:World) (b:Nat) (v0 v1 v2 v3 v4 v5 v6 v7 v8 v9 v10 v11 v12 lB:Value):Prop:=(w.cell? ⟨b,0,none⟩=some v0∧w.cell? ⟨b,1,none⟩=some v1∧w.cell? ⟨b,2,none⟩=some v2∧w.cell? ⟨b,3,none⟩=some v3∧w.cell? ⟨b,4,none⟩=some v4∧w.cell? ⟨b,5,none⟩=some v5∧w.cell? ⟨b,6,none⟩=some v6∧w.cell? ⟨b,7,none⟩=some v7∧w.cell? ⟨b,8,none⟩=some v8∧w.cell? ⟨b,9,none⟩=some v9∧w.cell? ⟨b,10,none⟩=some v10∧w.cell? ⟨b,11,none⟩=some v11∧w.cell? ⟨b,12,none⟩=some v12∧w.cell? ⟨b,13,none⟩=some lB)∧(w.frozen? ⟨b,0,none⟩=false∧w.frozen? ⟨b,1,none⟩=false∧w.frozen? ⟨b,2,none⟩=false∧w.frozen? ⟨b,3,none⟩=false∧w.frozen? ⟨b,4,none⟩=false∧w.frozen? ⟨b,5,none⟩=false∧w.frozen? ⟨b,6,none⟩=false∧w.frozen? ⟨b,7,none⟩=false∧w.frozen? ⟨b,8,none⟩=false∧w.frozen? ⟨b,9,none⟩=false∧w.frozen? ⟨b,10,none⟩=false∧w.frozen? ⟨b,11,none⟩=false∧w.frozen? ⟨b,12,none⟩=false∧w.frozen? ⟨b,13,none⟩=false)∧b<w.heap.size
theorem Co.mono {w w1:World} {b:Nat} {v0 v1 v2 v3 v4 v5 v6 v7 v8 v9 v10 v11 v12 lB:Value} (k:Co w b v0 v1 v2 v3 v4 v5 v6 v7 v8 v9 v10 v11 v12 lB) (h:Gr w w1):Co w1 b v0 v1 v2 v3 v4 v5 v6 v7 v8 v9 v10 v11 v12 lB:=by
 obtain⟨⟨k0,k1,k2,k3,k4,k5,k6,k7,k8,k9,ES,Kb,UI,Oe⟩,⟨f0,f1,f2,f3,f4,f5,f6,f7,f8,f9,f10,f11,f12,f13⟩,hlt⟩:=k
 exact⟨⟨h.cell k0,h.cell k1,h.cell k2,h.cell k3,h.cell k4,h.cell k5,h.cell k6,h.cell k7,h.cell k8,h.cell k9,h.cell ES,h.cell Kb,h.cell UI,h.cell Oe⟩,⟨h.free (by exact hlt) f0,h.free (by exact hlt) f1,h.free (by exact hlt) f2,h.free (by exact hlt) f3,h.free (by exact hlt) f4,h.free (by exact hlt) f5,h.free (by exact hlt) f6,h.free (by exact hlt) f7,h.free (by exact hlt) f8,h.free (by exact hlt) f9,h.free (by exact hlt) f10,h.free (by exact hlt) f11,h.free (by exact hlt) f12,h.free (by exact hlt) f13⟩,Nat.lt_of_lt_of_le hlt h.size⟩
theorem Co.of {w:World} {b:Nat} {v0 v1 v2 v3 v4 v5 v6 v7 v8 v9 v10 v11 v12 lB:Value} {t:TypeId} (h:w.heap[b]? =some (.cells #[v0,v1,v2,v3,v4,v5,v6,v7,v8,v9,v10,v11,v12,lB] t (0,0))):Co w b v0 v1 v2 v3 v4 v5 v6 v7 v8 v9 v10 v11 v12 lB:=by
 have hlt:b<w.heap.size:=(Array.getElem?_eq_some_iff.1 h).1
 refine⟨⟨?_,?_,?_,?_,?_,?_,?_,?_,?_,?_,?_,?_,?_,?_⟩,⟨?_,?_,?_,?_,?_,?_,?_,?_,?_,?_,?_,?_,?_,?_⟩,hlt⟩<;>simp [World.cell?,World.frozen?,h]
theorem Co.at {w w1:World} {b:Nat} {v0 v1 v2 v3 v4 v5 v6 v7 v8 v9 v10 v11 v12 lB:Value} {t:TypeId} (g:Gr w w1) (h:w.heap[b]? =some (.cells #[v0,v1,v2,v3,v4,v5,v6,v7,v8,v9,v10,v11,v12,lB] t (0,0))):Co w1 b v0 v1 v2 v3 v4 v5 v6 v7 v8 v9 v10 v11 v12 lB:=(Co.of h).mono g
end
section
open Go.RowKit Go.Deep
theorem Gr.cells {w w':World} (g:Gr w w') {a:Addr} {n:Nat} {cs:List Value} (h:∀i,i<n→w.cell? (a.add i)=cs[i]?) (hl:cs.length=n):∀i,i<n→w'.cell? (a.add i)=cs[i]? :=by
 intro i hi
 have h1:=h i hi
 rw[List.getElem?_eq_getElem (by omega)]at h1 ⊢
 exact g.cell h1
structure dg (α : Type) where
 size:Nat
 is:World→List Value→α→Prop
 len:∀{w cs a},is w cs a→cs.length=size
 mono:∀{w w' cs a},is w cs a→Gr w w'→is w' cs a
 cU:α→Nat
def eX:dg Int where
 size:=1
 is:=fun _ cs n=>cs=[.int .i64 n]∧-9223372036854775808≤n∧n≤9223372036854775807
 len:=fun h=>by rw[h.1];rfl
 mono:=fun h _=>h
 cU:=fun _=>1
def uh:dg Bool where
 size:=1
 is:=fun _ cs b=>cs=[.bool b]
 len:=fun h=>by rw[h];rfl
 mono:=fun h _=>h
 cU:=fun _=>1
def tI:dg ByteArray where
 size:=1
 is:=fun _ cs s=>cs=[.string s]∧s.size≤maxLen
 len:=fun h=>by rw[h.1];rfl
 mono:=fun h _=>h
 cU:=fun s=>s.size+1
def dg.pair {α β:Type} (c:dg α) (d:dg β):dg (α×β) where
 size:=c.size+d.size
 is:=fun w cs x=>c.is w (cs.take c.size) x.1∧d.is w (cs.drop c.size) x.2
 len:=fun{w cs a} h=>by
  have h1:=c.len h.1
  have h2:=d.len h.2
  simp at h1 h2
  omega
 mono:=fun h g=>⟨c.mono h.1 g,d.mono h.2 g⟩
 cU:=fun x=>c.cU x.1+d.cU x.2
def gj {α:Type} (c:dg α):dg (List α) where
 size:=1
 is:=fun w cs l=>(cs=[.slice none 0 0]∧l=[])∨∃(b off:Nat) (sp:Option Nat) (cap:Nat),cs=[.slice (some ⟨b,off,sp⟩) l.length cap]∧l.length≤cap∧cap≤maxLen∧
  ∀i (h:i<l.length),sp=none∧∃cs',(∀j,j<c.size→w.cell? ⟨b,off+(i*c.size+j),none⟩=cs'[j]?)∧c.is w cs' l[i]
 len:=fun h=>by
  rcases h with⟨rfl,_⟩|⟨b,off,sp,cap,rfl,_⟩<;>rfl
 mono:=fun{w w' cs l} h g=>by
  rcases h with h|⟨b,off,sp,cap,h1,h2,h3,h4⟩
  ·exact .inl h
  ·refine .inr ⟨b,off,sp,cap,h1,h2,h3,fun i hi=>?_⟩
   obtain⟨e,cs',h5,h6⟩:=h4 i hi
   refine⟨e,cs',fun j hj=>?_,c.mono h6 g⟩
   have h7:=h5 j hj
   have hl:=c.len h6
   rw[List.getElem?_eq_getElem (by omega)]at h7 ⊢
   exact g.cell h7
 cU:=fun l=>(l.map c.cU).sum+1
def fD {α:Type} (F:Nat→Prop) (P:Program) (c:dg α) (t:TypeId):Prop:=
 ∀⦃H:Type⦄ ⦃enc:TypeId×Value→H⦄ ⦃w:World⦄ ⦃base:Nat⦄ ⦃spare:Nat→Bool⦄ ⦃held:Bool⦄ ⦃fuel:Nat⦄ ⦃cs:List Value⦄ ⦃x:DataW H×List MemPlace⦄,F fuel→
  DataW.trod enc P w base spare held fuel t cs=some x→∃a,c.is w cs a∧c.cU a≤Rows.uptoBulk x.1
abbrev Reads {α:Type} (P:Program) (c:dg α) (t:TypeId):Prop:=fD (fun _=>True) P c t
theorem Dq {H:Type} (l:List (DataW H)):Rows.uptoBulkAll l=(l.map Rows.uptoBulk).sum:=by
 induction l with
 |nil=>rfl
 |cons x r ih=>simp only[Rows.uptoBulkAll,List.map_cons,List.sum_cons,ih]
theorem Wb {α:Type} (f:α→Nat) (D:Nat→Nat):∀(l:List α) (o:Nat),(∀i (h:i<l.length),f l[i]≤D (o+i))→(l.map f).sum≤((List.range' o l.length).map D).sum
 |[],_,_=>by simp
 |x::r,o,h=>by
  simp only[List.length_cons,List.range'_succ,List.map_cons,List.sum_cons]
  have h0:=h 0 (by simp)
  have:=Wb f D r (o+1) (fun i hi=>by have:=h (i+1) (by simp;omega);simp only[List.getElem_cons_succ]at this;rw[show o+1+i=o+(i+1) by omega];exact this)
  simp at h0
  omega
theorem wf_i64 {n:Int} (h:(Lit.int .i64 n).wf=true):-9223372036854775808≤n∧n≤9223372036854775807:=by
 simpa [Lit.wf,IntKind.min,IntKind.max,IntKind.signed,IntKind.bits]using h
theorem Yi {H:Type} (d:DataW H):1≤Rows.uptoBulk d:=by
 cases d with
 |lit l=>cases l<;>simp [Rows.uptoBulk]
 |_=>simp [Rows.uptoBulk]
theorem lH {F:Nat→Prop} {P:Program} {t:TypeId} (ht:P.underlying t=some (.int .i64)):fD F P eX t:=by
 intro H enc w base spare held fuel cs x _ h
 obtain⟨n,rfl,_,hw⟩:=DataW.trod_int ht h
 exact⟨n,⟨rfl,wf_i64 hw⟩,Yi _⟩
theorem LV {F:Nat→Prop} {P:Program} {t:TypeId} (ht:P.underlying t=some .bool):fD F P uh t:=by
 intro H enc w base spare held fuel cs x _ h
 obtain⟨n,rfl,_⟩:=DataW.trod_bool ht h
 exact⟨n,rfl,Yi _⟩
theorem FY {F:Nat→Prop} {P:Program} {t:TypeId} (ht:P.underlying t=some .string):fD F P tI t:=by
 intro H enc w base spare held fuel cs x _ h
 obtain⟨n,rfl,hx,hw⟩:=DataW.trod_string ht h
 refine⟨n,⟨rfl,hw⟩,?_⟩
 subst hx
 simp only[Rows.uptoBulk,tI]
 first|(simp;done)|omega
theorem FK {F:Nat→Prop} {P:Program} {α:Type} {c:dg α} {t e:TypeId} (ht:P.underlying t=some (.slice e)) (hz:P.cellsOf e=c.size) (hp:0<c.size) (hr:fD (fun m=>F (m+1)) P c e):fD F P (gj c) t:=by
 intro H enc w base spare held fuel cs x hF h
 rcases DataW.trod_slice ht h with⟨rfl,rfl⟩|⟨a,len,cap,elems,rest,n,gW,rfl,hxe,hb,hl,hm,hlen,hel,h8,h9⟩
 ·exact⟨[],.inl ⟨rfl,rfl⟩,by simp [gj,Rows.uptoBulk]⟩
 ·obtain⟨D,hD⟩:∃D:Nat→DataW H,D=fun i=>(elems.getD i (.nil,[])).1:=⟨_,rfl⟩
  have key:∀i,i<len→∃(y:α) (cs':List Value),(∀j,j<c.size→w.cell? (a.add (i*c.size+j))=cs'[j]?)∧c.is w cs' y∧c.cU y≤Rows.uptoBulk (D i):=by
   intro i hi
   have hk:=hel i hi
   rw[List.getElem?_eq_getElem (by omega)]at hk
   obtain⟨cs',h1,h2⟩:=Option.bind_eq_some_iff.1 hk
   obtain⟨y,hy,J9⟩:=hr (by subst gW;exact hF) h2
   have J9:c.cU y≤Rows.uptoBulk (D i):=by
    rw[hD]
    simpa [List.getD,List.getElem?_eq_getElem (show i<elems.length by omega)]using J9
   obtain⟨_,h3,h4⟩:=World.cells?_some h1
   refine⟨y,cs',fun j hj=>?_,hy,J9⟩
   have:=h4 j (by rw[hz];exact hj)
   rw[hz]at this
   rw[←this,add_add]
  obtain⟨ys,hys⟩:∃ys:List α,ys.length=len∧∀i (h:i<ys.length),c.cU ys[i]≤Rows.uptoBulk (D i)∧∃cs',(∀j,j<c.size→w.cell? (a.add (i*c.size+j))=cs'[j]?)∧c.is w cs' ys[i]:=by
   clear hel hlen h hl hxe h8 h9
   induction len with
   |zero=>exact⟨[],rfl,fun i h=>by simp at h⟩
   |succ k ih=>
    obtain⟨ys,h1,h2⟩:=ih (fun i hi=>key i (by omega))
    obtain⟨y,cs',h3,h4,h4b⟩:=key k (by omega)
    refine⟨ys++[y],by simp [h1],fun i hi=>?_⟩
    by_cases hk:i<ys.length
    ·rw[List.getElem_append_left hk];exact h2 i hk
    ·have:i=k:=by simp at hi;omega
     subst this
     rw[List.getElem_append_right (by omega)]
     simp only[h1,Nat.sub_self,List.getElem_cons_zero]
     exact⟨h4b,cs',h3,h4⟩
  obtain⟨h1,h2⟩:=hys
  obtain⟨b,off,sp⟩:=a
  refine⟨ys,.inr ⟨b,off,sp,cap,by rw[h1],by omega,hm,fun i hi=>?_⟩,?_⟩
  ·have hs:sp=none:=by
    cases sp with
    |none=>rfl
    |some q=>
     exfalso
     obtain⟨_,cs',h3,h4⟩:=h2 0 (by omega)
     have h5:=h3 0 hp
     have hl:=c.len h4
     rw[List.getElem?_eq_getElem (by omega)]at h5
     simp only[Nat.zero_mul,Nat.zero_add,World.cell?,Addr.add]at h5
     split at h5<;>simp at h5
   obtain⟨_,cs',h3,h4⟩:=h2 i hi
   subst hs
   refine⟨rfl,cs',fun j hj=>?_,h4⟩
   have h6:=h3 j hj
   rw[←h6]
   congr 1
   simp only[Addr.add]
   split
   ·rename_i h7;simp only[h7,Nat.add_zero]
   ·rfl
  ·subst hxe
   simp only[gj,Rows.uptoBulk,Dq,List.map_map]
   have:=Wb c.cU (fun i=>Rows.uptoBulk (D i)) ys 0 (fun i hi=>by simpa using(h2 i hi).1)
   rw[h1,←List.range_eq_range']at this
   have e:List.map (Rows.uptoBulk∘fun x=>x.1) elems=List.map (fun i=>Rows.uptoBulk (D i)) (List.range len):=by
    rw[←hlen,hD]
    apply List.ext_getElem (by simp)
    intro i h3 h4
    simp at h3
    simp [List.getD,List.getElem?_eq_getElem h3]
   rw[e]
   omega
theorem FD {α:Type} (l:List α) (o n:Nat) (h:l.length=o+n):(l.drop o).take n=l.drop o:=List.take_of_length_le (by simp;omega)
theorem afb {α:Type} (l:List α) (h:l.length=2):∃x0 x1,l=[x0,x1]:=by
 match l,h with
 |[x0,x1],_=>exact⟨x0,x1,rfl⟩
theorem HT {F:Nat→Prop} {P:Program} {yD qz:Type} {t:TypeId} {f0 f1:Field} {c0:dg yD} {c1:dg qz} (ht:P.underlying t=some (.struct #[f0,f1])) (hz:P.cellsOf t=c0.size+c1.size) (o0:f0.offset=0) (o1:f1.offset=c0.size) (z0:P.cellsOf f0.type=c0.size) (z1:P.cellsOf f1.type=c1.size) (r0:fD (fun m=>F (m+1)) P c0 f0.type) (r1:fD (fun m=>F (m+1)) P c1 f1.type):fD F P (c0.pair c1) t:=by
 intro H enc w base spare held fuel cs x hF h
 obtain⟨xs,m,gW,cG,hlen,hxl,hf⟩:=DataW.trod_struct ht h
 rw[hz]at hlen
 have hxl:xs.length=2:=hxl
 have h0:=hf 0 f0 rfl
 rw[o0,z0,List.getElem?_eq_getElem (show 0<xs.length by omega)]at h0
 obtain⟨a0,k0,b0⟩:=r0 (by subst gW;exact hF) h0
 have h1:=hf 1 f1 rfl
 rw[o1,z1,List.getElem?_eq_getElem (show 1<xs.length by omega)]at h1
 obtain⟨a1,k1,b1⟩:=r1 (by subst gW;exact hF) h1
 rw[FD cs (c0.size) c1.size (by omega)]at k1
 refine⟨(a0,a1),?_,?_⟩
 ·exact⟨by simpa using k0,(by simpa [List.drop_drop,Nat.add_assoc]using k1)⟩
 ·subst cG
  simp only[Rows.uptoBulk,Dq,dg.pair]
  have hs:(List.map Rows.uptoBulk (xs.map (·.1))).sum=Rows.uptoBulk xs[0].1+(Rows.uptoBulk xs[1].1):=by
   obtain⟨x0,x1,rfl⟩:=afb xs hxl
   simp
  rw[hs]
  exact Nat.le_succ_of_le (Nat.add_le_add b0 b1)
theorem afc {α:Type} (l:List α) (h:l.length=3):∃x0 x1 x2,l=[x0,x1,x2]:=by
 match l,h with
 |[x0,x1,x2],_=>exact⟨x0,x1,x2,rfl⟩
theorem VT {F:Nat→Prop} {P:Program} {yD qz tY:Type} {t:TypeId} {f0 f1 f2:Field} {c0:dg yD} {c1:dg qz} {c2:dg tY} (ht:P.underlying t=some (.struct #[f0,f1,f2])) (hz:P.cellsOf t=c0.size+c1.size+c2.size) (o0:f0.offset=0) (o1:f1.offset=c0.size) (o2:f2.offset=c0.size+c1.size) (z0:P.cellsOf f0.type=c0.size) (z1:P.cellsOf f1.type=c1.size) (z2:P.cellsOf f2.type=c2.size) (r0:fD (fun m=>F (m+1)) P c0 f0.type) (r1:fD (fun m=>F (m+1)) P c1 f1.type) (r2:fD (fun m=>F (m+1)) P c2 f2.type):fD F P (c0.pair (c1.pair c2)) t:=by
 intro H enc w base spare held fuel cs x hF h
 obtain⟨xs,m,gW,cG,hlen,hxl,hf⟩:=DataW.trod_struct ht h
 rw[hz]at hlen
 have hxl:xs.length=3:=hxl
 have h0:=hf 0 f0 rfl
 rw[o0,z0,List.getElem?_eq_getElem (show 0<xs.length by omega)]at h0
 obtain⟨a0,k0,b0⟩:=r0 (by subst gW;exact hF) h0
 have h1:=hf 1 f1 rfl
 rw[o1,z1,List.getElem?_eq_getElem (show 1<xs.length by omega)]at h1
 obtain⟨a1,k1,b1⟩:=r1 (by subst gW;exact hF) h1
 have h2:=hf 2 f2 rfl
 rw[o2,z2,List.getElem?_eq_getElem (show 2<xs.length by omega)]at h2
 obtain⟨a2,k2,b2⟩:=r2 (by subst gW;exact hF) h2
 rw[FD cs (c0.size+c1.size) c2.size (by omega)]at k2
 refine⟨(a0,(a1,a2)),?_,?_⟩
 ·exact⟨by simpa using k0,⟨by simpa [List.drop_drop,Nat.add_assoc]using k1,(by simpa [List.drop_drop,Nat.add_assoc]using k2)⟩⟩
 ·subst cG
  simp only[Rows.uptoBulk,Dq,dg.pair]
  have hs:(List.map Rows.uptoBulk (xs.map (·.1))).sum=Rows.uptoBulk xs[0].1+(Rows.uptoBulk xs[1].1+(Rows.uptoBulk xs[2].1)):=by
   obtain⟨x0,x1,x2,rfl⟩:=afc xs hxl
   simp
  rw[hs]
  exact Nat.le_succ_of_le (Nat.add_le_add b0 (Nat.add_le_add b1 b2))
theorem afd {α:Type} (l:List α) (h:l.length=4):∃x0 x1 x2 x3,l=[x0,x1,x2,x3]:=by
 match l,h with
 |[x0,x1,x2,x3],_=>exact⟨x0,x1,x2,x3,rfl⟩
theorem aeS {F:Nat→Prop} {P:Program} {yD qz tY yE:Type} {t:TypeId} {f0 f1 f2 f3:Field} {c0:dg yD} {c1:dg qz} {c2:dg tY} {c3:dg yE} (ht:P.underlying t=some (.struct #[f0,f1,f2,f3])) (hz:P.cellsOf t=c0.size+c1.size+c2.size+c3.size) (o0:f0.offset=0) (o1:f1.offset=c0.size) (o2:f2.offset=c0.size+c1.size) (o3:f3.offset=c0.size+c1.size+c2.size) (z0:P.cellsOf f0.type=c0.size) (z1:P.cellsOf f1.type=c1.size) (z2:P.cellsOf f2.type=c2.size) (z3:P.cellsOf f3.type=c3.size) (r0:fD (fun m=>F (m+1)) P c0 f0.type) (r1:fD (fun m=>F (m+1)) P c1 f1.type) (r2:fD (fun m=>F (m+1)) P c2 f2.type) (r3:fD (fun m=>F (m+1)) P c3 f3.type):fD F P (c0.pair (c1.pair (c2.pair c3))) t:=by
 intro H enc w base spare held fuel cs x hF h
 obtain⟨xs,m,gW,cG,hlen,hxl,hf⟩:=DataW.trod_struct ht h
 rw[hz]at hlen
 have hxl:xs.length=4:=hxl
 have h0:=hf 0 f0 rfl
 rw[o0,z0,List.getElem?_eq_getElem (show 0<xs.length by omega)]at h0
 obtain⟨a0,k0,b0⟩:=r0 (by subst gW;exact hF) h0
 have h1:=hf 1 f1 rfl
 rw[o1,z1,List.getElem?_eq_getElem (show 1<xs.length by omega)]at h1
 obtain⟨a1,k1,b1⟩:=r1 (by subst gW;exact hF) h1
 have h2:=hf 2 f2 rfl
 rw[o2,z2,List.getElem?_eq_getElem (show 2<xs.length by omega)]at h2
 obtain⟨a2,k2,b2⟩:=r2 (by subst gW;exact hF) h2
 have h3:=hf 3 f3 rfl
 rw[o3,z3,List.getElem?_eq_getElem (show 3<xs.length by omega)]at h3
 obtain⟨a3,k3,b3⟩:=r3 (by subst gW;exact hF) h3
 rw[FD cs (c0.size+c1.size+c2.size) c3.size (by omega)]at k3
 refine⟨(a0,(a1,(a2,a3))),?_,?_⟩
 ·exact⟨by simpa using k0,⟨by simpa [List.drop_drop,Nat.add_assoc]using k1,⟨by simpa [List.drop_drop,Nat.add_assoc]using k2,(by simpa [List.drop_drop,Nat.add_assoc]using k3)⟩⟩⟩
 ·subst cG
  simp only[Rows.uptoBulk,Dq,dg.pair]
  have hs:(List.map Rows.uptoBulk (xs.map (·.1))).sum=Rows.uptoBulk xs[0].1+(Rows.uptoBulk xs[1].1+(Rows.uptoBulk xs[2].1+(Rows.uptoBulk xs[3].1))):=by
   obtain⟨x0,x1,x2,x3,rfl⟩:=afd xs hxl
   simp
  rw[hs]
  exact Nat.le_succ_of_le (Nat.add_le_add b0 (Nat.add_le_add b1 (Nat.add_le_add b2 b3)))
theorem afe {α:Type} (l:List α) (h:l.length=6):∃x0 x1 x2 x3 x4 x5,l=[x0,x1,x2,x3,x4,x5]:=by
 match l,h with
 |[x0,x1,x2,x3,x4,x5],_=>exact⟨x0,x1,x2,x3,x4,x5,rfl⟩
theorem aeT {F:Nat→Prop} {P:Program} {yD qz tY yE zT KB:Type} {t:TypeId} {f0 f1 f2 f3 f4 f5:Field} {c0:dg yD} {c1:dg qz} {c2:dg tY} {c3:dg yE} {c4:dg zT} {c5:dg KB} (ht:P.underlying t=some (.struct #[f0,f1,f2,f3,f4,f5])) (hz:P.cellsOf t=c0.size+c1.size+c2.size+c3.size+c4.size+c5.size) (o0:f0.offset=0) (o1:f1.offset=c0.size) (o2:f2.offset=c0.size+c1.size) (o3:f3.offset=c0.size+c1.size+c2.size) (o4:f4.offset=c0.size+c1.size+c2.size+c3.size) (o5:f5.offset=c0.size+c1.size+c2.size+c3.size+c4.size) (z0:P.cellsOf f0.type=c0.size) (z1:P.cellsOf f1.type=c1.size) (z2:P.cellsOf f2.type=c2.size) (z3:P.cellsOf f3.type=c3.size) (z4:P.cellsOf f4.type=c4.size) (z5:P.cellsOf f5.type=c5.size) (r0:fD (fun m=>F (m+1)) P c0 f0.type) (r1:fD (fun m=>F (m+1)) P c1 f1.type) (r2:fD (fun m=>F (m+1)) P c2 f2.type) (r3:fD (fun m=>F (m+1)) P c3 f3.type) (r4:fD (fun m=>F (m+1)) P c4 f4.type) (r5:fD (fun m=>F (m+1)) P c5 f5.type):fD F P (c0.pair (c1.pair (c2.pair (c3.pair (c4.pair c5))))) t:=by
 intro H enc w base spare held fuel cs x hF h
 obtain⟨xs,m,gW,cG,hlen,hxl,hf⟩:=DataW.trod_struct ht h
 rw[hz]at hlen
 have hxl:xs.length=6:=hxl
 have h0:=hf 0 f0 rfl
 rw[o0,z0,List.getElem?_eq_getElem (show 0<xs.length by omega)]at h0
 obtain⟨a0,k0,b0⟩:=r0 (by subst gW;exact hF) h0
 have h1:=hf 1 f1 rfl
 rw[o1,z1,List.getElem?_eq_getElem (show 1<xs.length by omega)]at h1
 obtain⟨a1,k1,b1⟩:=r1 (by subst gW;exact hF) h1
 have h2:=hf 2 f2 rfl
 rw[o2,z2,List.getElem?_eq_getElem (show 2<xs.length by omega)]at h2
 obtain⟨a2,k2,b2⟩:=r2 (by subst gW;exact hF) h2
 have h3:=hf 3 f3 rfl
 rw[o3,z3,List.getElem?_eq_getElem (show 3<xs.length by omega)]at h3
 obtain⟨a3,k3,b3⟩:=r3 (by subst gW;exact hF) h3
 have h4:=hf 4 f4 rfl
 rw[o4,z4,List.getElem?_eq_getElem (show 4<xs.length by omega)]at h4
 obtain⟨a4,k4,b4⟩:=r4 (by subst gW;exact hF) h4
 have h5:=hf 5 f5 rfl
 rw[o5,z5,List.getElem?_eq_getElem (show 5<xs.length by omega)]at h5
 obtain⟨a5,k5,b5⟩:=r5 (by subst gW;exact hF) h5
 rw[FD cs (c0.size+c1.size+c2.size+c3.size+c4.size) c5.size (by omega)]at k5
 refine⟨(a0,(a1,(a2,(a3,(a4,a5))))),?_,?_⟩
 ·exact⟨by simpa using k0,⟨by simpa [List.drop_drop,Nat.add_assoc]using k1,⟨by simpa [List.drop_drop,Nat.add_assoc]using k2,⟨by simpa [List.drop_drop,Nat.add_assoc]using k3,⟨by simpa [List.drop_drop,Nat.add_assoc]using k4,(by simpa [List.drop_drop,Nat.add_assoc]using k5)⟩⟩⟩⟩⟩
 ·subst cG
  simp only[Rows.uptoBulk,Dq,dg.pair]
  have hs:(List.map Rows.uptoBulk (xs.map (·.1))).sum=Rows.uptoBulk xs[0].1+(Rows.uptoBulk xs[1].1+(Rows.uptoBulk xs[2].1+(Rows.uptoBulk xs[3].1+(Rows.uptoBulk xs[4].1+(Rows.uptoBulk xs[5].1))))):=by
   obtain⟨x0,x1,x2,x3,x4,x5,rfl⟩:=afe xs hxl
   simp
  rw[hs]
  exact Nat.le_succ_of_le (Nat.add_le_add b0 (Nat.add_le_add b1 (Nat.add_le_add b2 (Nat.add_le_add b3 (Nat.add_le_add b4 b5)))))
theorem aff {α:Type} (l:List α) (h:l.length=7):∃x0 x1 x2 x3 x4 x5 x6,l=[x0,x1,x2,x3,x4,x5,x6]:=by
 match l,h with
 |[x0,x1,x2,x3,x4,x5,x6],_=>exact⟨x0,x1,x2,x3,x4,x5,x6,rfl⟩
theorem aeU {F:Nat→Prop} {P:Program} {yD qz tY yE zT KB U5:Type} {t:TypeId} {f0 f1 f2 f3 f4 f5 f6:Field} {c0:dg yD} {c1:dg qz} {c2:dg tY} {c3:dg yE} {c4:dg zT} {c5:dg KB} {c6:dg U5} (ht:P.underlying t=some (.struct #[f0,f1,f2,f3,f4,f5,f6])) (hz:P.cellsOf t=c0.size+c1.size+c2.size+c3.size+c4.size+c5.size+c6.size) (o0:f0.offset=0) (o1:f1.offset=c0.size) (o2:f2.offset=c0.size+c1.size) (o3:f3.offset=c0.size+c1.size+c2.size) (o4:f4.offset=c0.size+c1.size+c2.size+c3.size) (o5:f5.offset=c0.size+c1.size+c2.size+c3.size+c4.size) (o6:f6.offset=c0.size+c1.size+c2.size+c3.size+c4.size+c5.size) (z0:P.cellsOf f0.type=c0.size) (z1:P.cellsOf f1.type=c1.size) (z2:P.cellsOf f2.type=c2.size) (z3:P.cellsOf f3.type=c3.size) (z4:P.cellsOf f4.type=c4.size) (z5:P.cellsOf f5.type=c5.size) (z6:P.cellsOf f6.type=c6.size) (r0:fD (fun m=>F (m+1)) P c0 f0.type) (r1:fD (fun m=>F (m+1)) P c1 f1.type) (r2:fD (fun m=>F (m+1)) P c2 f2.type) (r3:fD (fun m=>F (m+1)) P c3 f3.type) (r4:fD (fun m=>F (m+1)) P c4 f4.type) (r5:fD (fun m=>F (m+1)) P c5 f5.type) (r6:fD (fun m=>F (m+1)) P c6 f6.type):fD F P (c0.pair (c1.pair (c2.pair (c3.pair (c4.pair (c5.pair c6)))))) t:=by
 intro H enc w base spare held fuel cs x hF h
 obtain⟨xs,m,gW,cG,hlen,hxl,hf⟩:=DataW.trod_struct ht h
 rw[hz]at hlen
 have hxl:xs.length=7:=hxl
 have h0:=hf 0 f0 rfl
 rw[o0,z0,List.getElem?_eq_getElem (show 0<xs.length by omega)]at h0
 obtain⟨a0,k0,b0⟩:=r0 (by subst gW;exact hF) h0
 have h1:=hf 1 f1 rfl
 rw[o1,z1,List.getElem?_eq_getElem (show 1<xs.length by omega)]at h1
 obtain⟨a1,k1,b1⟩:=r1 (by subst gW;exact hF) h1
 have h2:=hf 2 f2 rfl
 rw[o2,z2,List.getElem?_eq_getElem (show 2<xs.length by omega)]at h2
 obtain⟨a2,k2,b2⟩:=r2 (by subst gW;exact hF) h2
 have h3:=hf 3 f3 rfl
 rw[o3,z3,List.getElem?_eq_getElem (show 3<xs.length by omega)]at h3
 obtain⟨a3,k3,b3⟩:=r3 (by subst gW;exact hF) h3
 have h4:=hf 4 f4 rfl
 rw[o4,z4,List.getElem?_eq_getElem (show 4<xs.length by omega)]at h4
 obtain⟨a4,k4,b4⟩:=r4 (by subst gW;exact hF) h4
 have h5:=hf 5 f5 rfl
 rw[o5,z5,List.getElem?_eq_getElem (show 5<xs.length by omega)]at h5
 obtain⟨a5,k5,b5⟩:=r5 (by subst gW;exact hF) h5
 have h6:=hf 6 f6 rfl
 rw[o6,z6,List.getElem?_eq_getElem (show 6<xs.length by omega)]at h6
 obtain⟨a6,k6,b6⟩:=r6 (by subst gW;exact hF) h6
 rw[FD cs (c0.size+c1.size+c2.size+c3.size+c4.size+c5.size) c6.size (by omega)]at k6
 refine⟨(a0,(a1,(a2,(a3,(a4,(a5,a6)))))),?_,?_⟩
 ·exact⟨by simpa using k0,⟨by simpa [List.drop_drop,Nat.add_assoc]using k1,⟨by simpa [List.drop_drop,Nat.add_assoc]using k2,⟨by simpa [List.drop_drop,Nat.add_assoc]using k3,⟨by simpa [List.drop_drop,Nat.add_assoc]using k4,⟨by simpa [List.drop_drop,Nat.add_assoc]using k5,(by simpa [List.drop_drop,Nat.add_assoc]using k6)⟩⟩⟩⟩⟩⟩
 ·subst cG
  simp only[Rows.uptoBulk,Dq,dg.pair]
  have hs:(List.map Rows.uptoBulk (xs.map (·.1))).sum=Rows.uptoBulk xs[0].1+(Rows.uptoBulk xs[1].1+(Rows.uptoBulk xs[2].1+(Rows.uptoBulk xs[3].1+(Rows.uptoBulk xs[4].1+(Rows.uptoBulk xs[5].1+(Rows.uptoBulk xs[6].1)))))):=by
   obtain⟨x0,x1,x2,x3,x4,x5,x6,rfl⟩:=aff xs hxl
   simp
  rw[hs]
  exact Nat.le_succ_of_le (Nat.add_le_add b0 (Nat.add_le_add b1 (Nat.add_le_add b2 (Nat.add_le_add b3 (Nat.add_le_add b4 (Nat.add_le_add b5 b6))))))
theorem aeO {α:Type} (l:List α) (h:l.length=10):∃x0 x1 x2 x3 x4 x5 x6 x7 x8 x9,l=[x0,x1,x2,x3,x4,x5,x6,x7,x8,x9]:=by
 match l,h with
 |[x0,x1,x2,x3,x4,x5,x6,x7,x8,x9],_=>exact⟨x0,x1,x2,x3,x4,x5,x6,x7,x8,x9,rfl⟩
theorem aet {F:Nat→Prop} {P:Program} {yD qz tY yE zT KB U5 α7 α8 α9:Type} {t:TypeId} {f0 f1 f2 f3 f4 f5 f6 f7 f8 f9:Field} {c0:dg yD} {c1:dg qz} {c2:dg tY} {c3:dg yE} {c4:dg zT} {c5:dg KB} {c6:dg U5} {c7:dg α7} {c8:dg α8} {c9:dg α9} (ht:P.underlying t=some (.struct #[f0,f1,f2,f3,f4,f5,f6,f7,f8,f9])) (hz:P.cellsOf t=c0.size+c1.size+c2.size+c3.size+c4.size+c5.size+c6.size+c7.size+c8.size+c9.size) (o0:f0.offset=0) (o1:f1.offset=c0.size) (o2:f2.offset=c0.size+c1.size) (o3:f3.offset=c0.size+c1.size+c2.size) (o4:f4.offset=c0.size+c1.size+c2.size+c3.size) (o5:f5.offset=c0.size+c1.size+c2.size+c3.size+c4.size) (o6:f6.offset=c0.size+c1.size+c2.size+c3.size+c4.size+c5.size) (o7:f7.offset=c0.size+c1.size+c2.size+c3.size+c4.size+c5.size+c6.size) (o8:f8.offset=c0.size+c1.size+c2.size+c3.size+c4.size+c5.size+c6.size+c7.size) (o9:f9.offset=c0.size+c1.size+c2.size+c3.size+c4.size+c5.size+c6.size+c7.size+c8.size) (z0:P.cellsOf f0.type=c0.size) (z1:P.cellsOf f1.type=c1.size) (z2:P.cellsOf f2.type=c2.size) (z3:P.cellsOf f3.type=c3.size) (z4:P.cellsOf f4.type=c4.size) (z5:P.cellsOf f5.type=c5.size) (z6:P.cellsOf f6.type=c6.size) (z7:P.cellsOf f7.type=c7.size) (z8:P.cellsOf f8.type=c8.size) (z9:P.cellsOf f9.type=c9.size) (r0:fD (fun m=>F (m+1)) P c0 f0.type) (r1:fD (fun m=>F (m+1)) P c1 f1.type) (r2:fD (fun m=>F (m+1)) P c2 f2.type) (r3:fD (fun m=>F (m+1)) P c3 f3.type) (r4:fD (fun m=>F (m+1)) P c4 f4.type) (r5:fD (fun m=>F (m+1)) P c5 f5.type) (r6:fD (fun m=>F (m+1)) P c6 f6.type) (r7:fD (fun m=>F (m+1)) P c7 f7.type) (r8:fD (fun m=>F (m+1)) P c8 f8.type) (r9:fD (fun m=>F (m+1)) P c9 f9.type):fD F P (c0.pair (c1.pair (c2.pair (c3.pair (c4.pair (c5.pair (c6.pair (c7.pair (c8.pair c9))))))))) t:=by
 intro H enc w base spare held fuel cs x hF h
 obtain⟨xs,m,gW,cG,hlen,hxl,hf⟩:=DataW.trod_struct ht h
 rw[hz]at hlen
 have hxl:xs.length=10:=hxl
 have h0:=hf 0 f0 rfl
 rw[o0,z0,List.getElem?_eq_getElem (show 0<xs.length by omega)]at h0
 obtain⟨a0,k0,b0⟩:=r0 (by subst gW;exact hF) h0
 have h1:=hf 1 f1 rfl
 rw[o1,z1,List.getElem?_eq_getElem (show 1<xs.length by omega)]at h1
 obtain⟨a1,k1,b1⟩:=r1 (by subst gW;exact hF) h1
 have h2:=hf 2 f2 rfl
 rw[o2,z2,List.getElem?_eq_getElem (show 2<xs.length by omega)]at h2
 obtain⟨a2,k2,b2⟩:=r2 (by subst gW;exact hF) h2
 have h3:=hf 3 f3 rfl
 rw[o3,z3,List.getElem?_eq_getElem (show 3<xs.length by omega)]at h3
 obtain⟨a3,k3,b3⟩:=r3 (by subst gW;exact hF) h3
 have h4:=hf 4 f4 rfl
 rw[o4,z4,List.getElem?_eq_getElem (show 4<xs.length by omega)]at h4
 obtain⟨a4,k4,b4⟩:=r4 (by subst gW;exact hF) h4
 have h5:=hf 5 f5 rfl
 rw[o5,z5,List.getElem?_eq_getElem (show 5<xs.length by omega)]at h5
 obtain⟨a5,k5,b5⟩:=r5 (by subst gW;exact hF) h5
 have h6:=hf 6 f6 rfl
 rw[o6,z6,List.getElem?_eq_getElem (show 6<xs.length by omega)]at h6
 obtain⟨a6,k6,b6⟩:=r6 (by subst gW;exact hF) h6
 have h7:=hf 7 f7 rfl
 rw[o7,z7,List.getElem?_eq_getElem (show 7<xs.length by omega)]at h7
 obtain⟨a7,k7,b7⟩:=r7 (by subst gW;exact hF) h7
 have h8:=hf 8 f8 rfl
 rw[o8,z8,List.getElem?_eq_getElem (show 8<xs.length by omega)]at h8
 obtain⟨a8,k8,b8⟩:=r8 (by subst gW;exact hF) h8
 have h9:=hf 9 f9 rfl
 rw[o9,z9,List.getElem?_eq_getElem (show 9<xs.length by omega)]at h9
 obtain⟨a9,k9,b9⟩:=r9 (by subst gW;exact hF) h9
 rw[FD cs (c0.size+c1.size+c2.size+c3.size+c4.size+c5.size+c6.size+c7.size+c8.size) c9.size (by omega)]at k9
 refine⟨(a0,(a1,(a2,(a3,(a4,(a5,(a6,(a7,(a8,a9))))))))),?_,?_⟩
 ·exact⟨by simpa using k0,⟨by simpa [List.drop_drop,Nat.add_assoc]using k1,⟨by simpa [List.drop_drop,Nat.add_assoc]using k2,⟨by simpa [List.drop_drop,Nat.add_assoc]using k3,⟨by simpa [List.drop_drop,Nat.add_assoc]using k4,⟨by simpa [List.drop_drop,Nat.add_assoc]using k5,⟨by simpa [List.drop_drop,Nat.add_assoc]using k6,⟨by simpa [List.drop_drop,Nat.add_assoc]using k7,⟨by simpa [List.drop_drop,Nat.add_assoc]using k8,(by simpa [List.drop_drop,Nat.add_assoc]using k9)⟩⟩⟩⟩⟩⟩⟩⟩⟩
 ·subst cG
  simp only[Rows.uptoBulk,Dq,dg.pair]
  have hs:(List.map Rows.uptoBulk (xs.map (·.1))).sum=Rows.uptoBulk xs[0].1+(Rows.uptoBulk xs[1].1+(Rows.uptoBulk xs[2].1+(Rows.uptoBulk xs[3].1+(Rows.uptoBulk xs[4].1+(Rows.uptoBulk xs[5].1+(Rows.uptoBulk xs[6].1+(Rows.uptoBulk xs[7].1+(Rows.uptoBulk xs[8].1+(Rows.uptoBulk xs[9].1))))))))):=by
   obtain⟨x0,x1,x2,x3,x4,x5,x6,x7,x8,x9,rfl⟩:=aeO xs hxl
   simp
  rw[hs]
  exact Nat.le_succ_of_le (Nat.add_le_add b0 (Nat.add_le_add b1 (Nat.add_le_add b2 (Nat.add_le_add b3 (Nat.add_le_add b4 (Nat.add_le_add b5 (Nat.add_le_add b6 (Nat.add_le_add b7 (Nat.add_le_add b8 b9)))))))))
end
section
open Go.RowKit Go.Deep
theorem fD.imp {F:Nat→Prop} {P:Program} {α β:Type} {c:dg α} {d:dg β} {t:TypeId} (h:fD F P c t) (k:∀w cs a,c.is w cs a→∃b,d.is w cs b∧d.cU b≤c.cU a):fD F P d t:=by
 intro H enc w base spare held fuel cs x hF h1
 obtain⟨a,ha,hb⟩:=h hF h1
 obtain⟨b,h2,h3⟩:=k _ _ _ ha
 exact⟨b,h2,Nat.le_trans h3 hb⟩
theorem ji {α:Type} {cs a b:List α} {n:Nat} (h1:cs.take n=a) (h2:cs.drop n=b):cs=a++b:=by rw[←h1,←h2,List.take_append_drop]
def wV:dg lI where
 size:=2
 is:=fun w cs x=>cs=[.int .i64 x.time,.int .i64 x.way]∧aM x.time∧aM x.way
 len:=fun h=>by obtain⟨rfl,_⟩:=h;rfl
 mono:=fun h _=>h
 cU:=fun x=>eX.cU x.time+(eX.cU x.way)
theorem afW:Reads Tryz.prog wV 163:=
 (HT (F:=fun _=>True) Tryz.underlying163 (c0:=eX) (c1:=eX) (by kernel_rfl) rfl rfl (by kernel_rfl) (by kernel_rfl) (lH Tryz.underlying3) (lH Tryz.underlying3)).imp fun w cs a h=>by
  obtain⟨a0,a1⟩:=a
  obtain⟨h0,h1⟩:=h
  obtain⟨e0,b0⟩:=h0
  obtain⟨e1,b1⟩:=h1
  have mN:=ji e0 e1
  exact⟨⟨a0,a1⟩,⟨by rw[mN];rfl,b0,b1⟩,Nat.le_refl _⟩
theorem afl:Reads Tryz.prog (gj wV) 28:=FK Tryz.underlying28 (c:=wV) (by kernel_rfl) (by decide) afW
def RW:dg pO where
 size:=2
 is:=fun w cs x=>∃v0:Value,cs=[.int .i64 x.kind,v0]∧aM x.kind∧(gj wV).is w [v0] x.points
 len:=fun h=>by obtain⟨v0,rfl,_⟩:=h;rfl
 mono:=fun{w w' cs x} h g=>by obtain⟨v0,e,h0,h1⟩:=h;exact⟨v0,e,h0,((gj wV)).mono h1 g⟩
 cU:=fun x=>eX.cU x.kind+((gj wV).cU x.points)
theorem afT:Reads Tryz.prog RW 30:=
 (HT (F:=fun _=>True) Tryz.underlying30 (c0:=eX) (c1:=(gj wV)) (by kernel_rfl) rfl rfl (by kernel_rfl) (by kernel_rfl) (lH Tryz.underlying3) afl).imp fun w cs a h=>by
  obtain⟨a0,a1⟩:=a
  obtain⟨h0,h1⟩:=h
  obtain⟨e0,b0⟩:=h0
  obtain⟨s1,e1⟩:=List.length_eq_one_iff.1 (((gj wV)).len h1);rw[e1]at h1
  have mN:=ji e0 e1
  exact⟨⟨a0,a1⟩,⟨s1,by rw[mN];rfl,b0,h1⟩,Nat.le_refl _⟩
def Ax:dg oN where
 size:=3
 is:=fun w cs x=>cs=[.int .i64 x.low,.int .i64 x.high,.string x.name]∧aM x.low∧aM x.high∧x.name.size≤maxLen
 len:=fun h=>by obtain⟨rfl,_⟩:=h;rfl
 mono:=fun h _=>h
 cU:=fun x=>eX.cU x.low+(eX.cU x.high+(tI.cU x.name))
theorem afX:Reads Tryz.prog Ax 71:=
 (VT (F:=fun _=>True) Tryz.underlying71 (c0:=eX) (c1:=eX) (c2:=tI) (by kernel_rfl) rfl rfl rfl (by kernel_rfl) (by kernel_rfl) (by kernel_rfl) (lH Tryz.underlying3) (lH Tryz.underlying3) (FY Tryz.underlying9)).imp fun w cs a h=>by
  obtain⟨a0,a1,a2⟩:=a
  obtain⟨h0,h1,h2⟩:=h
  obtain⟨e0,b0⟩:=h0
  obtain⟨e1,b1⟩:=h1
  obtain⟨e2,b2⟩:=h2
  have xC:=ji e1 e2
  have mN:=ji e0 xC
  exact⟨⟨a0,a1,a2⟩,⟨by rw[mN];rfl,b0,b1,b2⟩,Nat.le_refl _⟩
theorem afm:Reads Tryz.prog (gj Ax) 34:=FK Tryz.underlying34 (c:=Ax) (by kernel_rfl) (by decide) afX
def Aw:dg cI where
 size:=7
 is:=fun w cs x=>∃v0:Value,cs=[.string x.name,.int .i64 x.group,.int .i64 x.jC,.int .i64 x.iZ,.int .i64 x.default,.bool x.snap,v0]∧x.name.size≤maxLen∧aM x.group∧aM x.jC∧aM x.iZ∧aM x.default∧(gj Ax).is w [v0] x.ranges
 len:=fun h=>by obtain⟨v0,rfl,_⟩:=h;rfl
 mono:=fun{w w' cs x} h g=>by obtain⟨v0,e,h0,h1,h2,h3,h4,h5⟩:=h;exact⟨v0,e,h0,h1,h2,h3,h4,((gj Ax)).mono h5 g⟩
 cU:=fun x=>tI.cU x.name+(eX.cU x.group+(eX.cU x.jC+(eX.cU x.iZ+(eX.cU x.default+(uh.cU x.snap+((gj Ax).cU x.ranges))))))
theorem afV:Reads Tryz.prog Aw 36:=
 (aeU (F:=fun _=>True) Tryz.underlying36 (c0:=tI) (c1:=eX) (c2:=eX) (c3:=eX) (c4:=eX) (c5:=uh) (c6:=(gj Ax)) (by kernel_rfl) rfl rfl rfl rfl rfl rfl rfl (by kernel_rfl) (by kernel_rfl) (by kernel_rfl) (by kernel_rfl) (by kernel_rfl) (by kernel_rfl) (by kernel_rfl) (FY Tryz.underlying9) (lH Tryz.underlying3) (lH Tryz.underlying3) (lH Tryz.underlying3) (lH Tryz.underlying3) (LV Tryz.underlying4) afm).imp fun w cs a h=>by
  obtain⟨a0,a1,a2,a3,a4,a5,a6⟩:=a
  obtain⟨h0,h1,h2,h3,h4,h5,h6⟩:=h
  obtain⟨e0,b0⟩:=h0
  obtain⟨e1,b1⟩:=h1
  obtain⟨e2,b2⟩:=h2
  obtain⟨e3,b3⟩:=h3
  obtain⟨e4,b4⟩:=h4
  have e5:=h5;simp only[uh]at e5
  obtain⟨s6,e6⟩:=List.length_eq_one_iff.1 (((gj Ax)).len h6);rw[e6]at h6
  have S6:=ji e5 e6
  have Jf:=ji e4 S6
  have Je:=ji e3 Jf
  have D6:=ji e2 Je
  have xC:=ji e1 D6
  have mN:=ji e0 xC
  exact⟨⟨a0,a1,a2,a3,a4,a5,a6⟩,⟨s6,by rw[mN];rfl,b0,b1,b2,b3,b4,h6⟩,Nat.le_refl _⟩
theorem afk:Reads Tryz.prog (gj Aw) 92:=FK Tryz.underlying92 (c:=Aw) (by kernel_rfl) (by decide) afV
def Ae:dg cm where
 size:=3
 is:=fun w cs x=>∃v0:Value,cs=[.string x.name,.int .i64 x.size,v0]∧x.name.size≤maxLen∧aM x.size∧(gj Aw).is w [v0] x.params
 len:=fun h=>by obtain⟨v0,rfl,_⟩:=h;rfl
 mono:=fun{w w' cs x} h g=>by obtain⟨v0,e,h0,h1,h2⟩:=h;exact⟨v0,e,h0,h1,((gj Aw)).mono h2 g⟩
 cU:=fun x=>tI.cU x.name+(eX.cU x.size+((gj Aw).cU x.params))
theorem aeR:Reads Tryz.prog Ae 94:=
 (VT (F:=fun _=>True) Tryz.underlying94 (c0:=tI) (c1:=eX) (c2:=(gj Aw)) (by kernel_rfl) rfl rfl rfl (by kernel_rfl) (by kernel_rfl) (by kernel_rfl) (FY Tryz.underlying9) (lH Tryz.underlying3) afk).imp fun w cs a h=>by
  obtain⟨a0,a1,a2⟩:=a
  obtain⟨h0,h1,h2⟩:=h
  obtain⟨e0,b0⟩:=h0
  obtain⟨e1,b1⟩:=h1
  obtain⟨s2,e2⟩:=List.length_eq_one_iff.1 (((gj Aw)).len h2);rw[e2]at h2
  have xC:=ji e1 e2
  have mN:=ji e0 xC
  exact⟨⟨a0,a1,a2⟩,⟨s2,by rw[mN];rfl,b0,b1,h2⟩,Nat.le_refl _⟩
theorem aes:Reads Tryz.prog (gj Ae) 22:=FK Tryz.underlying22 (c:=Ae) (by kernel_rfl) (by decide) aeR
def AJ:dg ey where
 size:=4
 is:=fun w cs x=>cs=[.int .i64 x.number,.string x.profile,.int .i64 x.univ,.int .i64 x.address]∧aM x.number∧x.profile.size≤maxLen∧aM x.univ∧aM x.address
 len:=fun h=>by obtain⟨rfl,_⟩:=h;rfl
 mono:=fun h _=>h
 cU:=fun x=>eX.cU x.number+(tI.cU x.profile+(eX.cU x.univ+(eX.cU x.address)))
theorem ag2:Reads Tryz.prog AJ 90:=
 (aeS (F:=fun _=>True) Tryz.underlying90 (c0:=eX) (c1:=tI) (c2:=eX) (c3:=eX) (by kernel_rfl) rfl rfl rfl rfl (by kernel_rfl) (by kernel_rfl) (by kernel_rfl) (by kernel_rfl) (lH Tryz.underlying3) (FY Tryz.underlying9) (lH Tryz.underlying3) (lH Tryz.underlying3)).imp fun w cs a h=>by
  obtain⟨a0,a1,a2,a3⟩:=a
  obtain⟨h0,h1,h2,h3⟩:=h
  obtain⟨e0,b0⟩:=h0
  obtain⟨e1,b1⟩:=h1
  obtain⟨e2,b2⟩:=h2
  obtain⟨e3,b3⟩:=h3
  have D6:=ji e2 e3
  have xC:=ji e1 D6
  have mN:=ji e0 xC
  exact⟨⟨a0,a1,a2,a3⟩,⟨by rw[mN];rfl,b0,b1,b2,b3⟩,Nat.le_refl _⟩
theorem afY:Reads Tryz.prog (gj AJ) 23:=FK Tryz.underlying23 (c:=AJ) (by kernel_rfl) (by decide) ag2
def ab4:dg dO where
 size:=2
 is:=fun w cs x=>∃v0 v1:Value,cs=[v0,v1]∧(gj Ae).is w [v0] x.aS∧(gj AJ).is w [v1] x.units
 len:=fun h=>by obtain⟨v0,v1,rfl,_⟩:=h;rfl
 mono:=fun{w w' cs x} h g=>by obtain⟨v0,v1,e,h0,h1⟩:=h;exact⟨v0,v1,e,((gj Ae)).mono h0 g,((gj AJ)).mono h1 g⟩
 cU:=fun x=>(gj Ae).cU x.aS+((gj AJ).cU x.units)
theorem aip:Reads Tryz.prog ab4 25:=
 (HT (F:=fun _=>True) Tryz.underlying25 (c0:=(gj Ae)) (c1:=(gj AJ)) (by kernel_rfl) rfl rfl (by kernel_rfl) (by kernel_rfl) aes afY).imp fun w cs a h=>by
  obtain⟨a0,a1⟩:=a
  obtain⟨h0,h1⟩:=h
  obtain⟨s0,e0⟩:=List.length_eq_one_iff.1 (((gj Ae)).len h0);rw[e0]at h0
  obtain⟨s1,e1⟩:=List.length_eq_one_iff.1 (((gj AJ)).len h1);rw[e1]at h1
  have mN:=ji e0 e1
  exact⟨⟨a0,a1⟩,⟨s0,s1,by rw[mN];rfl,h0,h1⟩,Nat.le_refl _⟩
def NO:dg aB where
 size:=2
 is:=fun w cs x=>cs=[.int .i64 x.unit,.string x.param]∧aM x.unit∧x.param.size≤maxLen
 len:=fun h=>by obtain⟨rfl,_⟩:=h;rfl
 mono:=fun h _=>h
 cU:=fun x=>eX.cU x.unit+(tI.cU x.param)
theorem XV:Reads Tryz.prog NO 27:=
 (HT (F:=fun _=>True) Tryz.underlying27 (c0:=eX) (c1:=tI) (by kernel_rfl) rfl rfl (by kernel_rfl) (by kernel_rfl) (lH Tryz.underlying3) (FY Tryz.underlying9)).imp fun w cs a h=>by
  obtain⟨a0,a1⟩:=a
  obtain⟨h0,h1⟩:=h
  obtain⟨e0,b0⟩:=h0
  obtain⟨e1,b1⟩:=h1
  have mN:=ji e0 e1
  exact⟨⟨a0,a1⟩,⟨by rw[mN];rfl,b0,b1⟩,Nat.le_refl _⟩
def Sd:dg mu where
 size:=2
 is:=fun w cs x=>cs=[.int .i64 x.level,.int .i64 x.gh]∧aM x.level∧aM x.gh
 len:=fun h=>by obtain⟨rfl,_⟩:=h;rfl
 mono:=fun h _=>h
 cU:=fun x=>eX.cU x.level+(eX.cU x.gh)
theorem afZ:Reads Tryz.prog Sd 41:=
 (HT (F:=fun _=>True) Tryz.underlying41 (c0:=eX) (c1:=eX) (by kernel_rfl) rfl rfl (by kernel_rfl) (by kernel_rfl) (lH Tryz.underlying3) (lH Tryz.underlying3)).imp fun w cs a h=>by
  obtain⟨a0,a1⟩:=a
  obtain⟨h0,h1⟩:=h
  obtain⟨e0,b0⟩:=h0
  obtain⟨e1,b1⟩:=h1
  have mN:=ji e0 e1
  exact⟨⟨a0,a1⟩,⟨by rw[mN];rfl,b0,b1⟩,Nat.le_refl _⟩
def AF:dg fF where
 size:=8
 is:=fun w cs x=>cs=[.int .i64 x.key.unit,.string x.key.param,.int .i64 x.value.level,.int .i64 x.value.gh,.bool x.release,.bool x.zm,.int .i64 x.delay,.int .i64 x.time]∧aM x.key.unit∧x.key.param.size≤maxLen∧aM x.value.level∧aM x.value.gh∧aM x.delay∧aM x.time
 len:=fun h=>by obtain⟨rfl,_⟩:=h;rfl
 mono:=fun h _=>h
 cU:=fun x=>NO.cU x.key+(Sd.cU x.value+(uh.cU x.release+(uh.cU x.zm+(eX.cU x.delay+(eX.cU x.time)))))
theorem ag1:Reads Tryz.prog AF 43:=
 (aeT (F:=fun _=>True) Tryz.underlying43 (c0:=NO) (c1:=Sd) (c2:=uh) (c3:=uh) (c4:=eX) (c5:=eX) (by kernel_rfl) rfl rfl rfl rfl rfl rfl (by kernel_rfl) (by kernel_rfl) (by kernel_rfl) (by kernel_rfl) (by kernel_rfl) (by kernel_rfl) XV afZ (LV Tryz.underlying4) (LV Tryz.underlying4) (lH Tryz.underlying3) (lH Tryz.underlying3)).imp fun w cs a h=>by
  obtain⟨a0,a1,a2,a3,a4,a5⟩:=a
  obtain⟨h0,h1,h2,h3,h4,h5⟩:=h
  obtain⟨e0,b0⟩:=h0
  obtain⟨ank,anl⟩:=b0
  obtain⟨e1,b1⟩:=h1
  obtain⟨anm,ano⟩:=b1
  have e2:=h2;simp only[uh]at e2
  have e3:=h3;simp only[uh]at e3
  obtain⟨e4,b4⟩:=h4
  obtain⟨e5,b5⟩:=h5
  have Jf:=ji e4 e5
  have Je:=ji e3 Jf
  have D6:=ji e2 Je
  have xC:=ji e1 D6
  have mN:=ji e0 xC
  exact⟨⟨a0,a1,a2,a3,a4,a5⟩,⟨by rw[mN];rfl,ank,anl,anm,ano,b4,b5⟩,Nat.le_refl _⟩
theorem afU:Reads Tryz.prog (gj AF) 31:=FK Tryz.underlying31 (c:=AF) (by kernel_rfl) (by decide) ag1
def aby:dg aY where
 size:=11
 is:=fun w cs x=>∃v0 v1:Value,cs=[.int .i64 x.number,.string x.title,.int .i64 x.delay,.int .i64 x.up,.int .i64 x.down,.int .i64 x.other,.int .i64 x.dS.kind,v0,.bool x.block,.int .i64 x.follow,v1]∧aM x.number∧x.title.size≤maxLen∧aM x.delay∧aM x.up∧aM x.down∧aM x.other∧aM x.dS.kind∧(gj wV).is w [v0] x.dS.points∧aM x.follow∧(gj AF).is w [v1] x.dr
 len:=fun h=>by obtain⟨v0,v1,rfl,_⟩:=h;rfl
 mono:=fun{w w' cs x} h g=>by obtain⟨v0,v1,e,h0,h1,h2,h3,h4,h5,h6,h7,h8,h9⟩:=h;exact⟨v0,v1,e,h0,h1,h2,h3,h4,h5,h6,((gj wV)).mono h7 g,h8,((gj AF)).mono h9 g⟩
 cU:=fun x=>eX.cU x.number+(tI.cU x.title+(eX.cU x.delay+(eX.cU x.up+(eX.cU x.down+(eX.cU x.other+(RW.cU x.dS+(uh.cU x.block+(eX.cU x.follow+((gj AF).cU x.dr)))))))))
theorem aio:Reads Tryz.prog aby 33:=
 (aet (F:=fun _=>True) Tryz.underlying33 (c0:=eX) (c1:=tI) (c2:=eX) (c3:=eX) (c4:=eX) (c5:=eX) (c6:=RW) (c7:=uh) (c8:=eX) (c9:=(gj AF)) (by kernel_rfl) rfl rfl rfl rfl rfl rfl rfl rfl rfl rfl (by kernel_rfl) (by kernel_rfl) (by kernel_rfl) (by kernel_rfl) (by kernel_rfl) (by kernel_rfl) (by kernel_rfl) (by kernel_rfl) (by kernel_rfl) (by kernel_rfl) (lH Tryz.underlying3) (FY Tryz.underlying9) (lH Tryz.underlying3) (lH Tryz.underlying3) (lH Tryz.underlying3) (lH Tryz.underlying3) afT (LV Tryz.underlying4) (lH Tryz.underlying3) afU).imp fun w cs a h=>by
  obtain⟨a0,a1,a2,a3,a4,a5,a6,a7,a8,a9⟩:=a
  obtain⟨h0,h1,h2,h3,h4,h5,h6,h7,h8,h9⟩:=h
  obtain⟨e0,b0⟩:=h0
  obtain⟨e1,b1⟩:=h1
  obtain⟨e2,b2⟩:=h2
  obtain⟨e3,b3⟩:=h3
  obtain⟨e4,b4⟩:=h4
  obtain⟨e5,b5⟩:=h5
  obtain⟨apg,e6,b6⟩:=h6
  obtain⟨anp,anq⟩:=b6
  have e7:=h7;simp only[uh]at e7
  obtain⟨e8,b8⟩:=h8
  obtain⟨s9,e9⟩:=List.length_eq_one_iff.1 (((gj AF)).len h9);rw[e9]at h9
  have aoe:=ji e8 e9
  have aod:=ji e7 aoe
  have aoc:=ji e6 aod
  have S6:=ji e5 aoc
  have Jf:=ji e4 S6
  have Je:=ji e3 Jf
  have D6:=ji e2 Je
  have xC:=ji e1 D6
  have mN:=ji e0 xC
  exact⟨⟨a0,a1,a2,a3,a4,a5,a6,a7,a8,a9⟩,⟨apg,s9,by rw[mN];rfl,b0,b1,b2,b3,b4,b5,anp,anq,b8,h9⟩,Nat.le_refl _⟩
end
section
open Go.RowKit Go.Deep
section
variable {c : RC}
theorem yO:aJ c [] []:=by simp [aJ]
theorem fB {a:AV} {v:Value} {l:List AV} {vs:List Value} (h:ak c a v) (k:aJ c l vs):aJ c (a::l) (v::vs):=by
 simp only[aJ];exact⟨v,vs,rfl,h,k⟩
theorem kF (k:IntKind) (n:Int):ak c (.int k n) (.int k n):=by simp [ak]
theorem Mw (b:Bool):ak c (.bool b) (.bool b):=by simp [ak]
theorem DB (s:ByteArray):ak c (.str s) (.string s):=by simp [ak]
def RP {α:Type} (c:RC) (d:dg α) (e:α→List AV) (ok:α→Prop):Prop:=∀cs x,d.is c.w cs x→aJ c (e x) cs∧ok x∧(∀v∈cs,dK v=true)
theorem Y1:∀{l:List AV} {vs:List Value},aJ c l vs→l.length=vs.length
 |[],vs,h=>by simp only[aJ]at h;subst h;rfl
 |a::l,vs,h=>by
  simp only[aJ]at h
  obtain⟨v,vs',rfl,_,h⟩:=h
  simp [Y1 h]
theorem YZ {b:Nat}:∀{l:List AV} {vs:List Value} {off:Nat},aJ c l vs→(∀v∈vs,dK v=true)→(∀j,j<vs.length→c.w.cell? ⟨b,off+j,none⟩=vs[j]?)→bz c b off l
 |[],vs,off,h,_,_=>by simp [bz]
 |a::l,vs,off,h,ho,hc=>by
  simp only[aJ]at h
  obtain⟨v,vs',rfl,h1,h2⟩:=h
  simp only[bz]
  refine⟨⟨v,by simpa using hc 0 (by simp),ho v (by simp),h1⟩,YZ h2 (fun v hv=>ho v (by simp [hv])) fun j hj=>?_⟩
  have:=hc (j+1) (by simpa using hj)
  rw[show off+1+j=off+(j+1) by omega]
  simpa using this
theorem Y0 {α:Type} {d:dg α} {e:α→List AV} {ok:α→Prop} (H:RP c d e ok) {b sz:Nat} (hsz:d.size=sz):∀{l:List α} {off:Nat},(∀(i:Nat) (x:α),l[i]? =some x→∃cs',(∀j,j<d.size→c.w.cell? ⟨b,off+(i*d.size+j),none⟩=cs'[j]?)∧d.is c.w cs' x)→bC c sz b off (l.map e)∧∀x∈l,ok x
 |[],off,h=>by simp [bC]
 |x::l,off,h=>by
  obtain⟨cs,h1,h2⟩:=h 0 x rfl
  obtain⟨k1,k2,k3⟩:=H cs x h2
  have hl:cs.length=d.size:=d.len h2
  obtain⟨r1,r2⟩:=Y0 H hsz (l:=l) (off:=off+sz) (fun i y hy=>by
   obtain⟨cs',q1,q2⟩:=h (i+1) y (by simpa using hy)
   refine⟨cs',fun j hj=>?_,q2⟩
   have:=q1 j hj
   rw[←hsz]
   rwa[show off+d.size+(i*d.size+j)=off+((i+1)*d.size+j) by rw[Nat.succ_mul];omega])
  refine⟨?_,fun y hy=>?_⟩
  ·simp only[List.map_cons,bC]
   refine⟨by rw[Y1 k1,hl,hsz],YZ k1 k3 fun j hj=>?_,r1⟩
   have:=h1 j (by rw[←hl];exact hj)
   simpa using this
  ·rcases List.mem_cons.1 hy with rfl|hy
   ·exact k2
   ·exact r2 y hy
theorem aj3 {w:World} {b off:Nat} {v:Value} (h:w.cell? ⟨b,off,none⟩=some v):b<w.heap.size:=by
 rcases Nat.lt_or_ge b w.heap.size with k|k
 ·exact k
 ·simp [World.cell?,Array.getElem?_eq_none k]at h
theorem F9 {α:Type} {d:dg α} {e:α→List AV} {ok:α→Prop} (hX:∀b,¬c.X b) (H:RP c d e ok) {sz:Nat} (hsz:d.size=sz) (h0:0<sz) {v:Value} {l:List α} (h:(gj d).is c.w [v] l):ak c (sl sz e l) v∧fE ok l∧dK v=true:=by
 rcases h with⟨h1,rfl⟩|⟨b,off,sp,cap,h1,h2,h3,h4⟩
 ·simp only[List.cons.injEq,and_true]at h1
  subst h1
  exact⟨by simp [sl,ak,h0],⟨by simp,by simp⟩,rfl⟩
 ·simp only[List.cons.injEq,and_true]at h1
  subst h1
  have yf:sp=none∨l=[]:=by
   cases l with
   |nil=>exact .inr rfl
   |cons x l=>exact .inl (h4 0 (by simp)).1
  have hh:∀(i:Nat) (x:α),l[i]? =some x→∃cs',(∀j,j<d.size→c.w.cell? ⟨b,off+(i*d.size+j),none⟩=cs'[j]?)∧d.is c.w cs' x:=by
   intro i x hx
   obtain⟨hi,hx⟩:=List.getElem?_eq_some_iff.1 hx
   subst hx
   exact(h4 i hi).2
  obtain⟨r1,r2⟩:=Y0 H hsz hh
  refine⟨?_,⟨by unfold maxLen at h3;unfold aU;omega,r2⟩,rfl⟩
  simp only[sl,ak]
  refine⟨some ⟨b,off,sp⟩,cap,by simp,by simpa using h2,h0,?_⟩
  rcases yf with rfl|rfl
  ·cases l with
   |nil=>exact .inl rfl
   |cons x l=>
    refine .inr ⟨b,off,rfl,?_,hX b,r1⟩
    obtain⟨cs,q1,q2⟩:=hh 0 x rfl
    have hl:cs.length=d.size:=d.len q2
    have:=q1 0 (by omega)
    obtain⟨y,hy⟩:∃y,cs[0]? =some y:=⟨cs[0],List.getElem?_eq_getElem (by omega)⟩
    rw[hy]at this
    exact aj3 this
  ·exact .inl rfl
theorem Ak:∀v∈([]:List Value),dK v=true:=by simp
theorem gd {v:Value} {vs:List Value} (h:dK v=true) (k:∀x∈vs,dK x=true):∀x∈v::vs,dK x=true:=by
 intro x hx
 rcases List.mem_cons.1 hx with rfl|hx
 ·exact h
 ·exact k x hx
theorem ajE:RP c wV iu ZH:=by
 rintro cs x ⟨rfl,h0,h1⟩
 exact⟨(fB (kF _ _) (fB (kF _ _) yO)),⟨h0,h1⟩,(gd rfl (gd rfl Ak))⟩
theorem ajF:RP c Ax lK RJ:=by
 rintro cs x ⟨rfl,h0,h1,h2⟩
 exact⟨(fB (kF _ _) (fB (kF _ _) (fB (DB _) yO))),⟨h0,h1,(show jd _ by unfold jd aU;have:=h2;unfold maxLen at this;omega)⟩,(gd rfl (gd rfl (gd rfl Ak)))⟩
theorem ajD (hX:∀b,¬c.X b):RP c Aw bU ZG:=by
 rintro cs x ⟨v0,rfl,h0,h1,h2,h3,h4,h6⟩
 obtain⟨r6,o6,n6⟩:=F9 hX ajF (sz:=3) rfl (by decide) h6
 exact⟨(fB (DB _) (fB (kF _ _) (fB (kF _ _) (fB (kF _ _) (fB (kF _ _) (fB (Mw _) (fB r6 yO))))))),⟨(show jd _ by unfold jd aU;have:=h0;unfold maxLen at this;omega),h1,h2,h3,h4,o6⟩,(gd rfl (gd rfl (gd rfl (gd rfl (gd rfl (gd rfl (gd n6 Ak)))))))⟩
theorem ag6 (hX:∀b,¬c.X b):RP c Ae bP L8:=by
 rintro cs x ⟨v0,rfl,h0,h1,h2⟩
 obtain⟨r2,o2,n2⟩:=F9 hX (ajD hX) (sz:=7) rfl (by decide) h2
 exact⟨(fB (DB _) (fB (kF _ _) (fB r2 yO))),⟨(show jd _ by unfold jd aU;have:=h0;unfold maxLen at this;omega),h1,o2⟩,(gd rfl (gd rfl (gd n2 Ak)))⟩
theorem ala:RP c AJ bB aaB:=by
 rintro cs x ⟨rfl,h0,h1,h2,h3⟩
 exact⟨(fB (kF _ _) (fB (DB _) (fB (kF _ _) (fB (kF _ _) yO)))),⟨h0,(show jd _ by unfold jd aU;have:=h1;unfold maxLen at this;omega),h2,h3⟩,(gd rfl (gd rfl (gd rfl (gd rfl Ak))))⟩
theorem ame (hX:∀b,¬c.X b):RP c ab4 eo rZ:=by
 rintro cs x ⟨v0,v1,rfl,h0,h1⟩
 obtain⟨r0,o0,n0⟩:=F9 hX (ag6 hX) (sz:=3) rfl (by decide) h0
 obtain⟨r1,o1,n1⟩:=F9 hX ala (sz:=4) rfl (by decide) h1
 exact⟨(fB r0 (fB r1 yO)),⟨o0,o1⟩,(gd n0 (gd n1 Ak))⟩
theorem amd:RP c NO aL AH:=by
 rintro cs x ⟨rfl,h0,h1⟩
 exact⟨(fB (kF _ _) (fB (DB _) yO)),⟨h0,(show jd _ by unfold jd aU;have:=h1;unfold maxLen at this;omega)⟩,(gd rfl (gd rfl Ak))⟩
theorem ak9:RP c AF fG Nd:=by
 rintro cs x ⟨rfl,h0,h1,h2,h3,h6,h7⟩
 exact⟨(fB (kF _ _) (fB (DB _) (fB (kF _ _) (fB (kF _ _) (fB (Mw _) (fB (Mw _) (fB (kF _ _) (fB (kF _ _) yO)))))))),⟨⟨h0,(show jd _ by unfold jd aU;have:=h1;unfold maxLen at this;omega)⟩,⟨h2,h3⟩,h6,h7⟩,(gd rfl (gd rfl (gd rfl (gd rfl (gd rfl (gd rfl (gd rfl (gd rfl Ak))))))))⟩
theorem amc (hX:∀b,¬c.X b):RP c aby aX um:=by
 rintro cs x ⟨v0,v1,rfl,h0,h1,h2,h3,h4,h5,h6,h7,h9,Ue⟩
 obtain⟨r7,o7,n7⟩:=F9 hX ajE (sz:=2) rfl (by decide) h7
 obtain⟨kN,o10,n10⟩:=F9 hX ak9 (sz:=8) rfl (by decide) Ue
 exact⟨(fB (kF _ _) (fB (DB _) (fB (kF _ _) (fB (kF _ _) (fB (kF _ _) (fB (kF _ _) (fB (kF _ _) (fB r7 (fB (Mw _) (fB (kF _ _) (fB kN yO))))))))))),⟨h0,(show jd _ by unfold jd aU;have:=h1;unfold maxLen at this;omega),h2,h3,h4,h5,⟨h6,o7⟩,h9,o10⟩,(gd rfl (gd rfl (gd rfl (gd rfl (gd rfl (gd rfl (gd rfl (gd n7 (gd rfl (gd rfl (gd n10 Ak)))))))))))⟩
theorem R8 {α:Type} {d:dg α} {e:α→List AV} {ok:α→Prop} (H:RP c d e ok) {cs:Array Value} {x:α} (h:d.is c.w cs.toList x):ak c (.agg (e x)) (.agg cs)∧ok x:=by
 obtain⟨h1,h2,h3⟩:=H _ _ h
 simp only[ak]
 exact⟨⟨cs,rfl,h1,h3⟩,h2⟩
end
end
section
open Go.RowKit
noncomputable def base (W:World):RC:=ctx ⟨W,[],fun _=>False,aG⟩ W [] cM
theorem Z8 (W:World):∀b,¬(base W).X b:=by
 rintro b (k|⟨p,hp,_⟩|⟨i,k⟩)
 ·exact k
 ·cases hp
 ·cases k
theorem akC {n:FuncId} {m:List AV→Heap→Option (AV×Heap)} {nE:List AV} (hs:Sound Tryz.prog aG n m) (hc:∀us w,(callFunc n us).run Tryz.prog w=.ok (.enter n us) w) (W:World) (vs:Array Value) (hr:aJ (base W) nE vs.toList) (hm:m nE []=some (.bool true,[])):
  Calls Tryz.prog n vs W fun e W'=>e=.returned (.bool true)∧Below W.heap.size W W':=by
 have hh0:iG (ctx ⟨W,[],fun _=>False,aG⟩ W [] cM) []:=by
  refine⟨rfl,fun i j p q hp=>?_,fun i p x hp=>?_⟩
  ·simp [ctx]at hp
  ·simp [ctx]at hp
 rcases hs _ _ _ _ hm with⟨g,h1,h2⟩|hv
 case inr=>
  obtain⟨v,w',E',k1,_⟩:=hv ⟨W,[],fun _=>False,aG⟩ vs rfl (fun b k=>k.elim) hh0 hr
  rw[hc]at k1
  injection k1 with k1
  cases k1
 have hg:g=n:=by
  have e1:=h1 #[] W
  rw[hc #[] W]at e1
  injection e1 with e1
  injection e1 with e1
  exact e1.symm
 subst hg
 have hh:iG (ctx ⟨W,[],fun _=>False,aG⟩ W [] cM) []:=by
  refine⟨rfl,fun i j p q hp=>?_,fun i p x hp=>?_⟩
  ·simp [ctx]at hp
  ·simp [ctx]at hp
 refine(h2 ⟨W,[],fun _=>False,aG⟩ vs rfl (fun b k=>k.elim) hh hr).mono ?_
 rintro e w' ⟨v,E',rfl,ho,_,hv⟩
 simp only[ak]at hv
 subst hv
 exact⟨rfl,ho.os,ho.tape,ho.output,ho.size,fun k hk=>ho.stay k hk (fun p hp=>by cases hp)⟩
end
end Go.Proofs.YtfcnnphidnjleaaGreat
