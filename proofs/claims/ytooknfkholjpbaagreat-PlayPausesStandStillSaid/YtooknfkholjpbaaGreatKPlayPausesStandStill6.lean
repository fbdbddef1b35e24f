/- Parts of the proof of PlayPausesStandStill, in order. -/
import Derived.Orders
import Derived.Below
import Derived.WalkKit
import Derived.Laws.StructEq
import Derived.Laws.Append
import Derived.Laws.AppendOwn
import Derived.Test.YtooknfkholjpbaaGreatRows
import Derived.KernelRfl
import Derived.Lib.Bytealg
import Derived.Sort.Defs
import Derived.Lib.BitFns
import Derived.Test.YtooknfkholjpbaaGreatShelf
import Derived.Laws.Externs
import Derived.Lib.Overlaps
import Derived.IntWalk
import Derived.Sort.Statements
import Derived.Shelf.SlSortCmp.WholeK
import Derived.Shelf.SlSortCmp.NoneTotal
import Derived.Sort.AssemblyPlain
import Derived.Lib.Strings
import Derived.WalkSpells
import Derived.ProofKit
import Derived.OpenShut
import Derived.Lib.Hide
import Derived.Lib.SmallJoins
import Derived.Deep.QuietTactic
import Derived.BigQuiet
import Derived.Deep.RegionHeld3
import Derived.Deep.Slices
import Derived.Test.YtooknfkholjpbaaGreatKPlayPausesStandStill5
namespace Go.Proofs.YtooknfkholjpbaaGreat
set_option linter.unusedVariables false
set_option linter.unusedSimpArgs false
set_option linter.unusedSectionVars false
section
set_option maxRecDepth 100000
open HP
theorem age {l:List ow} (h:zB l=0):l.length≤30:=by
 unfold zB at h
 split at h
 ·cases h
 ·omega
theorem Yv (size:Int):∀(l pre:List ep),Cf size pre l=0→∀x∈l,(0≤x.default∧x.default≤65535)∧x.ranges.length≤30
 |[],pre,h,x,hx=>by simp at hx
 |y::l,pre,h,x,hx=>by
  rw[agW]at h
  by_cases h0:Ir size pre y=0
  case neg=>rw[if_neg h0]at h;exact absurd h h0
  rw[if_pos h0]at h
  rcases List.mem_cons.1 hx with rfl|hx
  ·unfold Ir at h0
   split at h0
   ·cases h0
   split at h0
   ·cases h0
   split at h0
   ·cases h0
   split at h0
   ·cases h0
   rename_i h4
   split at h0
   ·cases h0
   refine⟨?_,age h0⟩
   cases q:aR x.default 0 65535
   ·exact absurd (.inr (.inr q)) h4
   ·exact qE q
  ·exact Yv size l _ h x hx
theorem Y1 {p:cV} (h:qo p=0):p.params.length≤40∧∀x∈p.params,(0≤x.default∧x.default≤65535)∧x.ranges.length≤30:=by
 refine⟨UL h,?_⟩
 unfold qo at h
 split at h
 ·cases h
 split at h
 ·cases h
 split at h
 ·cases h
 split at h
 ·cases h
 exact Yv _ _ _ h
structure FT (s : fU) : Prop where
 ok:uT s
 aQ:j0 s.aQ=0
 pre:rG s.aQ s.bH=0
 No:s.lists.length≤30
 lok:∀l∈s.lists,rQ l.bD=0
 pl:s.bk.length≤40
 fnd:∀p∈s.bk,(sQ s.lists p.list).2=true
theorem aax {s:fU} (hs:uT s) (h:BM s=0):FT s:=by
 unfold BM at h
 by_cases h1:rG s.aQ s.bH=0
 case neg=>rw[if_pos h1]at h;exact absurd h h1
 rw[if_neg (fun q=>q h1)]at h
 split at h
 ·cases h
 rename_i h2
 by_cases h3:iE (Dg s) s.lists 0=0
 case neg=>rw[if_pos h3]at h;exact absurd h h3
 rw[if_neg (fun q=>q h3)]at h
 split at h
 ·cases h
 rename_i h4
 refine⟨hs,OP h1,h1,by omega,fun l hl=>?_,by omega,fun p hp=>?_⟩
 ·obtain⟨i,hi,e⟩:=List.getElem_of_mem hl
  have:=(zl s.lists 0).1 h3 i l (by rw[←e];exact List.getElem?_eq_getElem hi)
  unfold Dg at this
  split at this
  ·cases this
  split at this
  ·cases this
  unfold MB at this
  rw[if_neg (fun q=>q h1)]at this
  by_cases h5:rQ l.bD=0
  ·exact h5
  ·rw[if_pos h5]at this;exact absurd this h5
 ·obtain⟨i,hi,e⟩:=List.getElem_of_mem hp
  have:=(zl s.bk 0).1 h i p (by rw[←e];exact List.getElem?_eq_getElem hi)
  unfold MD at this
  split at this
  ·cases this
  split at this
  ·cases this
  split at this
  ·cases this
  rename_i q
  simpa using q
theorem X5 {r:gp} {bH:List jU} (h:rG r bH=0):bH.length≤200∧∀p∈bH,p.jK.length≤2000∧∀x∈p.jK,0≤x.level∧x.level≤65535:=by
 have hr:=OP h
 unfold rG at h
 rw[if_neg (fun q=>q hr)]at h
 split at h
 ·cases h
 refine⟨by omega,fun p hp=>?_⟩
 obtain⟨i,hi,e⟩:=List.getElem_of_mem hp
 have h2:=(zl bH 0).1 h i p (by rw[←e];exact List.getElem?_eq_getElem hi)
 unfold Mc at h2
 split at h2
 ·cases h2
 split at h2
 ·cases h2
 split at h2
 ·cases h2
 split at h2
 ·cases h2
 refine⟨by omega,fun x hx=>?_⟩
 obtain⟨j,hj,e⟩:=List.getElem_of_mem hx
 have h3:=(zl p.jK 0).1 h2 j x (by rw[←e];exact List.getElem?_eq_getElem hj)
 unfold MF at h3
 split at h3
 ·cases h3
 split at h3
 ·cases h3
 rename_i q
 exact qE (by simpa using q)
theorem alj {r:gp} {bH:List jU} (h:rG r bH=0) (k:aB) (v:lW):0≤(wm bH k v).1∧(wm bH k v).1≤65535:=by
 unfold wm
 split
 ·simp
 split
 ·simp
 rename_i h2
 split
 ·exact qE (by simpa using h2)
 split
 ·simp
 rename_i p hp
 split
 ·simp
 rename_i x hx
 exact((X5 h).2 p (List.mem_of_find?_eq_some hp)).2 x (List.mem_of_find?_eq_some hx)
theorem FT.bd {s:fU} (h:FT s):FR s:=by
 have hl:=Ql h.aQ
 have hp:=X5 h.pre
 refine⟨?_,fun p hp=>?_,?_,⟨by omega,fun p q=>by have:=(hp.2 p q).1;omega⟩,by have:=h.No;omega,fun l hl=>?_,by have:=h.pl;omega⟩
 ·unfold wX at hl
  split at hl
  ·cases hl
  ·omega
 ·have:=Y1 (Pq hl p hp)
  exact⟨by omega,fun q hq=>by have:=(this.2 q hq).2;omega⟩
 ·have hr:=h.aQ
  unfold j0 at hr
  rw[if_pos hl]at hr
  split at hr
  ·cases hr
  ·omega
 ·have hg:=QF (h.lok l hl)
  exact⟨by have:=hg.len;omega,fun c hc=>⟨by have:=(hg.mv c hc).1;omega,by have:=hg.pts c hc;omega⟩⟩
def nh (l:List cV):List (ByteArray×cV):=l.foldl (fun m p=>dD p.name p m) []
def FX (lm:List (ByteArray×cV)) (u:gW):List ep:=match cC u.profile lm with
 |none=>[]
 |some p=>p.params
def Ry (lm:List (ByteArray×cV)) (m:List (aB×ep)) (u:gW):List (aB×ep):=(FX lm u).foldl (fun m x=>dD ⟨u.number,x.name⟩ x m) m
def Av (r:gp):List (aB×ep):=r.units.foldl (Ry (nh r.aY)) []
def kX (s:fU) (p:lJ):bf:=⟨⟨0,0,false⟩,p.number,p.priority,(sQ s.lists p.list).1.bD,-1,65535,-1,none⟩
def kr (s:fU):bF:=⟨⟨s.bk.map (kX s),0,65535,false⟩,s,mY s.aQ,some (Av s.aQ),[]⟩
theorem Qq {κ ν:Type} [DecidableEq κ] {P:ν→Prop} {k:κ} {v:ν} (hv:P v):∀{l:List (κ×ν)},(∀p∈l,P p.2)→∀p∈dD k v l,P p.2
 |[],_,p,hp=>by simp [dD]at hp;rw[hp];exact hv
 |(k',v')::r,h,p,hp=>by
  rw[dD]at hp
  split at hp
  ·rcases List.mem_cons.1 hp with rfl|hp
   ·exact hv
   ·exact h p (by simp [hp])
  ·rcases List.mem_cons.1 hp with rfl|hp
   ·exact h _ (by simp)
   ·exact Qq hv (fun p hp=>h p (by simp [hp])) p hp
theorem Ld {α β:Type} {P:β→Prop} {f:β→α→β}:∀(l:List α) (b:β),P b→(∀b,P b→∀x∈l,P (f b x))→P (l.foldl f b)
 |[],b,h,_=>h
 |x::l,b,h,k=>Ld l (f b x) (k b h x (by simp)) fun b hb y hy=>k b hb y (by simp [hy])
theorem XV {P:cV→Prop} {l:List cV} (h:∀p∈l,P p):∀p∈nh l,P p.2:=by
 unfold nh
 exact Ld (P:=fun m:List (ByteArray×cV)=>∀p∈m,P p.2) l [] (by simp) fun m hm x hx=>Qq (h x hx) hm
theorem aiN {P:ep→Prop} {r:gp} (h:∀p∈r.aY,∀x∈p.params,P x):∀p∈Av r,P p.2:=by
 unfold Av
 refine Ld (P:=fun m:List (aB×ep)=>∀p∈m,P p.2) r.units [] (by simp) fun m hm u hu=>?_
 unfold Ry
 refine Ld (P:=fun m:List (aB×ep)=>∀p∈m,P p.2) _ m hm fun m hm x hx=>Qq ?_ hm
 unfold FX at hx
 cases hf:cC u.profile (nh r.aY)with
 |none=>rw[hf]at hx;simp at hx
 |some p=>
  rw[hf]at hx
  exact XV (P:=fun p=>∀x∈p.params,P x) h _ (H9 hf) x hx
theorem afR {l:List iU} {n:Int} (h:(sQ l n).2=true):(sQ l n).1∈l:=by
 unfold sQ at h ⊢
 cases hf:l.find? (fun x=>decide (x.number=n))with
 |none=>rw[hf]at h;cases h
 |some x=>exact List.mem_of_find?_eq_some hf
theorem aiJ {s:fU} (h:FT s):wF (kr s):=by
 obtain⟨hr,hp,hl,hb⟩:=h.ok
 refine⟨⟨hp,alj h.pre,fun k=>?_⟩,⟨⟨Int.le_refl _,by show(0:Int)≤_;decide⟩,?_,fun b hb=>?_,by show(0:Int)≤65535∧(65535:Int)≤65535;decide⟩,?_,by show 0≤5000;decide,rfl⟩
 ·unfold eW
  cases hf:cC k ((kr s).params.getD [])with
  |none=>simp
  |some x=>exact aiN (P:=fun x=>0≤x.default∧x.default≤65535) (fun p hp x hx=>((Y1 (Pq (Ql h.aQ) p hp)).2 x hx).1) _ (H9 hf)
 ·show(s.bk.map (kX s)).length≤40
  rw[List.length_map];exact h.pl
 ·obtain⟨p,hp,rfl⟩:=List.mem_map.1 hb
  have hm:=afR (h.fnd p hp)
  refine{qW:=(hl.2 _ hm).2,dA:=h.lok _ hm,can:=fun l e=>?_,runs:=fun k r q=>?_,jg:=?_,pX:=?_,bQ:=?_,Cu:=?_}
  ·simp [kX]at e
  ·simp [kX]at q
  ·show(0:Int)≤65535∧(65535:Int)≤65535;decide
  ·show(0:Int)≤0∧(0:Int)≤0∧(0:Int)≤0;decide
  ·show(-1:Int)≤-1∧(-1:Int)<(((sQ s.lists p.list).1.bD.length:Nat):Int);omega
  ·left;show(-1:Int)<0;decide
 ·show(s.bk.map (kX s)).map (·.number)=_
  rw[List.map_map];rfl
theorem aho {s:fU} (h:FT s):(kr s).keys.length≤1000000:=by
 have:=Qh h.aQ
 show(mY s.aQ).length≤_
 omega
section
variable {aC σ : Heap} {R : HP}
section
variable {κ ν : Type} [DecidableEq κ] {ek : A.EK} {eK : κ → AV} {eV : ν → AV} {B : aJ → Prop} {id : Nat} {l : List (κ × ν)}
theorem aaG (hq:∀a b,A.dZ ek (eK a) (eK b)=some (decide (a=b))) {x:κ} (hok:A.jq ek (eK x)=true) (v:ν) (H:Hs bP aC σ (blk id (.map (l.map fun p=>(eK p.1,eV p.2)))*R)):∃σ',A.ew ek (.om id) (eK x) (eV v) σ=some σ'∧Hs bP aC σ' (blk id (.map ((dD x v l).map fun p=>(eK p.1,eV p.2)))*R):=by
 refine⟨σ.set id (.map ((dD x v l).map fun p=>(eK p.1,eV p.2))),?_,zG H trivial⟩
 simp only[A.ew,hok,cond_true,(iD H).2,Dn hq,Option.map_some]
theorem alP (hq:∀a b,A.dZ ek (eK a) (eK b)=some (decide (a=b))) {x:κ} (hok:A.jq ek (eK x)=true) (z:AV) (H:Hs B aC σ (blk id (.map (l.map fun p=>(eK p.1,eV p.2)))*R)):A.look ek (.om id) (eK x) z σ=some (((cC x l).map eV).getD z):=by
 simp only[A.look,hok,cond_true,A.entries,(iD H).2,Option.bind_some,BI hq,Option.map_some]
end
def vq (p:ByteArray×cV):AV×AV:=(.str p.1,.agg (ck p.2))
theorem ams {s:fU} (hl:s.aQ.aY.length≤1000000) {me:Nat} (H:Hs bP aC σ (blk me (.map (([]:List (ByteArray×cV)).map vq))*R)):∃W,A.loop ((fun v31 sG=>
    (A.lss (v31.getD 1 AV.undef) (AV.int .i64 (s.aQ.aY.length:Int))).bind fun x34=>
    A.cond x34 (
     (A.aU 3 (sl 3 ck s.aQ.aY) (v31.getD 1 AV.undef)).bind fun gn=>
     ((A.deref gn sG).bind fun gY=>A.ay 0 3 gY).bind fun bU=>
     (A.cells 3 bU).bind fun lg=>
     (A.splice 0 lg [br,ah,AV.au]).bind fun l7=>
     (A.aj 0 l7).bind fun cZ=>
     (A.ay 0 3 l7).bind fun dW=>
     (A.ew .z (AV.om me) cZ dW sG).bind fun IW=>
     (A.add (v31.getD 1 AV.undef) aG).bind fun fJ=>
     some (AX.normal,[(v31.getD 0 AV.undef),fJ],IW)) (
     some (AX.exit 0,[(v31.getD 0 AV.undef),(v31.getD 1 AV.undef)],sG)))) [.lbx (bB s),.int .i64 0] σ=some (.exit 0,[.lbx (bB s),.int .i64 (s.aQ.aY.length:Int)],W)∧Hs bP aC W (blk me (.map ((nh s.aQ.aY).map vq))*R):=by
 suffices h:∃q,A.loop ((fun v31 sG=>
    (A.lss (v31.getD 1 AV.undef) (AV.int .i64 (s.aQ.aY.length:Int))).bind fun x34=>
    A.cond x34 (
     (A.aU 3 (sl 3 ck s.aQ.aY) (v31.getD 1 AV.undef)).bind fun gn=>
     ((A.deref gn sG).bind fun gY=>A.ay 0 3 gY).bind fun bU=>
     (A.cells 3 bU).bind fun lg=>
     (A.splice 0 lg [br,ah,AV.au]).bind fun l7=>
     (A.aj 0 l7).bind fun cZ=>
     (A.ay 0 3 l7).bind fun dW=>
     (A.ew .z (AV.om me) cZ dW sG).bind fun IW=>
     (A.add (v31.getD 1 AV.undef) aG).bind fun fJ=>
     some (AX.normal,[(v31.getD 0 AV.undef),fJ],IW)) (
     some (AX.exit 0,[(v31.getD 0 AV.undef),(v31.getD 1 AV.undef)],sG)))) [.lbx (bB s),.int .i64 0] σ=some q∧∃W,q=(.exit 0,[.lbx (bB s),.int .i64 (s.aQ.aY.length:Int)],W)∧Hs bP aC W (blk me (.map ((nh s.aQ.aY).map vq))*R) by
  obtain⟨q,e,W,rfl,K⟩:=h
  exact⟨W,e,K⟩
 refine mT (fun z v w=>∃(i:Nat) (m:List (ByteArray×cV)),i≤s.aQ.aY.length∧v=[.lbx (bB s),.int .i64 (i:Int)]∧z=s.aQ.aY.length-i∧(s.aQ.aY.drop i).foldl (fun m p=>dD p.name p m) m=nh s.aQ.aY∧Hs bP aC w (blk me (.map (m.map vq))*R)) ?_ (n:=s.aQ.aY.length) ⟨0,[],Nat.zero_le _,rfl,rfl,rfl,H⟩
 rintro z v w ⟨i,m,hi,rfl,hz,hT,K⟩
 by_cases h:i<s.aQ.aY.length
 ·obtain⟨x,ct⟩:∃x,x=s.aQ.aY[i]:=⟨_,rfl⟩
  have hx:s.aQ.aY[i]? =some x:=by rw[ct];exact List.getElem?_eq_getElem h
  rw[List.drop_eq_getElem_cons h,←ct]at hT
  obtain⟨w',u1,u2⟩:=aaG (ek:=.z) (eK:=fun b:ByteArray=>AV.str b) (eV:=fun p:cV=>AV.agg (ck p)) (l:=m) YA (x:=x.name) rfl x K
  refine .inl ⟨s.aQ.aY.length-(i+1),_,w',by omega,?_,i+1,dD x.name x m,h,rfl,rfl,hT,u2⟩
  simp only[List.getD_cons_zero,List.getD_cons_succ]
  rw[jF hx,bS,cQ,iO hx,bS,nv,bS,show A.ay 0 3 (ck x)=some (.agg (ck x))from rfl,bS,show A.cells 3 (.agg (ck x))=some (ck x)from rfl,bS,show A.splice 0 (ck x) [br,ah,AV.au]=some (ck x)from rfl,bS,qd,bS,show A.ay 0 3 (ck x)=some (.agg (ck x))from rfl,bS,u1,bS,gd hx (by unfold aW;omega),bS]
 ·have:i=s.aQ.aY.length:=by omega
  subst this
  rw[List.drop_length]at hT
  simp only[List.foldl_nil]at hT
  rw[hT]at K
  refine .inr ⟨(.exit 0,[.lbx (bB s),.int .i64 (s.aQ.aY.length:Int)],w),?_,by simp,w,rfl,K⟩
  simp only[List.getD_cons_zero,List.getD_cons_succ]
  rw[jD,bS,cB]
theorem aj4 (n:Int) (b:ByteArray):((((A.cell (.int .i64 n)).bind fun v=>some [v]).bind fun mH=>(A.splice 0 mH [ah,br]).bind fun lp=>((A.cell (.str b)).bind fun v=>some [v]).bind fun kE=>(A.splice 1 kE lp).bind fun i7=>some i7).bind fun cs=>some (AV.agg cs))=some (.agg (aO ⟨n,b⟩)):=rfl
theorem aln {s : fU} {u : gW} {ps : List ep} (hl : ps.length ≤ 1000000) {id aV : Nat} {cs : List AV} (hc : cs[10]? = some (.om aV)) (m : List (aB × ep)) (H : Hs bP aC σ (blk aV (.map (m.map gL)) * (blk id (.box cs) * R))) : ∃ W, A.loop ((fun v64 gm =>
        (A.lss (v64.getD 2 AV.undef) (AV.int .i64 (ps.length:Int))).bind fun jy=>
        A.cond jy (
         (A.aU 7 (sl 7 eU ps) (v64.getD 2 AV.undef)).bind fun gJ=>
         ((A.deref gJ gm).bind fun pU=>A.ay 0 7 pU).bind fun eT=>
         (A.cells 7 eT).bind fun lI=>
         (A.splice 0 lI [br,ah,ah,ah,ah,aM,AV.au]).bind fun jG=>
         (A.aL (AV.op id 0)).bind fun ij=>
         (A.aA 10 ij).bind fun iq=>
         ((A.deref iq gm).bind fun pV=>A.aj 0 pV).bind fun jf=>
         ((A.lb (v64.getD 1 AV.undef)).bind fun _=>some (0)).bind fun sB=>
         ((A.lb (v64.getD 1 AV.undef)).bind fun nU=>A.aj sB nU).bind fun jS=>
         (A.aj 0 jG).bind fun fT=>
         ((((A.cell jS).bind fun v=>some [v]).bind fun mH=>(A.splice 0 mH [ah,br]).bind fun lp=>((A.cell fT).bind fun v=>some [v]).bind fun kE=>(A.splice 1 kE lp).bind fun i7=>some i7).bind fun cs=>some (AV.agg cs)).bind fun iL=>
         (A.ay 0 7 jG).bind fun jB=>
         (A.ew (.s [0,2]) jf iL jB gm).bind fun uy=>
         (A.add (v64.getD 2 AV.undef) aG).bind fun iM=>
         some (AX.normal,[(v64.getD 0 AV.undef),(v64.getD 1 AV.undef),iM],uy)) (
         some (AX.exit 4,[(v64.getD 0 AV.undef),(v64.getD 1 AV.undef),(v64.getD 2 AV.undef)],gm)))) [.lbx (bB s),.lbx (bV u),.int .i64 0] σ=some (.exit 4,[.lbx (bB s),.lbx (bV u),.int .i64 (ps.length:Int)],W)∧Hs bP aC W (blk aV (.map ((ps.foldl (fun m x=>dD ⟨u.number,x.name⟩ x m) m).map gL))*(blk id (.box cs)*R)):=by
 suffices h:∃q,A.loop ((fun v64 gm=>
        (A.lss (v64.getD 2 AV.undef) (AV.int .i64 (ps.length:Int))).bind fun jy=>
        A.cond jy (
         (A.aU 7 (sl 7 eU ps) (v64.getD 2 AV.undef)).bind fun gJ=>
         ((A.deref gJ gm).bind fun pU=>A.ay 0 7 pU).bind fun eT=>
         (A.cells 7 eT).bind fun lI=>
         (A.splice 0 lI [br,ah,ah,ah,ah,aM,AV.au]).bind fun jG=>
         (A.aL (AV.op id 0)).bind fun ij=>
         (A.aA 10 ij).bind fun iq=>
         ((A.deref iq gm).bind fun pV=>A.aj 0 pV).bind fun jf=>
         ((A.lb (v64.getD 1 AV.undef)).bind fun _=>some (0)).bind fun sB=>
         ((A.lb (v64.getD 1 AV.undef)).bind fun nU=>A.aj sB nU).bind fun jS=>
         (A.aj 0 jG).bind fun fT=>
         ((((A.cell jS).bind fun v=>some [v]).bind fun mH=>(A.splice 0 mH [ah,br]).bind fun lp=>((A.cell fT).bind fun v=>some [v]).bind fun kE=>(A.splice 1 kE lp).bind fun i7=>some i7).bind fun cs=>some (AV.agg cs)).bind fun iL=>
         (A.ay 0 7 jG).bind fun jB=>
         (A.ew (.s [0,2]) jf iL jB gm).bind fun uy=>
         (A.add (v64.getD 2 AV.undef) aG).bind fun iM=>
         some (AX.normal,[(v64.getD 0 AV.undef),(v64.getD 1 AV.undef),iM],uy)) (
         some (AX.exit 4,[(v64.getD 0 AV.undef),(v64.getD 1 AV.undef),(v64.getD 2 AV.undef)],gm)))) [.lbx (bB s),.lbx (bV u),.int .i64 0] σ=some q∧∃W,q=(.exit 4,[.lbx (bB s),.lbx (bV u),.int .i64 (ps.length:Int)],W)∧Hs bP aC W (blk aV (.map ((ps.foldl (fun m x=>dD ⟨u.number,x.name⟩ x m) m).map gL))*(blk id (.box cs)*R)) by
  obtain⟨q,e,W,rfl,K⟩:=h
  exact⟨W,e,K⟩
 obtain⟨fm,hfm⟩:∃fm,fm=ps.foldl (fun m x=>dD (⟨u.number,x.name⟩:aB) x m) m:=⟨_,rfl⟩
 rw[←hfm]
 refine mT (fun z v w=>∃(i:Nat) (m:List (aB×ep)),i≤ps.length∧v=[.lbx (bB s),.lbx (bV u),.int .i64 (i:Int)]∧z=ps.length-i∧(ps.drop i).foldl (fun m x=>dD ⟨u.number,x.name⟩ x m) m=fm∧Hs bP aC w (blk aV (.map (m.map gL))*(blk id (.box cs)*R))) ?_ (n:=ps.length) ⟨0,m,Nat.zero_le _,rfl,rfl,hfm.symm,H⟩
 rintro z v w ⟨i,m,hi,rfl,hz,hT,K⟩
 by_cases h:i<ps.length
 ·obtain⟨x,ct⟩:∃x,x=ps[i]:=⟨_,rfl⟩
  have hx:ps[i]? =some x:=by rw[ct];exact List.getElem?_eq_getElem h
  rw[List.drop_eq_getElem_cons h,←ct]at hT
  obtain⟨w',u1,u2⟩:=aaG (ek:=.s [0,2]) (eK:=fun k:aB=>AV.agg (aO k)) (eV:=fun p:ep=>AV.agg (eU p)) (l:=m) qt (x:=⟨u.number,x.name⟩) rfl x K
  have hb:=(iD (hs_eq (show _=blk id (.box cs)*(blk aV (.map (m.map gL))*R) by ac_rfl) K)).2
  refine .inl ⟨ps.length-(i+1),_,w',by omega,?_,i+1,_,h,rfl,rfl,hT,u2⟩
  simp only[List.getD_cons_zero,List.getD_cons_succ]
  rw[jF hx,bS,cQ,iO hx,bS,nv,bS,show A.ay 0 7 (eU x)=some (.agg (eU x))from rfl,bS,show A.cells 7 (.agg (eU x))=some (eU x)from rfl,bS,show A.splice 0 (eU x) [br,ah,ah,ah,ah,aM,AV.au]=some (eU x)from rfl,bS,show A.aL (.op id 0)=some (.op id 0)from rfl,bS,show A.aA 10 (.op id 0)=some (.op id 10)from by simp [A.aA],bS,show((A.deref (.op id 10) w).bind fun pV=>A.aj 0 pV)=some (.om aV)from by simp only[A.deref,hb,Option.bind_some,A.aj,List.getElem?_drop,Nat.add_zero,hc];rfl,bS,hG,bS,bS,bS,show A.aj 0 (bV u)=some (.int .i64 u.number)from rfl,bS,KG,bS,aj4,bS,show A.ay 0 7 (eU x)=some (.agg (eU x))from rfl,bS,u1,bS,gd hx (by unfold aW;omega),bS]
 ·have:i=ps.length:=by omega
  subst this
  rw[List.drop_length]at hT
  simp only[List.foldl_nil]at hT
  rw[hT]at K
  refine .inr ⟨(.exit 4,[.lbx (bB s),.lbx (bV u),.int .i64 (ps.length:Int)],w),?_,by simp,w,rfl,K⟩
  simp only[List.getD_cons_zero,List.getD_cons_succ]
  rw[jD,bS,cB]
theorem XY {f:List AV→Heap→Option LS} {v:List AV} {σ:Heap} {r:LS} (h:f v σ=some r) (hr:r.1≠.normal):A.loop f v σ=some r:=by
 obtain⟨n,hn⟩:=uO h hr
 exact CV hn
theorem amL {oh rz uJ vQ β:Type} {X:Option oh} {f:oh→Option rz} {g:oh→rz→Option uJ} {h:oh→rz→uJ→Option vQ} {v:vQ} {k:oh→rz→uJ→vQ→Option β} {k':vQ→Option β} {r:Option β} (e:(X.bind fun x=>(f x).bind fun y=>(g x y).bind fun z=>h x y z)=some v) (hk:k' v=r) (hkk:k=fun _ _ _=>k':=by rfl):(X.bind fun x=>(f x).bind fun y=>(g x y).bind fun z=>(h x y z).bind (k x y z))=r:=by
 subst hkk
 obtain⟨x,hx,e⟩:=Option.bind_eq_some_iff.1 e
 obtain⟨y,hy,e⟩:=Option.bind_eq_some_iff.1 e
 obtain⟨z,hz,e⟩:=Option.bind_eq_some_iff.1 e
 rw[hx,Option.bind_some,hy,Option.bind_some,hz,Option.bind_some,e,Option.bind_some]
 exact hk
theorem amt {s:fU} (hb:FR s) {id aV me:Nat} {cs:List AV} (hc:cs[10]? =some (.om aV)) (H:Hs bP aC σ (blk aV (.map (([]:List (aB×ep)).map gL))*(blk id (.box cs)*(blk me (.map ((nh s.aQ.aY).map vq))*R)))):∃W,A.loop ((fun v50 tH=>
     (A.lss (v50.getD 1 AV.undef) (AV.int .i64 (s.aQ.units.length:Int))).bind fun gQ=>
     A.cond gQ (
      (A.aU 4 (sl 4 bV s.aQ.units) (v50.getD 1 AV.undef)).bind fun gy=>
      ((A.deref gy tH).bind fun iA=>A.ay 0 4 iA).bind fun gz=>
      (A.cells 4 gz).bind fun i6=>
      (A.splice 0 i6 [ah,br,ah,ah]).bind fun iR=>
      (A.aj 1 iR).bind fun eG=>
      (A.look .z (AV.om me) eG (AV.agg [br,ah,AV.au]) tH).bind fun gE=>
      ((A.cells 3 gE).bind fun nT=>A.aj 2 nT).bind fun eS=>
      (A.bG eS).bind fun fD=>
      (A.loop (fun v64 gm=>
        (A.lss (v64.getD 2 AV.undef) fD).bind fun jy=>
        A.cond jy (
         (A.aU 7 eS (v64.getD 2 AV.undef)).bind fun gJ=>
         ((A.deref gJ gm).bind fun pU=>A.ay 0 7 pU).bind fun eT=>
         (A.cells 7 eT).bind fun lI=>
         (A.splice 0 lI [br,ah,ah,ah,ah,aM,AV.au]).bind fun jG=>
         (A.aL (AV.op id 0)).bind fun ij=>
         (A.aA 10 ij).bind fun iq=>
         ((A.deref iq gm).bind fun pV=>A.aj 0 pV).bind fun jf=>
         ((A.lb (v64.getD 1 AV.undef)).bind fun _=>some (0)).bind fun sB=>
         ((A.lb (v64.getD 1 AV.undef)).bind fun nU=>A.aj sB nU).bind fun jS=>
         (A.aj 0 jG).bind fun fT=>
         ((((A.cell jS).bind fun v=>some [v]).bind fun mH=>(A.splice 0 mH [ah,br]).bind fun lp=>((A.cell fT).bind fun v=>some [v]).bind fun kE=>(A.splice 1 kE lp).bind fun i7=>some i7).bind fun cs=>some (AV.agg cs)).bind fun iL=>
         (A.ay 0 7 jG).bind fun jB=>
         (A.ew (.s [0,2]) jf iL jB gm).bind fun uy=>
         (A.add (v64.getD 2 AV.undef) aG).bind fun iM=>
         some (AX.normal,[(v64.getD 0 AV.undef),(v64.getD 1 AV.undef),iM],uy)) (
         some (AX.exit 4,[(v64.getD 0 AV.undef),(v64.getD 1 AV.undef),(v64.getD 2 AV.undef)],gm))) [(v50.getD 0 AV.undef),(AV.lbx iR),ah] tH).bind fun xR=>
      bif xR.1==AX.exit 4 then(
       (A.add (v50.getD 1 AV.undef) aG).bind fun x90=>
       some (AX.normal,[(xR.2.1.getD 0 AV.undef),x90],xR.2.2))else
      none) (
      some (AX.exit 2,[(v50.getD 0 AV.undef),(v50.getD 1 AV.undef)],tH)))) [.lbx (bB s),.int .i64 0] σ=some (.exit 2,[.lbx (bB s),.int .i64 (s.aQ.units.length:Int)],W)∧Hs bP aC W (blk aV (.map ((Av s.aQ).map gL))*(blk id (.box cs)*(blk me (.map ((nh s.aQ.aY).map vq))*R))):=by
 suffices h:∃q,A.loop ((fun v50 tH=>
     (A.lss (v50.getD 1 AV.undef) (AV.int .i64 (s.aQ.units.length:Int))).bind fun gQ=>
     A.cond gQ (
      (A.aU 4 (sl 4 bV s.aQ.units) (v50.getD 1 AV.undef)).bind fun gy=>
      ((A.deref gy tH).bind fun iA=>A.ay 0 4 iA).bind fun gz=>
      (A.cells 4 gz).bind fun i6=>
      (A.splice 0 i6 [ah,br,ah,ah]).bind fun iR=>
      (A.aj 1 iR).bind fun eG=>
      (A.look .z (AV.om me) eG (AV.agg [br,ah,AV.au]) tH).bind fun gE=>
      ((A.cells 3 gE).bind fun nT=>A.aj 2 nT).bind fun eS=>
      (A.bG eS).bind fun fD=>
      (A.loop (fun v64 gm=>
        (A.lss (v64.getD 2 AV.undef) fD).bind fun jy=>
        A.cond jy (
         (A.aU 7 eS (v64.getD 2 AV.undef)).bind fun gJ=>
         ((A.deref gJ gm).bind fun pU=>A.ay 0 7 pU).bind fun eT=>
         (A.cells 7 eT).bind fun lI=>
         (A.splice 0 lI [br,ah,ah,ah,ah,aM,AV.au]).bind fun jG=>
         (A.aL (AV.op id 0)).bind fun ij=>
         (A.aA 10 ij).bind fun iq=>
         ((A.deref iq gm).bind fun pV=>A.aj 0 pV).bind fun jf=>
         ((A.lb (v64.getD 1 AV.undef)).bind fun _=>some (0)).bind fun sB=>
         ((A.lb (v64.getD 1 AV.undef)).bind fun nU=>A.aj sB nU).bind fun jS=>
         (A.aj 0 jG).bind fun fT=>
         ((((A.cell jS).bind fun v=>some [v]).bind fun mH=>(A.splice 0 mH [ah,br]).bind fun lp=>((A.cell fT).bind fun v=>some [v]).bind fun kE=>(A.splice 1 kE lp).bind fun i7=>some i7).bind fun cs=>some (AV.agg cs)).bind fun iL=>
         (A.ay 0 7 jG).bind fun jB=>
         (A.ew (.s [0,2]) jf iL jB gm).bind fun uy=>
         (A.add (v64.getD 2 AV.undef) aG).bind fun iM=>
         some (AX.normal,[(v64.getD 0 AV.undef),(v64.getD 1 AV.undef),iM],uy)) (
         some (AX.exit 4,[(v64.getD 0 AV.undef),(v64.getD 1 AV.undef),(v64.getD 2 AV.undef)],gm))) [(v50.getD 0 AV.undef),(AV.lbx iR),ah] tH).bind fun xR=>
      bif xR.1==AX.exit 4 then(
       (A.add (v50.getD 1 AV.undef) aG).bind fun x90=>
       some (AX.normal,[(xR.2.1.getD 0 AV.undef),x90],xR.2.2))else
      none) (
      some (AX.exit 2,[(v50.getD 0 AV.undef),(v50.getD 1 AV.undef)],tH)))) [.lbx (bB s),.int .i64 0] σ=some q∧∃W,q=(.exit 2,[.lbx (bB s),.int .i64 (s.aQ.units.length:Int)],W)∧Hs bP aC W (blk aV (.map ((Av s.aQ).map gL))*(blk id (.box cs)*(blk me (.map ((nh s.aQ.aY).map vq))*R))) by
  obtain⟨q,e,W,rfl,K⟩:=h
  exact⟨W,e,K⟩
 have hun:=hb.un
 refine mT (fun z v w=>∃(i:Nat) (m:List (aB×ep)),i≤s.aQ.units.length∧v=[.lbx (bB s),.int .i64 (i:Int)]∧z=s.aQ.units.length-i∧(s.aQ.units.drop i).foldl (Ry (nh s.aQ.aY)) m=Av s.aQ∧Hs bP aC w (blk aV (.map (m.map gL))*(blk id (.box cs)*(blk me (.map ((nh s.aQ.aY).map vq))*R)))) ?_ (n:=s.aQ.units.length) ⟨0,[],Nat.zero_le _,rfl,rfl,rfl,H⟩
 rintro z v w ⟨i,m,hi,rfl,hz,hT,K⟩
 by_cases h:i<s.aQ.units.length
 ·obtain⟨x,ct⟩:∃x,x=s.aQ.units[i]:=⟨_,rfl⟩
  have hx:s.aQ.units[i]? =some x:=by rw[ct];exact List.getElem?_eq_getElem h
  rw[List.drop_eq_getElem_cons h,←ct]at hT
  have hpl:(FX (nh s.aQ.aY) x).length≤1000000:=by
   unfold FX
   cases hf:cC x.profile (nh s.aQ.aY)with
   |none=>simp
   |some p=>exact XV (P:=fun p=>p.params.length≤1000000) (fun p hp=>(hb.par p hp).1) _ (H9 hf)
  obtain⟨w',l1,l2⟩:=aln (s:=s) (u:=x) hpl hc m K
  have hlk:((A.look .z (AV.om me) (.str x.profile) (AV.agg [br,ah,AV.au]) w).bind fun gE=>((A.cells 3 gE).bind fun nT=>A.aj 2 nT).bind fun eS=>(A.bG eS).bind fun fD=>(A.loop ((fun v64 gm=>
        (A.lss (v64.getD 2 AV.undef) fD).bind fun jy=>
        A.cond jy (
         (A.aU 7 eS (v64.getD 2 AV.undef)).bind fun gJ=>
         ((A.deref gJ gm).bind fun pU=>A.ay 0 7 pU).bind fun eT=>
         (A.cells 7 eT).bind fun lI=>
         (A.splice 0 lI [br,ah,ah,ah,ah,aM,AV.au]).bind fun jG=>
         (A.aL (AV.op id 0)).bind fun ij=>
         (A.aA 10 ij).bind fun iq=>
         ((A.deref iq gm).bind fun pV=>A.aj 0 pV).bind fun jf=>
         ((A.lb (v64.getD 1 AV.undef)).bind fun _=>some (0)).bind fun sB=>
         ((A.lb (v64.getD 1 AV.undef)).bind fun nU=>A.aj sB nU).bind fun jS=>
         (A.aj 0 jG).bind fun fT=>
         ((((A.cell jS).bind fun v=>some [v]).bind fun mH=>(A.splice 0 mH [ah,br]).bind fun lp=>((A.cell fT).bind fun v=>some [v]).bind fun kE=>(A.splice 1 kE lp).bind fun i7=>some i7).bind fun cs=>some (AV.agg cs)).bind fun iL=>
         (A.ay 0 7 jG).bind fun jB=>
         (A.ew (.s [0,2]) jf iL jB gm).bind fun uy=>
         (A.add (v64.getD 2 AV.undef) aG).bind fun iM=>
         some (AX.normal,[(v64.getD 0 AV.undef),(v64.getD 1 AV.undef),iM],uy)) (
         some (AX.exit 4,[(v64.getD 0 AV.undef),(v64.getD 1 AV.undef),(v64.getD 2 AV.undef)],gm)))) [.lbx (bB s),.lbx (bV x),.int .i64 0] w))=some (.exit 4,[.lbx (bB s),.lbx (bV x),.int .i64 ((FX (nh s.aQ.aY) x).length:Int)],w'):=by
   rw[alP (ek:=.z) (eK:=fun b:ByteArray=>AV.str b) (eV:=fun p:cV=>AV.agg (ck p)) (l:=nh s.aQ.aY) YA (x:=x.profile) rfl _ (hs_eq (show _=blk me (.map ((nh s.aQ.aY).map vq))*(blk aV (.map (m.map gL))*(blk id (.box cs)*R)) by ac_rfl) K),bS]
   unfold FX at l1 ⊢
   cases hf:cC x.profile (nh s.aQ.aY)with
   |none=>
    rw[hf]at l1
    simp only[Option.map_none,Option.getD_none]
    rw[show((A.cells 3 (AV.agg [br,ah,AV.au])).bind fun nT=>A.aj 2 nT)=some .au from rfl,bS,show A.bG .au=some (.int .i64 0)from rfl,bS]
    have hw:w'=w:=by
     have e0:A.loop ((fun v64 gm=>
        (A.lss (v64.getD 2 AV.undef) (AV.int .i64 ((([]:List ep).length:Nat):Int))).bind fun jy=>
        A.cond jy (
         (A.aU 7 (sl 7 eU ([]:List ep)) (v64.getD 2 AV.undef)).bind fun gJ=>
         ((A.deref gJ gm).bind fun pU=>A.ay 0 7 pU).bind fun eT=>
         (A.cells 7 eT).bind fun lI=>
         (A.splice 0 lI [br,ah,ah,ah,ah,aM,AV.au]).bind fun jG=>
         (A.aL (AV.op id 0)).bind fun ij=>
         (A.aA 10 ij).bind fun iq=>
         ((A.deref iq gm).bind fun pV=>A.aj 0 pV).bind fun jf=>
         ((A.lb (v64.getD 1 AV.undef)).bind fun _=>some (0)).bind fun sB=>
         ((A.lb (v64.getD 1 AV.undef)).bind fun nU=>A.aj sB nU).bind fun jS=>
         (A.aj 0 jG).bind fun fT=>
         ((((A.cell jS).bind fun v=>some [v]).bind fun mH=>(A.splice 0 mH [ah,br]).bind fun lp=>((A.cell fT).bind fun v=>some [v]).bind fun kE=>(A.splice 1 kE lp).bind fun i7=>some i7).bind fun cs=>some (AV.agg cs)).bind fun iL=>
         (A.ay 0 7 jG).bind fun jB=>
         (A.ew (.s [0,2]) jf iL jB gm).bind fun uy=>
         (A.add (v64.getD 2 AV.undef) aG).bind fun iM=>
         some (AX.normal,[(v64.getD 0 AV.undef),(v64.getD 1 AV.undef),iM],uy)) (
         some (AX.exit 4,[(v64.getD 0 AV.undef),(v64.getD 1 AV.undef),(v64.getD 2 AV.undef)],gm)))) [.lbx (bB s),.lbx (bV x),.int .i64 0] w=some (.exit 4,[.lbx (bB s),.lbx (bV x),.int .i64 0],w):=
      XY rfl (by simp)
     have l1:=e0.symm.trans l1
     injection l1 with l1
     exact(congrArg (fun z:LS=>z.2.2) l1).symm
    rw[hw]
    exact XY rfl (by simp)
   |some p=>
    rw[hf]at l1
    simp only[Option.map_some,Option.getD_some]
    rw[show((A.cells 3 (AV.agg (ck p))).bind fun nT=>A.aj 2 nT)=some (sl 7 eU p.params)from rfl,bS,fE,bS]
    exact l1
  refine .inl ⟨s.aQ.units.length-(i+1),_,w',by omega,?_,i+1,_,h,rfl,rfl,hT,l2⟩
  simp only[List.getD_cons_zero,List.getD_cons_succ]
  rw[jF hx,bS,cQ,iO hx,bS,nv,bS,show A.ay 0 4 (bV x)=some (.agg (bV x))from rfl,bS,show A.cells 4 (.agg (bV x))=some (bV x)from rfl,bS,show A.splice 0 (bV x) [ah,br,ah,ah]=some (bV x)from rfl,bS,show A.aj 1 (bV x)=some (.str x.profile)from rfl,bS]
  refine amL hlk ?_
  simp only[mJ,List.getD_cons_zero,List.getD_cons_succ]
  rw[gd hx (by unfold aW;omega),bS]
 ·have:i=s.aQ.units.length:=by omega
  subst this
  rw[List.drop_length]at hT
  simp only[List.foldl_nil]at hT
  rw[hT]at K
  refine .inr ⟨(.exit 2,[.lbx (bB s),.int .i64 (s.aQ.units.length:Int)],w),?_,by simp,w,rfl,K⟩
  simp only[List.getD_cons_zero,List.getD_cons_succ]
  rw[jD,bS,cB]
end
end
section
set_option maxRecDepth 100000
open HP
section
variable {aC σ : Heap} {R : HP}
theorem aj3 (s:fU) (p:lJ):((((A.cell (.int .i64 p.number)).bind fun v=>some [v]).bind fun pH=>(A.splice 3 pH [ah,ah,aM,ah,ah,AV.au,ah,ah,ah,AV.nm]).bind fun Aa=>((A.cell (.int .i64 p.priority)).bind fun v=>some [v]).bind fun nF=>(A.splice 4 nF Aa).bind fun Ab=>((A.cell (sl 11 aZ (sQ s.lists p.list).1.bD)).bind fun v=>some [v]).bind fun wJ=>(A.splice 5 wJ Ab).bind fun tW=>((A.cell (AV.int .i64 (-1))).bind fun v=>some [v]).bind fun qG=>(A.splice 6 qG tW).bind fun lQ=>((A.cell (AV.int .i64 65535)).bind fun v=>some [v]).bind fun Ac=>(A.splice 7 Ac lQ).bind fun Ad=>((A.cell (AV.int .i64 (-1))).bind fun v=>some [v]).bind fun Ae=>(A.splice 8 Ae Ad).bind fun Af=>some Af).bind fun cs=>some (AV.agg cs))=some (.agg (aK (kX s p))):=rfl
theorem aky (b:bf):(((A.cells 10 (.agg (aK b))).bind fun nG=>(A.splice 0 nG [ah,ah,aM,ah,ah,AV.au,ah,ah,ah,AV.nm]).bind fun Ah=>some Ah).bind fun cs=>some (AV.sl 10 (chunks 10 1 cs)))=some (.sl 10 [aK b]):=rfl
theorem akx (a:dR):A.splice 0 (bE a) [ah,ah,ah,ah,ah]=some (bE a):=rfl
theorem amu {s:fU} (hs:FT s) {id aV:Nat} (H:Hs bP aC σ (blk id (.box (gb .au aV .au (kr s)))*R)):∃vb W,A.loop ((fun jx sJ=>
      (A.lss (jx.getD 1 AV.undef) (AV.int .i64 (s.bk.length:Int))).bind fun x99=>
      A.cond x99 (
       (A.aU 3 (sl 3 bO s.bk) (jx.getD 1 AV.undef)).bind fun nJ=>
       ((A.deref nJ sJ).bind fun pG=>A.ay 0 3 pG).bind fun x102=>
       (A.cells 3 x102).bind fun Dv=>
       (A.splice 0 Dv [ah,ah,ah]).bind fun rS=>
       ((A.lb (jx.getD 0 AV.undef)).bind fun zZ=>A.ay 0 5 zZ).bind fun nK=>
       (A.aj 1 rS).bind fun nL=>
       (Bp [nK,nL] sJ).bind fun nI=>
       (A.ext 0 nI.1).bind fun nM=>
       (A.ext 1 nI.1).bind fun AA=>
       (A.cells 2 nM).bind fun mq=>
       (A.splice 0 mq [ah,AV.au]).bind fun Dy=>
       (A.aL (AV.op id 0)).bind fun x113=>
       (A.aA 0 x113).bind fun x114=>
       (A.aA 0 x114).bind fun x115=>
       ((A.deref x115 nI.2).bind fun tV=>A.aj 0 tV).bind fun pO=>
       (A.aj 0 rS).bind fun xe=>
       (A.aj 2 rS).bind fun AB=>
       (A.aj 1 Dy).bind fun AD=>
       ((((A.cell xe).bind fun v=>some [v]).bind fun pH=>(A.splice 3 pH [ah,ah,aM,ah,ah,AV.au,ah,ah,ah,AV.nm]).bind fun Aa=>((A.cell AB).bind fun v=>some [v]).bind fun nF=>(A.splice 4 nF Aa).bind fun Ab=>((A.cell AD).bind fun v=>some [v]).bind fun wJ=>(A.splice 5 wJ Ab).bind fun tW=>((A.cell (AV.int .i64 (-1))).bind fun v=>some [v]).bind fun qG=>(A.splice 6 qG tW).bind fun lQ=>((A.cell (AV.int .i64 65535)).bind fun v=>some [v]).bind fun Ac=>(A.splice 7 Ac lQ).bind fun Ad=>((A.cell (AV.int .i64 (-1))).bind fun v=>some [v]).bind fun Ae=>(A.splice 8 Ae Ad).bind fun Af=>some Af).bind fun cs=>some (AV.agg cs)).bind fun nN=>
       (((A.cells 10 nN).bind fun nG=>(A.splice 0 nG [ah,ah,aM,ah,ah,AV.au,ah,ah,ah,AV.nm]).bind fun Ah=>some Ah).bind fun cs=>some (AV.sl 10 (chunks 10 1 cs))).bind fun nO=>
       (A.append 10 (140737488355328 / 96) pO nO nI.2).bind fun wZ=>
       (A.aL (AV.op id 0)).bind fun mA=>
       (A.aA 0 mA).bind fun AE=>
       (A.aA 0 AE).bind fun AF=>
       ((A.cell wZ.1).bind fun v=>some [v]).bind fun DA=>
       (A.storeAt AF DA wZ.2).bind fun Ai=>
       (A.add (jx.getD 1 AV.undef) aG).bind fun mB=>
       some (AX.normal,[(jx.getD 0 AV.undef),mB],Ai)) (
       some (AX.exit 6,[(jx.getD 0 AV.undef),(jx.getD 1 AV.undef)],sJ)))) [.lbx (bB s),.int .i64 0] σ=some (.exit 6,[.lbx (bB s),.int .i64 (s.bk.length:Int)],W)∧Hs bP aC W (blk id (.box (gb vb aV .au (kr s)))*(Sl (fl aK) 10 vb (s.bk.map (kX s))*R)):=by
 suffices h:∃q,A.loop ((fun jx sJ=>
      (A.lss (jx.getD 1 AV.undef) (AV.int .i64 (s.bk.length:Int))).bind fun x99=>
      A.cond x99 (
       (A.aU 3 (sl 3 bO s.bk) (jx.getD 1 AV.undef)).bind fun nJ=>
       ((A.deref nJ sJ).bind fun pG=>A.ay 0 3 pG).bind fun x102=>
       (A.cells 3 x102).bind fun Dv=>
       (A.splice 0 Dv [ah,ah,ah]).bind fun rS=>
       ((A.lb (jx.getD 0 AV.undef)).bind fun zZ=>A.ay 0 5 zZ).bind fun nK=>
       (A.aj 1 rS).bind fun nL=>
       (Bp [nK,nL] sJ).bind fun nI=>
       (A.ext 0 nI.1).bind fun nM=>
       (A.ext 1 nI.1).bind fun AA=>
       (A.cells 2 nM).bind fun mq=>
       (A.splice 0 mq [ah,AV.au]).bind fun Dy=>
       (A.aL (AV.op id 0)).bind fun x113=>
       (A.aA 0 x113).bind fun x114=>
       (A.aA 0 x114).bind fun x115=>
       ((A.deref x115 nI.2).bind fun tV=>A.aj 0 tV).bind fun pO=>
       (A.aj 0 rS).bind fun xe=>
       (A.aj 2 rS).bind fun AB=>
       (A.aj 1 Dy).bind fun AD=>
       ((((A.cell xe).bind fun v=>some [v]).bind fun pH=>(A.splice 3 pH [ah,ah,aM,ah,ah,AV.au,ah,ah,ah,AV.nm]).bind fun Aa=>((A.cell AB).bind fun v=>some [v]).bind fun nF=>(A.splice 4 nF Aa).bind fun Ab=>((A.cell AD).bind fun v=>some [v]).bind fun wJ=>(A.splice 5 wJ Ab).bind fun tW=>((A.cell (AV.int .i64 (-1))).bind fun v=>some [v]).bind fun qG=>(A.splice 6 qG tW).bind fun lQ=>((A.cell (AV.int .i64 65535)).bind fun v=>some [v]).bind fun Ac=>(A.splice 7 Ac lQ).bind fun Ad=>((A.cell (AV.int .i64 (-1))).bind fun v=>some [v]).bind fun Ae=>(A.splice 8 Ae Ad).bind fun Af=>some Af).bind fun cs=>some (AV.agg cs)).bind fun nN=>
       (((A.cells 10 nN).bind fun nG=>(A.splice 0 nG [ah,ah,aM,ah,ah,AV.au,ah,ah,ah,AV.nm]).bind fun Ah=>some Ah).bind fun cs=>some (AV.sl 10 (chunks 10 1 cs))).bind fun nO=>
       (A.append 10 (140737488355328 / 96) pO nO nI.2).bind fun wZ=>
       (A.aL (AV.op id 0)).bind fun mA=>
       (A.aA 0 mA).bind fun AE=>
       (A.aA 0 AE).bind fun AF=>
       ((A.cell wZ.1).bind fun v=>some [v]).bind fun DA=>
       (A.storeAt AF DA wZ.2).bind fun Ai=>
       (A.add (jx.getD 1 AV.undef) aG).bind fun mB=>
       some (AX.normal,[(jx.getD 0 AV.undef),mB],Ai)) (
       some (AX.exit 6,[(jx.getD 0 AV.undef),(jx.getD 1 AV.undef)],sJ)))) [.lbx (bB s),.int .i64 0] σ=some q∧∃vb W,q=(.exit 6,[.lbx (bB s),.int .i64 (s.bk.length:Int)],W)∧Hs bP aC W (blk id (.box (gb vb aV .au (kr s)))*(Sl (fl aK) 10 vb (s.bk.map (kX s))*R)) by
  obtain⟨q,e,vb,W,rfl,K⟩:=h
  exact⟨vb,W,e,K⟩
 have hpl:=hs.pl
 have CA:s.lists.length≤aW:=by have:=hs.No;unfold aW;omega
 refine mT (fun z v w=>∃(i:Nat) (vb:AV),i≤s.bk.length∧v=[.lbx (bB s),.int .i64 (i:Int)]∧z=s.bk.length-i∧Hs bP aC w (blk id (.box (gb vb aV .au (kr s)))*(Sl (fl aK) 10 vb ((s.bk.take i).map (kX s))*R))) ?_ (n:=s.bk.length) ⟨0,.au,Nat.zero_le _,rfl,rfl,hs_eq (by ac_rfl) (qZ (v:=.au) (E:=fl aK) (sz:=10) H (.inl rfl))⟩
 rintro z v w ⟨i,vb,hi,rfl,hz,K⟩
 by_cases h:i<s.bk.length
 ·obtain⟨x,ct⟩:∃x,x=s.bk[i]:=⟨_,rfl⟩
  have hx:s.bk[i]? =some x:=by rw[ct];exact List.getElem?_eq_getElem h
  have hb:=(iD K).2
  have step:∃rj w',((fun jx sJ=>
      (A.lss (jx.getD 1 AV.undef) (AV.int .i64 (s.bk.length:Int))).bind fun x99=>
      A.cond x99 (
       (A.aU 3 (sl 3 bO s.bk) (jx.getD 1 AV.undef)).bind fun nJ=>
       ((A.deref nJ sJ).bind fun pG=>A.ay 0 3 pG).bind fun x102=>
       (A.cells 3 x102).bind fun Dv=>
       (A.splice 0 Dv [ah,ah,ah]).bind fun rS=>
       ((A.lb (jx.getD 0 AV.undef)).bind fun zZ=>A.ay 0 5 zZ).bind fun nK=>
       (A.aj 1 rS).bind fun nL=>
       (Bp [nK,nL] sJ).bind fun nI=>
       (A.ext 0 nI.1).bind fun nM=>
       (A.ext 1 nI.1).bind fun AA=>
       (A.cells 2 nM).bind fun mq=>
       (A.splice 0 mq [ah,AV.au]).bind fun Dy=>
       (A.aL (AV.op id 0)).bind fun x113=>
       (A.aA 0 x113).bind fun x114=>
       (A.aA 0 x114).bind fun x115=>
       ((A.deref x115 nI.2).bind fun tV=>A.aj 0 tV).bind fun pO=>
       (A.aj 0 rS).bind fun xe=>
       (A.aj 2 rS).bind fun AB=>
       (A.aj 1 Dy).bind fun AD=>
       ((((A.cell xe).bind fun v=>some [v]).bind fun pH=>(A.splice 3 pH [ah,ah,aM,ah,ah,AV.au,ah,ah,ah,AV.nm]).bind fun Aa=>((A.cell AB).bind fun v=>some [v]).bind fun nF=>(A.splice 4 nF Aa).bind fun Ab=>((A.cell AD).bind fun v=>some [v]).bind fun wJ=>(A.splice 5 wJ Ab).bind fun tW=>((A.cell (AV.int .i64 (-1))).bind fun v=>some [v]).bind fun qG=>(A.splice 6 qG tW).bind fun lQ=>((A.cell (AV.int .i64 65535)).bind fun v=>some [v]).bind fun Ac=>(A.splice 7 Ac lQ).bind fun Ad=>((A.cell (AV.int .i64 (-1))).bind fun v=>some [v]).bind fun Ae=>(A.splice 8 Ae Ad).bind fun Af=>some Af).bind fun cs=>some (AV.agg cs)).bind fun nN=>
       (((A.cells 10 nN).bind fun nG=>(A.splice 0 nG [ah,ah,aM,ah,ah,AV.au,ah,ah,ah,AV.nm]).bind fun Ah=>some Ah).bind fun cs=>some (AV.sl 10 (chunks 10 1 cs))).bind fun nO=>
       (A.append 10 (140737488355328 / 96) pO nO nI.2).bind fun wZ=>
       (A.aL (AV.op id 0)).bind fun mA=>
       (A.aA 0 mA).bind fun AE=>
       (A.aA 0 AE).bind fun AF=>
       ((A.cell wZ.1).bind fun v=>some [v]).bind fun DA=>
       (A.storeAt AF DA wZ.2).bind fun Ai=>
       (A.add (jx.getD 1 AV.undef) aG).bind fun mB=>
       some (AX.normal,[(jx.getD 0 AV.undef),mB],Ai)) (
       some (AX.exit 6,[(jx.getD 0 AV.undef),(jx.getD 1 AV.undef)],sJ)))) [.lbx (bB s),.int .i64 (i:Int)] w=some (.normal,[.lbx (bB s),.int .i64 ((i+1:Nat):Int)],w')∧Hs bP aC w' (blk id (.box (gb rj aV .au (kr s)))*(Sl (fl aK) 10 rj ((s.bk.take i).map (kX s)++[kX s x])*R)):=by
   have K1:=hs_eq (show _=Sl (fl aK) 10 vb ((s.bk.take i).map (kX s))*(blk id (.box (gb vb aV .au (kr s)))*R) by ac_rfl) K
   have cvb:=zP K1
   simp only[List.getD_cons_zero,List.getD_cons_succ]
   rw[jF hx,bS,cQ,iO hx,bS,nv,bS,show A.ay 0 3 (bO x)=some (.agg (bO x))from rfl,bS,show A.cells 3 (.agg (bO x))=some (bO x)from rfl,bS,show A.splice 0 (bO x) [ah,ah,ah]=some (bO x)from rfl,bS,hG,bS,show A.ay 0 5 (bB s)=some (.agg (bB s))from rfl,bS,show A.aj 1 (bO x)=some (.int .i64 x.list)from rfl,bS,Vv (ZF s CA x.list),bS]
   simp only
   rw[kU,bS,ext1,bS,show A.cells 2 (.agg (dQ (sQ s.lists x.list).1))=some (dQ (sQ s.lists x.list).1)from rfl,bS,show A.splice 0 (dQ (sQ s.lists x.list).1) [ah,AV.au]=some (dQ (sQ s.lists x.list).1)from rfl,bS]
   simp only[show A.aL (.op id 0)=some (.op id 0)from rfl,bS,show A.aA 0 (.op id 0)=some (.op id 0)from rfl]
   rw[show((A.deref (.op id 0) w).bind fun tV=>A.aj 0 tV)=some vb from by simp only[A.deref,hb];exact cvb,bS,show A.aj 0 (bO x)=some (.int .i64 x.number)from rfl,bS,show A.aj 2 (bO x)=some (.int .i64 x.priority)from rfl,bS,Py,bS,aj3,bS,aky,bS]
   obtain⟨rj,w2,f1,f2⟩:=LW (most:=140737488355328 / 96) (E:=fl aK) (l:=(s.bk.take i).map (kX s)) (v:=vb) (e:=aK (kX s x)) (x:=kX s x) (R:=blk id (.box (gb vb aV .au (kr s)))*R) (by rw[List.length_map,List.length_take];omega) (hs_eq (by rw[show fl aK (aK (kX s x)) (kX s x)=pr (aK (kX s x)=aK (kX s x))from rfl];ac_rfl) (mZ.2 ⟨(rfl:aK (kX s x)=aK (kX s x)),K1⟩))
   rw[f1,bS]
   simp only
   have f3:=hs_eq (show _=blk id (.box (gb vb aV .au (kr s)))*(Sl (fl aK) 10 rj ((s.bk.take i).map (kX s)++[kX s x])*R) by ac_rfl) f2
   have yU:=(iD f3).2
   have f4:=zG (b':=.box (gb rj aV .au (kr s))) f3 trivial
   rw[show((A.cell rj).bind fun v=>some [v])=some [rj]from by rw[zP f2];rfl,bS,show A.storeAt (.op id 0) [rj] w2=some (w2.set id (.box (gb rj aV .au (kr s))))from by simp only[A.storeAt,yU];rfl,bS,gd hx (by unfold aW;omega),bS]
   exact⟨rj,_,rfl,f4⟩
  obtain⟨rj,w',s1,s2⟩:=step
  refine .inl ⟨s.bk.length-(i+1),_,_,by omega,s1,i+1,rj,h,rfl,rfl,?_⟩
  rw[List.take_add_one,hx,Option.toList_some,List.map_append,List.map_cons,List.map_nil]
  exact s2
 ·have:i=s.bk.length:=by omega
  subst this
  rw[List.take_length]at K
  refine .inr ⟨(.exit 6,[.lbx (bB s),.int .i64 (s.bk.length:Int)],w),?_,by simp,vb,w,rfl,K⟩
  simp only[List.getD_cons_zero,List.getD_cons_succ]
  rw[jD,bS,cB]
theorem Zd {eX:List Sh} {r:AV→Heap→Option (AV×Heap)} {x v:AV} {σ σ':Heap} (ho:A.own x=false) (e1:A.bW eX [x]=[x]) (e:r x σ=some (v,σ')):A.wrap true eX .k (A.cD r) [x] σ=some (v,σ'):=by
 have e2:A.cD r [x] σ=some (v,σ'):=e
 simp only[A.wrap,List.any_cons,ho,List.any_nil,Bool.or_self,Bool.and_false,cond_false,e1,e2,Option.map_some,iQ]
theorem akU {s:fU} (hs:uT s) (h:¬BM s=0) (σ:Heap):KQ [.agg (bB s)] σ=some (.aH [.np,.int .i64 (BM s)],σ):=by
 refine Zd rfl (iV (qJ rfl) rfl) ?_
 unfold Hj
 rw[show A.cells 5 (.agg (bB s))=some (bB s)from rfl,bS,show A.ay 0 5 (bB s)=some (.agg (bB s))from rfl,bS,Uz (U6 s hs),bS]
 simp only
 rw[gC,bS,decide_eq_true h,cQ]
theorem alT {s:fU} (hs:uT s) (h:BM s=0) (H:Hs bP aC σ R):∃id σ',KQ [.agg (bB s)] σ=some (.aH [.op id 0,.int .i64 0],σ')∧Hs bP aC σ' (lX (.op id 0) (kr s)*R):=by
 suffices hh:∃id σ',Hj (.agg (bB s)) σ=some (.aH [.op id 0,.int .i64 0],σ')∧Hs bP aC σ' (lX (.op id 0) (kr s)*R) by
  obtain⟨id,σ',e,K⟩:=hh
  exact⟨id,σ',Zd rfl (iV (qJ rfl) rfl) e,K⟩
 have hO:=aax hs h
 have hB:=hO.bd
 unfold Hj
 rw[show A.cells 5 (.agg (bB s))=some (bB s)from rfl,bS,show A.ay 0 5 (bB s)=some (.agg (bB s))from rfl,bS,Uz (U6 s hs),bS]
 simp only
 rw[gC,bS,decide_eq_false (fun q=>q h),cB,bS,ahR hB,bS]
 simp only
 rw[show A.cells 5 (.agg (bB s))=some (bB s)from rfl,bS,show A.splice 0 (bB s) (bB s)=some (bB s)from rfl,bS,show A.ay 0 5 (bB s)=some (.agg (bB s))from rfl,bS]
 obtain⟨aV,aaT⟩:∃aV,aV=σ.length:=⟨_,rfl⟩
 obtain⟨id,hid⟩:∃id,id=(σ++[aJ.map []]).length:=⟨_,rfl⟩
 rw[←aaT,←hid]
 rw[show(((A.cells 5 (.agg (bB s))).bind fun dY=>(A.splice 4 dY [AV.au,ah,ah,aM,AV.au,AV.au,AV.au,AV.au,AV.au,AV.au,AV.nm,AV.au]).bind fun gh=>((A.cell (AV.om aV)).bind fun v=>some [v]).bind fun eo=>(A.splice 10 eo gh).bind fun iY=>some iY).bind fun cs=>some (AV.agg cs))=some (.agg [AV.au,ah,ah,aM,sl 3 ck s.aQ.aY,sl 4 bV s.aQ.units,sl 3 dL s.bH,sl 2 dQ s.lists,sl 3 bO s.bk,AV.au,.om aV,AV.au])from rfl,bS]
 rw[show A.cells 12 (.agg [AV.au,ah,ah,aM,sl 3 ck s.aQ.aY,sl 4 bV s.aQ.units,sl 3 dL s.bH,sl 2 dQ s.lists,sl 3 bO s.bk,AV.au,.om aV,AV.au])=some [AV.au,ah,ah,aM,sl 3 ck s.aQ.aY,sl 4 bV s.aQ.units,sl 3 dL s.bH,sl 2 dQ s.lists,sl 3 bO s.bk,AV.au,.om aV,AV.au]from rfl,bS]
 have K0:=FK (b:=aJ.map (([]:List (aB×ep)).map gL)) H trivial
 rw[←aaT]at K0
 have K1:=FK (b:=aJ.box [AV.au,ah,ah,aM,sl 3 ck s.aQ.aY,sl 4 bV s.aQ.units,sl 3 dL s.bH,sl 2 dQ s.lists,sl 3 bO s.bk,AV.au,.om aV,AV.au]) K0 trivial
 rw[show(σ++[aJ.map (([]:List (aB×ep)).map gL)]).length=id from hid.symm]at K1
 have hb1:=(iD K1).2
 have K2:=zG (b':=.box [AV.au,ah,(AV.int .i64 65535),aM,sl 3 ck s.aQ.aY,sl 4 bV s.aQ.units,sl 3 dL s.bH,sl 2 dQ s.lists,sl 3 bO s.bk,AV.au,.om aV,AV.au]) K1 trivial
 rw[List.map_nil]at hb1 K2
 simp only[show A.aL (.op id 0)=some (.op id 0)from rfl,bS,show A.aA 0 (.op id 0)=some (.op id 0)from rfl,show A.aA 2 (.op id 0)=some (.op id 2)from by simp [A.aA],oW]
 rw[show A.storeAt (.op id 2) [.int .i64 65535] ((σ++[aJ.map []])++[aJ.box [AV.au,ah,ah,aM,sl 3 ck s.aQ.aY,sl 4 bV s.aQ.units,sl 3 dL s.bH,sl 2 dQ s.lists,sl 3 bO s.bk,AV.au,.om aV,AV.au]])=some (((σ++[aJ.map []])++[aJ.box [AV.au,ah,ah,aM,sl 3 ck s.aQ.aY,sl 4 bV s.aQ.units,sl 3 dL s.bH,sl 2 dQ s.lists,sl 3 bO s.bk,AV.au,.om aV,AV.au]]).set id (.box [AV.au,ah,(AV.int .i64 65535),aM,sl 3 ck s.aQ.aY,sl 4 bV s.aQ.units,sl 3 dL s.bH,sl 2 dQ s.lists,sl 3 bO s.bk,AV.au,.om aV,AV.au]))from by simp only[A.storeAt,hb1];rfl,bS]
 generalize (((σ++[aJ.map []])++[aJ.box [AV.au,ah,ah,aM,sl 3 ck s.aQ.aY,sl 4 bV s.aQ.units,sl 3 dL s.bH,sl 2 dQ s.lists,sl 3 bO s.bk,AV.au,.om aV,AV.au]]).set id (.box [AV.au,ah,(AV.int .i64 65535),aM,sl 3 ck s.aQ.aY,sl 4 bV s.aQ.units,sl 3 dL s.bH,sl 2 dQ s.lists,sl 3 bO s.bk,AV.au,.om aV,AV.au]))=W2 at K2 ⊢
 rw[show A.ay 0 2 (bB s)=some (.agg (jM s.aQ))from rfl,bS,Qt s.aQ hs.1,bS,if_pos hO.aQ]
 simp only
 rw[kU,bS,ext1,bS]
 have yU:=(iD K2).2
 have K3:=zG (b':=.box (gb .au aV .au (kr s))) K2 trivial
 simp only[show A.aA 9 (.op id 0)=some (.op id 9)from by simp [A.aA],bS]
 rw[show((A.cell (sl 2 aO (mY s.aQ))).bind fun v=>some [v])=some [sl 2 aO (mY s.aQ)]from rfl,bS,show A.storeAt (.op id 9) [sl 2 aO (mY s.aQ)] W2=some (W2.set id (.box (gb .au aV .au (kr s))))from by simp only[A.storeAt,yU];rfl,bS]
 generalize W2.set id (.box (gb .au aV .au (kr s)))=W3 at K3 ⊢
 rw[VC,bS,fE,bS]
 obtain⟨me,anV⟩:∃me,me=W3.length:=⟨_,rfl⟩
 have K4:=FK (b:=aJ.map (([]:List (ByteArray×cV)).map vq)) K3 trivial
 rw[←anV]at K4 ⊢
 rw[List.map_nil]at K4
 obtain⟨W4,l1,K5⟩:=ams (s:=s) hB.gG K4
 refine It l1 ?_
 simp only[mJ,List.getD_cons_zero,List.getD_cons_succ,hG,bS]
 rw[show A.aj (0+1) (bB s)=some (sl 4 bV s.aQ.units)from rfl,bS,fE,bS]
 obtain⟨W5,l2,K6⟩:=amt (s:=s) hB (id:=id) (aV:=aV) (me:=me) (cs:=gb .au aV .au (kr s)) (R:=R) rfl (hs_eq (by ac_rfl) K5)
 refine It l2 ?_
 simp only[mJ,List.getD_cons_zero,List.getD_cons_succ,hG,bS]
 rw[show A.aj 4 (bB s)=some (sl 3 bO s.bk)from rfl,bS,fE,bS]
 obtain⟨vb,W6,l3,K7⟩:=amu (s:=s) hO (id:=id) (aV:=aV) (R:=blk aV (.map ((Av s.aQ).map gL))*(blk me (.map ((nh s.aQ.aY).map vq))*R)) (hs_eq (by ac_rfl) K6)
 refine It l3 ?_
 simp only[mJ]
 refine⟨id,W6,rfl,C8 (vb:=vb) (aV:=aV) (va:=.au) rfl ?_⟩
 have K8:=wk (hs_eq (show _=blk me (.map ((nh s.aQ.aY).map vq))*(blk id (.box (gb vb aV .au (kr s)))*(Sl (fl aK) 10 vb (s.bk.map (kX s))*(blk aV (.map ((Av s.aQ).map gL))*R))) by ac_rfl) K7)
 have K9:=qZ (v:=.au) (E:=fl bE) (sz:=5) K8 (.inl rfl)
 exact hs_eq (show _=iP id vb aV .au (kr s)*R by unfold iP;show _=blk id (.box (gb vb aV .au (kr s)))*(Sl (fl aK) 10 vb (s.bk.map (kX s))*(blk aV (.map ((Av s.aQ).map gL))*Sl (fl bE) 5 .au []))*R;ac_rfl) K9
noncomputable def tg (d:bF) (l:List dR):bF:=l.foldl (fun d a=>(lq d a).1) d
theorem akD {d:bF} (h:wF d) (l:List dR):wF (tg d l):=by
 unfold tg
 induction l generalizing d with
 |nil=>exact h
 |cons a l ih=>rw[List.foldl_cons];exact ih (Q1 h a)
theorem XB (d:bF) (a:dR):(lq d a).1.setup=d.setup∧(lq d a).1.keys=d.keys∧(lq d a).1.params=d.params:=by
 unfold lq
 split
 ·exact⟨rfl,rfl,rfl⟩
 split<;>exact⟨rfl,rfl,rfl⟩
theorem Ye (d:bF) (l:List dR):(tg d l).setup=d.setup∧(tg d l).keys=d.keys∧(tg d l).params=d.params:=by
 unfold tg
 induction l generalizing d with
 |nil=>exact⟨rfl,rfl,rfl⟩
 |cons a l ih=>
  rw[List.foldl_cons]
  obtain⟨h1,h2,h3⟩:=ih (lq d a).1
  obtain⟨k1,k2,k3⟩:=XB d a
  exact⟨h1.trans k1,h2.trans k2,h3.trans k3⟩
theorem XA (d:bF) (a:dR):((lq d a).2=0∧(lq d a).1.actions=d.actions++[a])∨(lq d a).1=d:=by
 unfold lq
 split
 ·exact .inr rfl
 split
 ·exact .inr rfl
 ·exact .inl ⟨rfl,rfl⟩
theorem ai2 {Q:HP} {va pd u:AV} {l:List dR} (hQ:∀{aC w:Heap} {R:HP},Hs bP aC w (Q*R)→∀{i:Nat} {x:dR},l[i]? =some x→∃p,A.aU 5 va (.int .i64 (i:Int))=some p∧A.deref p w=some (bE x)) (hl:l.length≤aW) {d:bF} (hK:wF d) (H:Hs bP aC σ (Q*(lX pd d*R))):∃W,A.loop ((fun cr iI=>
    (A.lss (cr.getD 1 AV.undef) (AV.int .i64 (l.length:Int))).bind fun bK=>
    A.cond bK (
     (A.aU 5 va (cr.getD 1 AV.undef)).bind fun cW=>
     ((A.deref cW iI).bind fun iz=>A.ay 0 5 iz).bind fun bM=>
     (A.cells 5 bM).bind fun gq=>
     (A.splice 0 gq [ah,ah,ah,ah,ah]).bind fun eF=>
     (A.ay 0 5 eF).bind fun x24=>
     (EU [pd,x24] iI).bind fun jQ=>
     (A.add (cr.getD 1 AV.undef) aG).bind fun fC=>
     some (AX.normal,[(cr.getD 0 AV.undef),fC],jQ.2)) (
     some (AX.exit 0,[(cr.getD 0 AV.undef),(cr.getD 1 AV.undef)],iI)))) [u,.int .i64 0] σ=some (.exit 0,[u,.int .i64 (l.length:Int)],W)∧Hs bP aC W (Q*(lX pd (tg d l)*R)):=by
 suffices h:∃q,A.loop ((fun cr iI=>
    (A.lss (cr.getD 1 AV.undef) (AV.int .i64 (l.length:Int))).bind fun bK=>
    A.cond bK (
     (A.aU 5 va (cr.getD 1 AV.undef)).bind fun cW=>
     ((A.deref cW iI).bind fun iz=>A.ay 0 5 iz).bind fun bM=>
     (A.cells 5 bM).bind fun gq=>
     (A.splice 0 gq [ah,ah,ah,ah,ah]).bind fun eF=>
     (A.ay 0 5 eF).bind fun x24=>
     (EU [pd,x24] iI).bind fun jQ=>
     (A.add (cr.getD 1 AV.undef) aG).bind fun fC=>
     some (AX.normal,[(cr.getD 0 AV.undef),fC],jQ.2)) (
     some (AX.exit 0,[(cr.getD 0 AV.undef),(cr.getD 1 AV.undef)],iI)))) [u,.int .i64 0] σ=some q∧∃W,q=(.exit 0,[u,.int .i64 (l.length:Int)],W)∧Hs bP aC W (Q*(lX pd (tg d l)*R)) by
  obtain⟨q,e,W,rfl,K⟩:=h
  exact⟨W,e,K⟩
 refine mT (fun z v w=>∃(i:Nat) (e:bF),i≤l.length∧v=[u,.int .i64 (i:Int)]∧z=l.length-i∧tg e (l.drop i)=tg d l∧wF e∧Hs bP aC w (Q*(lX pd e*R))) ?_ (n:=l.length) ⟨0,d,Nat.zero_le _,rfl,rfl,rfl,hK,H⟩
 rintro z v w ⟨i,e,hi,rfl,hz,hT,hKe,K⟩
 by_cases h:i<l.length
 ·obtain⟨x,ct⟩:∃x,x=l[i]:=⟨_,rfl⟩
  have hx:l[i]? =some x:=by rw[ct];exact List.getElem?_eq_getElem h
  rw[List.drop_eq_getElem_cons h,←ct]at hT
  obtain⟨p,p1,p2⟩:=hQ K hx
  obtain⟨w',d1,d2⟩:=aaH hKe x (R:=Q*R) (hs_eq (by ac_rfl) K)
  refine .inl ⟨l.length-(i+1),_,w',by omega,?_,i+1,(lq e x).1,h,rfl,rfl,hT,Q1 hKe x,hs_eq (by ac_rfl) d2⟩
  simp only[List.getD_cons_zero,List.getD_cons_succ]
  rw[jF hx,bS,cQ,p1,bS,p2,bS,KV,bS,show A.cells 5 (.agg (bE x))=some (bE x)from rfl,bS,akx,bS,KV,bS,d1,bS,gd hx hl,bS]
 ·have:i=l.length:=by omega
  subst this
  rw[List.drop_length]at hT
  have hT:e=tg d l:=hT
  rw[hT]at K
  refine .inr ⟨(.exit 0,[u,.int .i64 (l.length:Int)],w),?_,by simp,w,rfl,K⟩
  simp only[List.getD_cons_zero,List.getD_cons_succ]
  rw[jD,bS,cB]
theorem akH (l:List dR) {aC w:Heap} {R:HP} (_:Hs bP aC w (emp*R)) {i:Nat} {x:dR} (hx:l[i]? =some x):∃p,A.aU 5 (sl 5 bE l) (.int .i64 (i:Int))=some p∧A.deref p w=some (bE x):=⟨_,iO hx,nv _ _⟩
end
end
section
set_option maxRecDepth 100000
noncomputable def Hx (a0:(List lK)) (a1:(List lK)):Option Bool:=
 if ¬((a0.length:Int)=(a1.length:Int))then
  some false
 else
 kW a0 (fun(i8:Nat) e7 (s1:Unit)=>(show Option (Lr Unit Unit Unit)from
   (uH a1 (i8:Int)).bind fun x9=>
   if ¬(e7=x9)then
    some (.ret ())
   else
   some (.go ()))) (fun s1=>some ()) () (fun b2=>
  some true) (fun b2=>
  some false)
theorem ais {a0:(List lK)} {a1:(List lK)} {σ:Heap} {r:Bool} (h:Hx a0 a1=some r):J5 [(sl 3 dX a0),(sl 3 dX a1)] σ=some ((AV.bool r),σ):=by
 refine uQ (f:=NF) (y0:=(sl 3 dX a0)) (y1:=(sl 3 dX a1)) (enc:=fun r:Bool=>(AV.bool r)) (T:=Hx a0 a1) rfl rfl ?_ r h
 unfold NF Hx
 refine aq _ (fE _ _ _)<|aq _ (fE _ _ _)<|aq _ (gC _ _ _) ?_
 refine kY (p:=¬((a0.length:Int)=(a1.length:Int))) (fun gh=>?_) (fun gh=>?_)
 ·exact eD _ (bC _ _) ⟨rfl,rfl⟩
 refine aq _ (fE _ _ _) ?_
 refine qx (B:=Unit) (R:=Unit) (fun(i8:Nat) (s1:Unit) v w3=>v=[aM,(AV.int .i64 (i8:Int))]∧σ=w3) (fun(b2:Unit) (q:LS)=>∃u4 xV,q=((AX.exit 0),([u4,xV]:List AV),σ)) (fun(b2:Unit) (q:LS)=>∃xV,q=(AX.ret,([aM,xV]:List AV),σ)) ?_ ?_ ⟨rfl,rfl⟩ ?_ ?_
 ·intro Ar i8 e7 s1 v w3 nY hI
  obtain⟨rfl,rfl⟩:=hI
  refine aq _ (jF nY)<|qC<|aq _ (iO nY)<|aq _ rfl ?_
  refine kZ (fun x9:lK=>(AV.rp (dX x9))) (fun x9 Jl=>BX Jl) (fun x9 Jl=>?_)
  refine aq _ rfl<|aq _ (afU _ _) ?_
  refine kY (p:=¬(e7=x9)) (fun dY=>?_) (fun dY=>?_)
  ·exact bZ (iw (by simp) ⟨_,rfl⟩)
  refine aq _ (gd nY Ar) ?_
  exact bZ (qy ⟨rfl,rfl⟩)
 ·intro hl s1 v w3 hI
  obtain⟨rfl,rfl⟩:=hI
  refine aq _ (jD _)<|qB ?_
  exact bZ ⟨by simp,⟨_,_,rfl⟩⟩
 ·intro hl b2 q hq
  obtain⟨u4,xV,rfl⟩:=hq
  refine jW rfl ?_
  exact eD _ (bC _ _) ⟨rfl,rfl⟩
 ·intro hl b2 q hq
  obtain⟨xV,rfl⟩:=hq
  refine vg rfl<|jW rfl ?_
  exact eD _ (bC _ _) ⟨rfl,rfl⟩
end
section
set_option maxRecDepth 100000
open HP
theorem amA {α:Type} {l:List α} {body:Nat→α→Unit→Option (Lr Unit Unit Unit)} {K:Unit→Option Bool} (hl:l.length≤aW) (hb:∀i x,l[i]? =some x→body i x ()=some (.go ())):kW l body (fun s=>some ()) () (fun _=>some true) K=some true:=by
 rw[WC (p:=fun _=>false) (r:=fun _=>()) hl (fun i x hx=>by rw[hb i x hx];rfl)]
 have:l.find? (fun _=>false)=none:=by simp
 rw[this]
theorem agv (l:List lK) (hl:l.length≤aW):Hx l l=some true:=by
 unfold Hx
 simp only[not_true_eq_false,if_false]
 refine amA hl fun i x hx=>?_
 rw[QV (x:=x) (by omega) (by simpa using hx)]
 simp
section
variable {aC σ : Heap} {R R2 : HP}
theorem aaF {α:Type} {c:α→List AV} {sz:Nat} {B:aJ→Prop} {v:AV} {l:List α} (hc:∀x,iX (c x)) (H:Hs B aC σ (Sl (fl c) sz v l*R)):Lt σ (.s sz) v (sl sz c l):=by
 rcases vX H with⟨rfl,rfl|rfl,_⟩|⟨id,g,rfl,K⟩
 ·exact⟨⟨.au,by simp [A.bw],rfl,rfl⟩,rfl,fun _=>rfl⟩
 ·exact⟨⟨.ez,by simp [A.bw],rfl,rfl⟩,rfl,fun _=>rfl⟩
 ·exact⟨⟨sl sz c l,HO hc (iD K).2 (by omega) 7,rfl,rfl⟩,rfl,fun h=>by cases h⟩
theorem ahJ {B:aJ→Prop} {va vb:AV} {l:List lK} (hl:l.length≤aW) (H:Hs B aC σ (Sl (fl dX) 3 va l*R)) (H2:Hs B aC σ (Sl (fl dX) 3 vb l*R2)):J5 [va,vb] σ=some (.bool true,σ):=
 As (cM:=[va,vb]) (ts:=[sl 3 dX l,sl 3 dX l]) ⟨aaF KC H,aaF KC H2,trivial⟩ (fun σ=>ais (agv l hl)) rfl
end
theorem Rk (b:Bool) {aC σ:Heap} {R:HP} (H:Hs bP aC σ R):A.fin aC (.bool b) σ=some (.bool b,aC):=Mm H (by simp [A.bw]) (fun _=>rfl)
theorem aiy {d:bF} (hk:d.keys.length≤1000000) (t:Int):(rW d t).1.length≤aW:=by
 unfold rW
 split
 ·simp
 ·simp only[List.length_map];unfold aW;omega
theorem alO {s:List Sh} {r:AV→AV→AV→Heap→Option (AV×Heap)} {x y z v:AV} {σ:Heap} (h:[x,y,z].any A.own=false) (e1:A.bW s [x,y,z]=[x,y,z]) (e:r x y z σ=some (v,σ)):A.wrap true s .k (A.lG r) [x,y,z] σ=some (v,σ):=by
 refine wrap_eq h ?_ (iQ _)
 rw[e1]
 exact e
end
section
set_option maxRecDepth 100000
open HP
theorem akE (d:bF) (l:List dR):(tg d l).actions.length≤d.actions.length+l.length:=by
 unfold tg
 induction l generalizing d with
 |nil=>exact Nat.le_refl _
 |cons a l ih=>
  rw[List.foldl_cons]
  refine Nat.le_trans (ih _) ?_
  rcases XA d a with⟨_,h⟩|h
  ·rw[h,List.length_append,List.length_singleton,List.length_cons];omega
  ·rw[h,List.length_cons];omega
theorem ZQ {d:bF} {a:dR} (h1:d.state.az.length=1) (hk:a.kind=4) (h:(lq d a).2=0):∃b,(lq d a).1.state.az=[b]∧b.clock.jL=true∧(lq d a).1.actions=d.actions++[a]:=by
 unfold lq at h ⊢
 by_cases h0:Ea d a=0
 case neg=>rw[if_pos h0]at h;exact absurd h h0
 rw[if_neg (fun q=>q h0)]at h ⊢
 by_cases hr:(jX d (lN d d.state a.time) a).2=0
 case neg=>rw[if_pos hr]at h;exact absurd h hr
 rw[if_neg (fun q=>q hr)]
 obtain⟨s,hs⟩:∃s,s=lN d d.state a.time:=⟨_,rfl⟩
 have hl:s.az.length=1:=by
  have:=congrArg List.length (Pk d d.state a.time)
  rw[List.length_map,List.length_map,←hs]at this
  omega
 rw[←hs]at hr ⊢
 obtain⟨b,hb⟩:∃b,s.az=[b]:=by
  cases hq:s.az with
  |nil=>rw[hq]at hl;cases hl
  |cons b r=>
   cases r with
   |nil=>exact⟨b,rfl⟩
   |cons c r=>rw[hq]at hl;simp at hl
 have hi:(jZ (fun b:bf=>decide (b.number=a.iN)) s.az).toNat=0:=by
  rcases zk (fun b:bf=>decide (b.number=a.iN)) s.az with⟨q,_,_⟩|⟨k,x,q1,_,q2,_,_⟩
  ·rw[q];rfl
  ·have:=(List.getElem?_eq_some_iff.1 q1).1
   rw[q2];omega
 have hA:jX d s a=FZ d s a 0 b:=by
  unfold jX
  rw[if_neg (by omega),if_neg (by omega),hi,hb]
  rfl
 rw[hA]at hr ⊢
 unfold FZ at hr ⊢
 rw[if_neg (by omega),if_neg (by omega),if_neg (by omega),if_pos hk]at hr ⊢
 by_cases hq:b.clock.jL=true∨b.bQ<0
 ·rw[if_pos hq]at hr;exact absurd hr (by show ¬(10:Int)=0;decide)
 ·rw[if_neg hq]
  exact⟨_,by show s.az.set 0 _=_;rw[hb];rfl,rfl,rfl⟩
theorem still {d:bF} {b:bf} (hb:d.state.az=[b]) (hst:b.clock.jL=true) (t:Int):lN d d.state t=d.state:=by
 have hd:gK b=-1:=by unfold gK;rw[if_pos (.inr hst)]
 have hn:yI d t d.state=none:=by
  unfold yI
  rw[hb]
  have:qH t [b] 0 (-1,0)=(-1,0):=by
   show zx t 0 b (-1,0)=_
   unfold zx
   rw[hd,if_neg (by omega)]
  rw[this]
  exact if_pos (by decide)
 unfold lN
 cases wB d.state.az with
 |zero=>rfl
 |succ n=>unfold yy;rw[hn]
theorem ahN {d:bF} {b:bf} (hb:d.state.az=[b]) (hst:b.clock.jL=true) {t u:Int} (ht:sU d.actions t=0) (hu:sU d.actions u=0):rW d t=rW d u:=by
 unfold rW
 rw[if_neg (fun q=>q ht),if_neg (fun q=>q hu),still hb hst t,still hb hst u]
 have key:∀k,oK d d.state.az k t=oK d d.state.az k u:=by
  intro k
  have hc:∀v,dm b.clock v=b.clock.shown:=fun v=>by unfold dm;rw[if_pos hst]
  unfold oK
  rw[hb]
  simp only[List.foldl_cons,List.foldl_nil,oS,hc]
 simp only[rU,key]
theorem Yk {l:List dR} {t:Int} (h1:0≤t∧t≤36000000) (h2:iy l≤t):sU l t=0:=by
 unfold sU
 rw[if_pos (CG h1.1 h1.2),decide_eq_false (by omega)]
 rfl
theorem alr {s:fU} (h:uT s):uT {s with bk:=s.bk.take 1}:=by
 obtain⟨h1,h2,h3,h4⟩:=h
 refine⟨h1,h2,h3,?_,fun x hx=>h4.2 x (List.mem_of_mem_take hx)⟩
 show(s.bk.take 1).length≤aW
 rw[List.length_take];unfold aW;omega
theorem abZ {s:fU} {l:List dR} {n:Int} {σ:Heap} (h:uT s∧eZ LH l∧aN n):Uh [.agg (bB s),sl 5 bE l,.int .i64 n] σ=some (.bool true,σ):=by
 obtain⟨hs0,hl,hn⟩:=h
 refine alO rfl (iV (qJ rfl) rfl) ?_
 unfold Ui
 rw[show A.cells 5 (.agg (bB s))=some (bB s)from rfl,bS,show A.aj 4 (bB s)=some (sl 3 bO s.bk)from rfl,bS,fE,bS,iH,bS]
 by_cases he:(s.bk.length:Int)=0
 ·rw[decide_eq_true he,cQ]
  exact bC _ _
 rw[decide_eq_false he,cB,bS]
 have hlen:1≤s.bk.length:=by omega
 rw[show A.zL 3 (sl 3 bO s.bk) none (some (.int .i64 1)) σ=some (sl 3 bO (s.bk.take 1))from VG 3 bO s.bk (k:=1) hlen,bS]
 obtain⟨s1,hs1⟩:∃s1:fU,s1={s with bk:=s.bk.take 1}:=⟨_,rfl⟩
 have hs:uT s1:=by rw[hs1];exact alr hs0
 have hp1:s1.bk.length=1:=by rw[hs1];simp;omega
 rw[show((A.cell (sl 3 bO (s.bk.take 1))).bind fun v=>some [v])=some [sl 3 bO (s.bk.take 1)]from rfl,bS,show A.splice 4 [sl 3 bO (s.bk.take 1)] (bB s)=some (bB s1)from by rw[hs1];rfl,bS,show A.ay 0 5 (bB s1)=some (.agg (bB s1))from rfl,bS]
 by_cases h0:BM s1=0
 case neg=>
  rw[akU hs h0,bS]
  simp only
  rw[kU,bS,ext1,bS,gC,bS,decide_eq_true h0]
  simp only[xD,gU,gT,bS,lz,mM,cT,show A.eql .p .np .np=some (.bool true)from rfl]
  exact Rk true (HQ (B:=bP) σ)
 obtain⟨id,W1,n1,K1⟩:=alT hs h0 (HQ (B:=bP) σ)
 have hO:=aax hs h0
 have hK0:=aiJ hO
 have hK:=akD hK0 l
 rw[n1,bS]
 simp only
 rw[kU,bS,ext1,bS,gC,bS,decide_eq_false (fun q=>q rfl)]
 simp only[gF,ux,gU,bS,mM,lz,cF,show A.eql .p (.op id 0) .np=some (.bool false)from rfl,fE]
 obtain⟨W2,l1,K2⟩:=ai2 (Q:=emp) (va:=sl 5 bE l) (pd:=.op id 0) (u:=.lbx (bB s1)) (l:=l) (fun H _ _ hx=>akH l H hx) hl.1 hK0 (hs_eq (ym _).symm K1)
 refine(congrArg (fun z=>Option.bind z _) l1).trans ?_
 rw[bS]
 have hcn:=akE (kr s1) l
 obtain⟨d,hd⟩:∃d,d=tg (kr s1) l:=⟨_,rfl⟩
 rw[←hd]at K2 hK hcn
 have hdk:d.keys.length≤1000000:=by rw[hd,(Ye (kr s1) l).2.1];exact aho hO
 have rV:d.setup=s1:=by rw[hd,(Ye (kr s1) l).1];rfl
 have Tu:d.state.az.length=1:=by
  have:=congrArg List.length hK.MS
  rw[List.length_map,List.length_map,rV]at this
  omega
 have K2:=hs_eq (ym _) K2
 have t1:=akX hK.len K2
 simp only[mJ,t1,bS,List.getD_cons_zero,hG,show A.aj 4 (bB s1)=some (sl 3 bO s1.bk)from rfl]
 have yX:s1.bk[0]? =some (s1.bk[0]'(by omega)):=List.getElem?_eq_getElem _
 obtain⟨p,hp⟩:∃p,p=s1.bk[0]'(by omega):=⟨_,rfl⟩
 rw[←hp]at yX
 rw[show A.aU 3 (sl 3 bO s1.bk) (.int .i64 0)=some (.rp (bO p))from iO (i:=0) yX,bS,kV,bS,nv,bS,show A.aj 0 ((bO p).drop 0)=some (.int .i64 p.number)from rfl,bS]
 obtain⟨a,ha⟩:∃a:dR,a=⟨iy d.actions,4,p.number,0,0⟩:=⟨_,rfl⟩
 rw[show((((A.cell (AV.int .i64 4)).bind fun v=>some [v]).bind fun pQ=>(A.splice 1 pQ [ah,ah,ah,ah,ah]).bind fun D6=>((A.cell (.int .i64 (iy d.actions))).bind fun v=>some [v]).bind fun xu=>(A.splice 0 xu D6).bind fun D7=>((A.cell (.int .i64 p.number)).bind fun v=>some [v]).bind fun gZ=>(A.splice 2 gZ D7).bind fun mG=>some mG).bind fun cs=>some (AV.agg cs))=some (.agg (bE a))from by rw[ha];rfl,bS]
 obtain⟨W3,d1,K3⟩:=aaH hK a (hs_eq (show _=lX (.op id 0) d*emp by ac_rfl) K2)
 have Tr:=Q1 hK a
 rw[d1,bS]
 simp only
 rw[gC,bS]
 by_cases hf:(lq d a).2=0
 case neg=>
  rw[decide_eq_true hf,cQ]
  have hsame:(lq d a).1=d:=by
   rcases XA d a with⟨q,_⟩|q
   ·exact absurd q hf
   ·exact q
  rw[hsame]at K3
  obtain⟨va,W4,a1,K4⟩:=agI hK.len K3
  rw[a1,bS]
  simp only
  rw[ZV K4,bS,Ia,bS,decide_eq_true (by have:(kr s1).actions.length=0:=rfl;omega)]
  exact Rk true K4
 rw[decide_eq_false (fun q=>q hf),cB]
 obtain⟨b,b1,b2,b3⟩:=ZQ Tu (by rw[ha]) hf
 obtain⟨e,he'⟩:∃e,e=(lq d a).1:=⟨_,rfl⟩
 rw[←he']at b1 b3 K3 Tr
 have I8:e.keys.length≤1000000:=by rw[he',(XB d a).2.1];exact hdk
 have hte:iy e.actions=iy d.actions:=by
  rw[b3]
  have:iy (d.actions++[a])=a.time:=by unfold iy;simp
  rw[this,ha]
 have hn0:=hK.si.n
 have z1:sU e.actions (iy d.actions)=0:=Yk hn0 (by omega)
 obtain⟨v1,W4,e1,K4⟩:=Wq Tr I8 (iy d.actions) K3
 rw[e1,bS]
 simp only
 rw[kU,bS,ext1,bS,show A.rem (.int .i64 n) (.int .i64 36000000)=some (.int .i64 (n.tmod 36000000))from rfl,bS]
 have hm:-36000000<n.tmod 36000000∧n.tmod 36000000<36000000:=by
  rcases Int.le_total 0 n with h|h
  ·rw[Int.tmod_eq_emod_of_nonneg h];omega
  ·have:n.tmod 36000000=-((-n).tmod 36000000):=by rw[Int.neg_tmod];omega
   rw[this,Int.tmod_eq_emod_of_nonneg (by omega)];omega
 obtain⟨m,hmm⟩:∃m,m=n.tmod 36000000:=⟨_,rfl⟩
 rw[←hmm]at hm ⊢
 obtain⟨m',hm',hm2⟩:∃m':Int,A.max (.int .i64 0) (.int .i64 m)=some (.int .i64 m')∧(0≤m'∧m'<36000000):=⟨if m>0 then m else 0,rfl,by split<;>omega⟩
 rw[hm',bS,kN,bS,show IntKind.i64.wrap (iy d.actions+m')=iy d.actions+m' from wrap64 (by unfold aN;omega),M4,bS]
 have hu:iy d.actions≤mn 36000000 (iy d.actions+m')∧mn 36000000 (iy d.actions+m')≤36000000:=by unfold mn;split<;>omega
 generalize mn 36000000 (iy d.actions+m')=u at hu ⊢
 have z2:sU e.actions u=0:=Yk ⟨by omega,hu.2⟩ (by omega)
 obtain⟨v2,W5,e2,K5⟩:=Wq Tr I8 u (hs_eq (show _=lX (.op id 0) e*(Sl (fl dX) 3 v1 (rW e (iy d.actions)).1*emp) by ac_rfl) K4)
 rw[e2,bS]
 simp only
 have hlv:=ahN b1 b2 z1 z2
 have f1:(rW e (iy d.actions)).2=0:=by unfold rW;rw[if_neg (fun q=>q z1)]
 rw[←hlv]at K5 ⊢
 rw[kU,bS,ext1,bS,f1,iH,bS,decide_eq_true rfl]
 have q1:=ahJ (aiy I8 (iy d.actions)) (hs_eq (show _=Sl (fl dX) 3 v1 (rW e (iy d.actions)).1*(Sl (fl dX) 3 v2 (rW e (iy d.actions)).1*(lX (.op id 0) e*emp)) by ac_rfl) K5) K5
 simp only[gT,bS,iH,decide_true,lz,quiet_of q1]
 exact Rk true K5
theorem ab0 (s:fU) (l:List dR) (n:Int) (hs:uT s) (hl:eZ LH l) (hn:aN n):uT s∧eZ LH l∧aN n:=⟨hs,hl,hn⟩
end
section
open Go.ChangeShapes Go.WideShapes Go.ChangeAt Go.RowKit
theorem own:ownKnob Tryz.prog.godebug=none:=by kernel_rfl
theorem laidOut:laidOutB Tryz.prog=true:=by kernel_rfl
theorem U5 {H:Type} {enc:TypeId×Value→H} {P:Program} (hl:laidOutB P=true) {W W':World} (hb:Below W.heap.size W W'):
  ∀{ts:List TypeId} {vs:List Value} {ds:List (DataW H)} {ps:List MemPlace},(ts.all fun t=>P.readableRec t&&decide (t<P.types.size))=true→
   DataW.TrodAll enc P W 0 (fun _=>true) true ts vs ds ps→(∀x∈ps,x.block<W.heap.size)→DataW.TrodAll enc P W' 0 (fun b=>decide (b<W.heap.size)) true ts vs ds ps
 |[],[],[],_,_,h,_=>h
 |t::ts,v::vs,d::ds,ps,hts,h,hlt=>by
  obtain⟨p,q,h1,h2,rfl⟩:=h
  simp only[List.all_cons,Bool.and_eq_true,decide_eq_true_eq]at hts
  exact⟨p,q,Below.trod hl hts.1.1 hts.1.2 h1 hb (fun x hx=>hlt x (List.mem_append_left _ hx)),
   U5 hl hb (by simpa using hts.2) h2 (fun x hx=>hlt x (List.mem_append_right _ hx)),rfl⟩
 |[],_::_,_,_,_,h,_=>h.elim
 |[],[],_::_,_,_,h,_=>h.elim
 |_::_,[],_,_,_,h,_=>h.elim
 |_::_,_::_,[],_,_,h,_=>h.elim
theorem aix {H:Type} {enc:TypeId×Value→H} {f:Func} {s:ChangeSpec} {W W':World} {args:Array Value} {ds gs:List (DataW H)} {before:List MemPlace} {t:TypeId}
  (hts:(f.params.toList.all fun t=>Tryz.prog.readableRec t&&decide (t<Tryz.prog.types.size))=true) (A5:f.resultTypes=#[t]) (ht:Tryz.prog.underlying t=some .bool) (hvs:s.vars=[])
  (hW:DataW.Whole enc Tryz.prog f.params.toList s.vars false W args.toList ds gs before) (hb:Below W.heap.size W W')
  (Rs:s.fn H (ds++gs)={results:=[.lit (.bool true)],args:=ds}):
  s.post enc Tryz.prog f false true false false W args (.bool true) W':=by
 have Na:=hW
 obtain⟨p,q,hA,hV,rfl,hfz,hnd⟩:=hW
 have hlt:∀x∈p++q,x.block<W.heap.size:=fun x hx=>Na.lt x hx
 refine⟨ds,gs,p++q,[],p,[],Na,?_,?_,?_,hb.frame _,fun h=>by cases h⟩
 ·rw[Rs,A5]
  exact trodAll_cons_mk (shut_bool ht _) trodAll_mk0
 ·rw[Rs]
  exact U5 laidOut hb hts hA (fun x hx=>hlt x (List.mem_append_left _ hx))
 ·rw[Rs,hvs]
  exact rfl
end
section
open Go.RowKit
def Gr (w w':World):Prop:=Below w.heap.size w w'
theorem Gr.refl (w:World):Gr w w:=Below.refl _ _
theorem Gr.below {w w':World} (h:Gr w w'):Below w.heap.size w w':=h
theorem Gr.of {w w':World} (h:Below w.heap.size w w'):Gr w w':=h
theorem Gr.trans {a b c:World} (h:Gr a b) (k:Gr b c):Gr a c:=Below.trans h (Below.mono k (Below.size h))
theorem Gr.alloc {a b:World} (h:Gr a b) (o:Obj):Gr a (b.alloc o):=Below.alloc h (Below.size h) o
theorem Gr.drew {a b:World} (h:Gr a b):Gr a b.drew:=Below.drew h
theorem Gr.drewN {a b:World} (h:Gr a b) (n:Nat):Gr a (b.drewN n):=⟨h.os,h.tape,h.output,h.size,h.block⟩
theorem Gr.set {a b:World} (h:Gr a b) {k o:Nat} (hp:a.heap.size≤k) (u:Value):Gr a (b.setCell ⟨k,o,none⟩ u):=Below.setCell h hp u
theorem Gr.put {a b:World} {k o:Nat} (hp:a.heap.size≤k) (h:Gr a b) (u:Value):Gr a (b.setCell ⟨k,o,none⟩ u):=Below.setCell h hp u
theorem Gr.after {a b c:World} (k:Gr b c) (h:Gr a b):Gr a c:=h.trans k
theorem Gr.size {a b:World} (h:Gr a b):a.heap.size≤b.heap.size:=Below.size h
theorem Gr.cell {a b:World} (h:Gr a b) {p:Addr} {v:Value} (hc:a.cell? p=some v):b.cell? p=some v:=by
 by_cases hp:p.block<a.heap.size
 ·rw[Below.cell h hp];exact hc
 ·have:a.heap[p.block]? =none:=Array.getElem?_eq_none (by omega)
  simp [World.cell?,this]at hc
theorem Gr.free {a b:World} (h:Gr a b) {p:Addr} (hp:p.block<a.heap.size) {x:Bool} (hc:a.frozen? p=x):b.frozen? p=x:=by
 rw[Below.frozen h hp];exact hc
theorem Gr.lt {w w1:World} {o:Obj} (h:Gr (w.alloc o) w1):w.heap.size<w1.heap.size:=by have:=h.size;simp at this;omega
abbrev B0 (w:World) (b:Nat) (v0:Value):Prop:=(w.cell? ⟨b,0,none⟩=some v0)∧(w.frozen? ⟨b,0,none⟩=false)∧b<w.heap.size
theorem B0.mono {w w1:World} {b:Nat} {v0:Value} (k:B0 w b v0) (h:Gr w w1):B0 w1 b v0:=by
 obtain⟨k0,f0,hlt⟩:=k
 exact⟨h.cell k0,h.free (by exact hlt) f0,Nat.lt_of_lt_of_le hlt h.size⟩
theorem B0.of {w:World} {b:Nat} {v0:Value} {t:TypeId} (h:w.heap[b]? =some (.cells #[v0] t (0,0))):B0 w b v0:=by
 have hlt:b<w.heap.size:=(Array.getElem?_eq_some_iff.1 h).1
 refine⟨?_,?_,hlt⟩<;>simp [World.cell?,World.frozen?,h]
theorem B0.at {w w1:World} {b:Nat} {v0:Value} {t:TypeId} (g:Gr w w1) (h:w.heap[b]? =some (.cells #[v0] t (0,0))):B0 w1 b v0:=(B0.of h).mono g
abbrev B3 (w:World) (b:Nat) (v0 v1:Value):Prop:=(w.cell? ⟨b,0,none⟩=some v0∧w.cell? ⟨b,1,none⟩=some v1)∧(w.frozen? ⟨b,0,none⟩=false∧w.frozen? ⟨b,1,none⟩=false)∧b<w.heap.size
theorem B3.mono {w w1:World} {b:Nat} {v0 v1:Value} (k:B3 w b v0 v1) (h:Gr w w1):B3 w1 b v0 v1:=by
 obtain⟨⟨k0,k1⟩,⟨f0,f1⟩,hlt⟩:=k
 exact⟨⟨h.cell k0,h.cell k1⟩,⟨h.free (by exact hlt) f0,h.free (by exact hlt) f1⟩,Nat.lt_of_lt_of_le hlt h.size⟩
theorem B3.of {w:World} {b:Nat} {v0 v1:Value} {t:TypeId} (h:w.heap[b]? =some (.cells #[v0,v1] t (0,0))):B3 w b v0 v1:=by
 have hlt:b<w.heap.size:=(Array.getElem?_eq_some_iff.1 h).1
 refine⟨⟨?_,?_⟩,⟨?_,?_⟩,hlt⟩<;>simp [World.cell?,World.frozen?,h]
theorem B3.at {w w1:World} {b:Nat} {v0 v1:Value} {t:TypeId} (g:Gr w w1) (h:w.heap[b]? =some (.cells #[v0,v1] t (0,0))):B3 w1 b v0 v1:=(B3.of h).mono g
abbrev B4 (w:World) (b:Nat) (v0 v1 v2:Value):Prop:=(w.cell? ⟨b,0,none⟩=some v0∧w.cell? ⟨b,1,none⟩=some v1∧w.cell? ⟨b,2,none⟩=some v2)∧(w.frozen? ⟨b,0,none⟩=false∧w.frozen? ⟨b,1,none⟩=false∧w.frozen? ⟨b,2,none⟩=false)∧b<w.heap.size
theorem B4.mono {w w1:World} {b:Nat} {v0 v1 v2:Value} (k:B4 w b v0 v1 v2) (h:Gr w w1):B4 w1 b v0 v1 v2:=by
 obtain⟨⟨k0,k1,k2⟩,⟨f0,f1,f2⟩,hlt⟩:=k
 exact⟨⟨h.cell k0,h.cell k1,h.cell k2⟩,⟨h.free (by exact hlt) f0,h.free (by exact hlt) f1,h.free (by exact hlt) f2⟩,Nat.lt_of_lt_of_le hlt h.size⟩
theorem B4.of {w:World} {b:Nat} {v0 v1 v2:Value} {t:TypeId} (h:w.heap[b]? =some (.cells #[v0,v1,v2] t (0,0))):B4 w b v0 v1 v2:=by
 have hlt:b<w.heap.size:=(Array.getElem?_eq_some_iff.1 h).1
 refine⟨⟨?_,?_,?_⟩,⟨?_,?_,?_⟩,hlt⟩<;>simp [World.cell?,World.frozen?,h]
theorem B4.at {w w1:World} {b:Nat} {v0 v1 v2:Value} {t:TypeId} (g:Gr w w1) (h:w.heap[b]? =some (.cells #[v0,v1,v2] t (0,0))):B4 w1 b v0 v1 v2:=(B4.of h).mono g
abbrev B5 (w:World) (b:Nat) (v0 v1 v2 v3:Value):Prop:=(w.cell? ⟨b,0,none⟩=some v0∧w.cell? ⟨b,1,none⟩=some v1∧w.cell? ⟨b,2,none⟩=some v2∧w.cell? ⟨b,3,none⟩=some v3)∧(w.frozen? ⟨b,0,none⟩=false∧w.frozen? ⟨b,1,none⟩=false∧w.frozen? ⟨b,2,none⟩=false∧w.frozen? ⟨b,3,none⟩=false)∧b<w.heap.size
theorem B5.mono {w w1:World} {b:Nat} {v0 v1 v2 v3:Value} (k:B5 w b v0 v1 v2 v3) (h:Gr w w1):B5 w1 b v0 v1 v2 v3:=by
 obtain⟨⟨k0,k1,k2,k3⟩,⟨f0,f1,f2,f3⟩,hlt⟩:=k
 exact⟨⟨h.cell k0,h.cell k1,h.cell k2,h.cell k3⟩,⟨h.free (by exact hlt) f0,h.free (by exact hlt) f1,h.free (by exact hlt) f2,h.free (by exact hlt) f3⟩,Nat.lt_of_lt_of_le hlt h.size⟩
theorem B5.of {w:World} {b:Nat} {v0 v1 v2 v3:Value} {t:TypeId} (h:w.heap[b]? =some (.cells #[v0,v1,v2,v3] t (0,0))):B5 w b v0 v1 v2 v3:=by
 have hlt:b<w.heap.size:=(Array.getElem?_eq_some_iff.1 h).1
 refine⟨⟨?_,?_,?_,?_⟩,⟨?_,?_,?_,?_⟩,hlt⟩<;>simp [World.cell?,World.frozen?,h]
theorem B5.at {w w1:World} {b:Nat} {v0 v1 v2 v3:Value} {t:TypeId} (g:Gr w w1) (h:w.heap[b]? =some (.cells #[v0,v1,v2,v3] t (0,0))):B5 w1 b v0 v1 v2 v3:=(B5.of h).mono g
abbrev B6 (w:World) (b:Nat) (v0 v1 v2 v3 v4:Value):Prop:=(w.cell? ⟨b,0,none⟩=some v0∧w.cell? ⟨b,1,none⟩=some v1∧w.cell? ⟨b,2,none⟩=some v2∧w.cell? ⟨b,3,none⟩=some v3∧w.cell? ⟨b,4,none⟩=some v4)∧(w.frozen? ⟨b,0,none⟩=false∧w.frozen? ⟨b,1,none⟩=false∧w.frozen? ⟨b,2,none⟩=false∧w.frozen? ⟨b,3,none⟩=false∧w.frozen? ⟨b,4,none⟩=false)∧b<w.heap.size
theorem B6.mono {w w1:World} {b:Nat} {v0 v1 v2 v3 v4:Value} (k:B6 w b v0 v1 v2 v3 v4) (h:Gr w w1):B6 w1 b v0 v1 v2 v3 v4:=by
 obtain⟨⟨k0,k1,k2,k3,k4⟩,⟨f0,f1,f2,f3,f4⟩,hlt⟩:=k
 exact⟨⟨h.cell k0,h.cell k1,h.cell k2,h.cell k3,h.cell k4⟩,⟨h.free (by exact hlt) f0,h.free (by exact hlt) f1,h.free (by exact hlt) f2,h.free (by exact hlt) f3,h.free (by exact hlt) f4⟩,Nat.lt_of_lt_of_le hlt h.size⟩
theorem B6.of {w:World} {b:Nat} {v0 v1 v2 v3 v4:Value} {t:TypeId} (h:w.heap[b]? =some (.cells #[v0,v1,v2,v3,v4] t (0,0))):B6 w b v0 v1 v2 v3 v4:=by
 have hlt:b<w.heap.size:=(Array.getElem?_eq_some_iff.1 h).1
 refine⟨⟨?_,?_,?_,?_,?_⟩,⟨?_,?_,?_,?_,?_⟩,hlt⟩<;>simp [World.cell?,World.frozen?,h]
theorem B6.at {w w1:World} {b:Nat} {v0 v1 v2 v3 v4:Value} {t:TypeId} (g:Gr w w1) (h:w.heap[b]? =some (.cells #[v0,v1,v2,v3,v4] t (0,0))):B6 w1 b v0 v1 v2 v3 v4:=(B6.of h).mono g
abbrev B7 (w:World) (b:Nat) (v0 v1 v2 v3 v4 v5:Value):Prop:=(w.cell? ⟨b,0,none⟩=some v0∧w.cell? ⟨b,1,none⟩=some v1∧w.cell? ⟨b,2,none⟩=some v2∧w.cell? ⟨b,3,none⟩=some v3∧w.cell? ⟨b,4,none⟩=some v4∧w.cell? ⟨b,5,none⟩=some v5)∧(w.frozen? ⟨b,0,none⟩=false∧w.frozen? ⟨b,1,none⟩=false∧w.frozen? ⟨b,2,none⟩=false∧w.frozen? ⟨b,3,none⟩=false∧w.frozen? ⟨b,4,none⟩=false∧w.frozen? ⟨b,5,none⟩=false)∧b<w.heap.size
theorem B7.mono {w w1:World} {b:Nat} {v0 v1 v2 v3 v4 v5:Value} (k:B7 w b v0 v1 v2 v3 v4 v5) (h:Gr w w1):B7 w1 b v0 v1 v2 v3 v4 v5:=by
 obtain⟨⟨k0,k1,k2,k3,k4,k5⟩,⟨f0,f1,f2,f3,f4,f5⟩,hlt⟩:=k
 exact⟨⟨h.cell k0,h.cell k1,h.cell k2,h.cell k3,h.cell k4,h.cell k5⟩,⟨h.free (by exact hlt) f0,h.free (by exact hlt) f1,h.free (by exact hlt) f2,h.free (by exact hlt) f3,h.free (by exact hlt) f4,h.free (by exact hlt) f5⟩,Nat.lt_of_lt_of_le hlt h.size⟩
theorem B7.of {w:World} {b:Nat} {v0 v1 v2 v3 v4 v5:Value} {t:TypeId} (h:w.heap[b]? =some (.cells #[v0,v1,v2,v3,v4,v5] t (0,0))):B7 w b v0 v1 v2 v3 v4 v5:=by
 have hlt:b<w.heap.size:=(Array.getElem?_eq_some_iff.1 h).1
 refine⟨⟨?_,?_,?_,?_,?_,?_⟩,⟨?_,?_,?_,?_,?_,?_⟩,hlt⟩<;>simp [World.cell?,World.frozen?,h]
theorem B7.at {w w1:World} {b:Nat} {v0 v1 v2 v3 v4 v5:Value} {t:TypeId} (g:Gr w w1) (h:w.heap[b]? =some (.cells #[v0,v1,v2,v3,v4,v5] t (0,0))):B7 w1 b v0 v1 v2 v3 v4 v5:=(B7.of h).mono g
abbrev B8 (w:World) (b:Nat) (v0 v1 v2 v3 v4 v5 v6:Value):Prop:=(w.cell? ⟨b,0,none⟩=some v0∧w.cell? ⟨b,1,none⟩=some v1∧w.cell? ⟨b,2,none⟩=some v2∧w.cell? ⟨b,3,none⟩=some v3∧w.cell? ⟨b,4,none⟩=some v4∧w.cell? ⟨b,5,none⟩=some v5∧w.cell? ⟨b,6,none⟩=some v6)∧(w.frozen? ⟨b,0,none⟩=false∧w.frozen? ⟨b,1,none⟩=false∧w.frozen? ⟨b,2,none⟩=false∧w.frozen? ⟨b,3,none⟩=false∧w.frozen? ⟨b,4,none⟩=false∧w.frozen? ⟨b,5,none⟩=false∧w.frozen? ⟨b,6,none⟩=false)∧b<w.heap.size
theorem B8.mono {w w1:World} {b:Nat} {v0 v1 v2 v3 v4 v5 v6:Value} (k:B8 w b v0 v1 v2 v3 v4 v5 v6) (h:Gr w w1):B8 w1 b v0 v1 v2 v3 v4 v5 v6:=by
 obtain⟨⟨k0,k1,k2,k3,k4,k5,k6⟩,⟨f0,f1,f2,f3,f4,f5,f6⟩,hlt⟩:=k
 exact⟨⟨h.cell k0,h.cell k1,h.cell k2,h.cell k3,h.cell k4,h.cell k5,h.cell k6⟩,⟨h.free (by exact hlt) f0,h.free (by exact hlt) f1,h.free (by exact hlt) f2,h.free (by exact hlt) f3,h.free (by exact hlt) f4,h.free (by exact hlt) f5,h.free (by exact hlt) f6⟩,Nat.lt_of_lt_of_le hlt h.size⟩
theorem B8.of {w:World} {b:Nat} {v0 v1 v2 v3 v4 v5 v6:Value} {t:TypeId} (h:w.heap[b]? =some (.cells #[v0,v1,v2,v3,v4,v5,v6] t (0,0))):B8 w b v0 v1 v2 v3 v4 v5 v6:=by
 have hlt:b<w.heap.size:=(Array.getElem?_eq_some_iff.1 h).1
 refine⟨⟨?_,?_,?_,?_,?_,?_,?_⟩,⟨?_,?_,?_,?_,?_,?_,?_⟩,hlt⟩<;>simp [World.cell?,World.frozen?,h]
theorem B8.at {w w1:World} {b:Nat} {v0 v1 v2 v3 v4 v5 v6:Value} {t:TypeId} (g:Gr w w1) (h:w.heap[b]? =some (.cells #[v0,v1,v2,v3,v4,v5,v6] t (0,0))):B8 w1 b v0 v1 v2 v3 v4 v5 v6:=(B8.of h).mono g
abbrev B9 (w:World) (b:Nat) (v0 v1 v2 v3 v4 v5 v6 v7:Value):Prop:=(w.cell? ⟨b,0,none⟩=some v0∧w.cell? ⟨b,1,none⟩=some v1∧w.cell? ⟨b,2,none⟩=some v2∧w.cell? ⟨b,3,none⟩=some v3∧w.cell? ⟨b,4,none⟩=some v4∧w.cell? ⟨b,5,none⟩=some v5∧w.cell? ⟨b,6,none⟩=some v6∧w.cell? ⟨b,7,none⟩=some v7)∧(w.frozen? ⟨b,0,none⟩=false∧w.frozen? ⟨b,1,none⟩=false∧w.frozen? ⟨b,2,none⟩=false∧w.frozen? ⟨b,3,none⟩=false∧w.frozen? ⟨b,4,none⟩=false∧w.frozen? ⟨b,5,none⟩=false∧w.frozen? ⟨b,6,none⟩=false∧w.frozen? ⟨b,7,none⟩=false)∧b<w.heap.size
theorem B9.mono {w w1:World} {b:Nat} {v0 v1 v2 v3 v4 v5 v6 v7:Value} (k:B9 w b v0 v1 v2 v3 v4 v5 v6 v7) (h:Gr w w1):B9 w1 b v0 v1 v2 v3 v4 v5 v6 v7:=by
 obtain⟨⟨k0,k1,k2,k3,k4,k5,k6,k7⟩,⟨f0,f1,f2,f3,f4,f5,f6,f7⟩,hlt⟩:=k
 exact⟨⟨h.cell k0,h.cell k1,h.cell k2,h.cell k3,h.cell k4,h.cell k5,h.cell k6,h.cell k7⟩,⟨h.free (by exact hlt) f0,h.free (by exact hlt) f1,h.free (by exact hlt) f2,h.free (by exact hlt) f3,h.free (by exact hlt) f4,h.free (by exact hlt) f5,h.free (by exact hlt) f6,h.free (by exact hlt) f7⟩,Nat.lt_of_lt_of_le hlt h.size⟩
theorem B9.of {w:World} {b:Nat} {v0 v1 v2 v3 v4 v5 v6 v7:Value} {t:TypeId} (h:w.heap[b]? =some (.cells #[v0,v1,v2,v3,v4,v5,v6,v7] t (0,0))):B9 w b v0 v1 v2 v3 v4 v5 v6 v7:=by
 have hlt:b<w.heap.size:=(Array.getElem?_eq_some_iff.1 h).1
 refine⟨⟨?_,?_,?_,?_,?_,?_,?_,?_⟩,⟨?_,?_,?_,?_,?_,?_,?_,?_⟩,hlt⟩<;>simp [World.cell?,World.frozen?,h]
theorem B9.at {w w1:World} {b:Nat} {v0 v1 v2 v3 v4 v5 v6 v7:Value} {t:TypeId} (g:Gr w w1) (h:w.heap[b]? =some (.cells #[v0,v1,v2,v3,v4,v5,v6,v7] t (0,0))):B9 w1 b v0 v1 v2 v3 v4 v5 v6 v7:=(B9.of h).mono g
abbrev Ca (w:World) (b:Nat) (v0 v1 v2 v3 v4 v5 v6 v7 v8:Value):Prop:=(w.cell? ⟨b,0,none⟩=some v0∧w.cell? ⟨b,1,none⟩=some v1∧w.cell? ⟨b,2,none⟩=some v2∧w.cell? ⟨b,3,none⟩=some v3∧w.cell? ⟨b,4,none⟩=some v4∧w.cell? ⟨b,5,none⟩=some v5∧w.cell? ⟨b,6,none⟩=some v6∧w.cell? ⟨b,7,none⟩=some v7∧w.cell? ⟨b,8,none⟩=some v8)∧(w.frozen? ⟨b,0,none⟩=false∧w.frozen? ⟨b,1,none⟩=false∧w.frozen? ⟨b,2,none⟩=false∧w.frozen? ⟨b,3,none⟩=false∧w.frozen? ⟨b,4,none⟩=false∧w.frozen? ⟨b,5,none⟩=false∧w.frozen? ⟨b,6,none⟩=false∧w.frozen? ⟨b,7,none⟩=false∧w.frozen? ⟨b,8,none⟩=false)∧b<w.heap.size
theorem Ca.mono {w w1:World} {b:Nat} {v0 v1 v2 v3 v4 v5 v6 v7 v8:Value} (k:Ca w b v0 v1 v2 v3 v4 v5 v6 v7 v8) (h:Gr w w1):Ca w1 b v0 v1 v2 v3 v4 v5 v6 v7 v8:=by
 obtain⟨⟨k0,k1,k2,k3,k4,k5,k6,k7,k8⟩,⟨f0,f1,f2,f3,f4,f5,f6,f7,f8⟩,hlt⟩:=k
 exact⟨⟨h.cell k0,h.cell k1,h.cell k2,h.cell k3,h.cell k4,h.cell k5,h.cell k6,h.cell k7,h.cell k8⟩,⟨h.free (by exact hlt) f0,h.free (by exact hlt) f1,h.free (by exact hlt) f2,h.free (by exact hlt) f3,h.free (by exact hlt) f4,h.free (by exact hlt) f5,h.free (by exact hlt) f6,h.free (by exact hlt) f7,h.free (by exact hlt) f8⟩,Nat.lt_of_lt_of_le hlt h.size⟩
theorem Ca.of {w:World} {b:Nat} {v0 v1 v2 v3 v4 v5 v6 v7 v8:Value} {t:TypeId} (h:w.heap[b]? =some (.cells #[v0,v1,v2,v3,v4,v5,v6,v7,v8] t (0,0))):Ca w b v0 v1 v2 v3 v4 v5 v6 v7 v8:=by
 have hlt:b<w.heap.size:=(Array.getElem?_eq_some_iff.1 h).1
 refine⟨⟨?_,?_,?_,?_,?_,?_,?_,?_,?_⟩,⟨?_,?_,?_,?_,?_,?_,?_,?_,?_⟩,hlt⟩<;>simp [World.cell?,World.frozen?,h]
theorem Ca.at {w w1:World} {b:Nat} {v0 v1 v2 v3 v4 v5 v6 v7 v8:Value} {t:TypeId} (g:Gr w w1) (h:w.heap[b]? =some (.cells #[v0,v1,v2,v3,v4,v5,v6,v7,v8] t (0,0))):Ca w1 b v0 v1 v2 v3 v4 v5 v6 v7 v8:=(Ca.of h).mono g
abbrev BN (w:World) (b:Nat) (v0 v1 v2 v3 v4 v5 v6 v7 v8 v9:Value):Prop:=(w.cell? ⟨b,0,none⟩=some v0∧w.cell? ⟨b,1,none⟩=some v1∧w.cell? ⟨b,2,none⟩=some v2∧w.cell? ⟨b,3,none⟩=some v3∧w.cell? ⟨b,4,none⟩=some v4∧w.cell? ⟨b,5,none⟩=some v5∧w.cell? ⟨b,6,none⟩=some v6∧w.cell? ⟨b,7,none⟩=some v7∧w.cell? ⟨b,8,none⟩=some v8∧w.cell? ⟨b,9,none⟩=some v9)∧(w.frozen? ⟨b,0,none⟩=false∧w.frozen? ⟨b,1,none⟩=false∧w.frozen? ⟨b,2,none⟩=false∧w.frozen? ⟨b,3,none⟩=false∧w.frozen? ⟨b,4,none⟩=false∧w.frozen? ⟨b,5,none⟩=false∧w.frozen? ⟨b,6,none⟩=false∧w.frozen? ⟨b,7,none⟩=false∧w.frozen? ⟨b,8,none⟩=false∧w.frozen? ⟨b,9,none⟩=false)∧b<w.heap.size
theorem BN.mono {w w1:World} {b:Nat} {v0 v1 v2 v3 v4 v5 v6 v7 v8 v9:Value} (k:BN w b v0 v1 v2 v3 v4 v5 v6 v7 v8 v9) (h:Gr w w1):BN w1 b v0 v1 v2 v3 v4 v5 v6 v7 v8 v9:=by
 obtain⟨⟨k0,k1,k2,k3,k4,k5,k6,k7,k8,k9⟩,⟨f0,f1,f2,f3,f4,f5,f6,f7,f8,f9⟩,hlt⟩:=k
 exact⟨⟨h.cell k0,h.cell k1,h.cell k2,h.cell k3,h.cell k4,h.cell k5,h.cell k6,h.cell k7,h.cell k8,h.cell k9⟩,⟨h.free (by exact hlt) f0,h.free (by exact hlt) f1,h.free (by exact hlt) f2,h.free (by exact hlt) f3,h.free (by exact hlt) f4,h.free (by exact hlt) f5,h.free (by exact hlt) f6,h.free (by exact hlt) f7,h.free (by exact hlt) f8,h.free (by exact hlt) f9⟩,Nat.lt_of_lt_of_le hlt h.size⟩
theorem BN.of {w:World} {b:Nat} {v0 v1 v2 v3 v4 v5 v6 v7 v8 v9:Value} {t:TypeId} (h:w.heap[b]? =some (.cells #[v0,v1,v2,v3,v4,v5,v6,v7,v8,v9] t (0,0))):BN w b v0 v1 v2 v3 v4 v5 v6 v7 v8 v9:=by
 have hlt:b<w.heap.size:=(Array.getElem?_eq_some_iff.1 h).1
 refine⟨⟨?_,?_,?_,?_,?_,?_,?_,?_,?_,?_⟩,⟨?_,?_,?_,?_,?_,?_,?_,?_,?_,?_⟩,hlt⟩<;>simp [World.cell?,World.frozen?,h]
theorem BN.at {w w1:World} {b:Nat} {v0 v1 v2 v3 v4 v5 v6 v7 v8 v9:Value} {t:TypeId} (g:Gr w w1) (h:w.heap[b]? =some (.cells #[v0,v1,v2,v3,v4,v5,v6,v7,v8,v9] t (0,0))):BN w1 b v0 v1 v2 v3 v4 v5 v6 v7 v8 v9:=(BN.of h).mono g
abbrev BO (w:World) (b:Nat) (v0 v1 v2 v3 v4 v5 v6 v7 v8 v9 v10:Value):Prop:=(w.cell? ⟨b,0,none⟩=some v0∧w.cell? ⟨b,1,none⟩=some v1∧w.cell? ⟨b,2,none⟩=some v2∧w.cell? ⟨b,3,none⟩=some v3∧w.cell? ⟨b,4,none⟩=some v4∧w.cell? ⟨b,5,none⟩=some v5∧w.cell? ⟨b,6,none⟩=some v6∧w.cell? ⟨b,7,none⟩=some v7∧w.cell? ⟨b,8,none⟩=some v8∧w.cell? ⟨b,9,none⟩=some v9∧w.cell? ⟨b,10,none⟩=some v10)∧(w.frozen? ⟨b,0,none⟩=false∧w.frozen? ⟨b,1,none⟩=false∧w.frozen? ⟨b,2,none⟩=false∧w.frozen? ⟨b,3,none⟩=false∧w.frozen? ⟨b,4,none⟩=false∧w.frozen? ⟨b,5,none⟩=false∧w.frozen? ⟨b,6,none⟩=false∧w.frozen? ⟨b,7,none⟩=false∧w.frozen? ⟨b,8,none⟩=false∧w.frozen? ⟨b,9,none⟩=false∧w.frozen? ⟨b,10,none⟩=false)∧b<w.heap.size
theorem BO.mono {w w1:World} {b:Nat} {v0 v1 v2 v3 v4 v5 v6 v7 v8 v9 v10:Value} (k:BO w b v0 v1 v2 v3 v4 v5 v6 v7 v8 v9 v10) (h:Gr w w1):BO w1 b v0 v1 v2 v3 v4 v5 v6 v7 v8 v9 v10:=by
 obtain⟨⟨k0,k1,k2,k3,k4,k5,k6,k7,k8,k9,Ek⟩,⟨f0,f1,f2,f3,f4,f5,f6,f7,f8,f9,f10⟩,hlt⟩:=k
 exact⟨⟨h.cell k0,h.cell k1,h.cell k2,h.cell k3,h.cell k4,h.cell k5,h.cell k6,h.cell k7,h.cell k8,h.cell k9,h.cell Ek⟩,⟨h.free (by exact hlt) f0,h.free (by exact hlt) f1,h.free (by exact hlt) f2,h.free (by exact hlt) f3,h.free (by exact hlt) f4,h.free (by exact hlt) f5,h.free (by exact hlt) f6,h.free (by exact hlt) f7,h.free (by exact hlt) f8,h.free (by exact hlt) f9,h.free (by exact hlt) f10⟩,Nat.lt_of_lt_of_le hlt h.size⟩
theorem BO.of {w:World} {b:Nat} {v0 v1 v2 v3 v4 v5 v6 v7 v8 v9 v10:Value} {t:TypeId} (h:w.heap[b]? =some (.cells #[v0,v1,v2,v3,v4,v5,v6,v7,v8,v9,v10] t (0,0))):BO w b v0 v1 v2 v3 v4 v5 v6 v7 v8 v9 v10:=by
 have hlt:b<w.heap.size:=(Array.getElem?_eq_some_iff.1 h).1
 refine⟨⟨?_,?_,?_,?_,?_,?_,?_,?_,?_,?_,?_⟩,⟨?_,?_,?_,?_,?_,?_,?_,?_,?_,?_,?_⟩,hlt⟩<;>simp [World.cell?,World.frozen?,h]
theorem BO.at {w w1:World} {b:Nat} {v0 v1 v2 v3 v4 v5 v6 v7 v8 v9 v10:Value} {t:TypeId} (g:Gr w w1) (h:w.heap[b]? =some (.cells #[v0,v1,v2,v3,v4,v5,v6,v7,v8,v9,v10] t (0,0))):BO w1 b v0 v1 v2 v3 v4 v5 v6 v7 v8 v9 v10:=(BO.of h).mono g
abbrev BP (w:World) (b:Nat) (v0 v1 v2 v3 v4 v5 v6 v7 v8 v9 v10 v11:Value):Prop:=(w.cell? ⟨b,0,none⟩=some v0∧w.cell? ⟨b,1,none⟩=some v1∧w.cell? ⟨b,2,none⟩=some v2∧w.cell? ⟨b,3,none⟩=some v3∧w.cell? ⟨b,4,none⟩=some v4∧w.cell? ⟨b,5,none⟩=some v5∧w.cell? ⟨b,6,none⟩=some v6∧w.cell? ⟨b,7,none⟩=some v7∧w.cell? ⟨b,8,none⟩=some v8∧w.cell? ⟨b,9,none⟩=some v9∧w.cell? ⟨b,10,none⟩=some v10∧w.cell? ⟨b,11,none⟩=some v11)∧(w.frozen? ⟨b,0,none⟩=false∧w.frozen? ⟨b,1,none⟩=false∧w.frozen? ⟨b,2,none⟩=false∧w.frozen? ⟨b,3,none⟩=false∧w.frozen? ⟨b,4,none⟩=false∧w.frozen? ⟨b,5,none⟩=false∧w.frozen? ⟨b,6,none⟩=false∧w.frozen? ⟨b,7,none⟩=false∧w.frozen? ⟨b,8,none⟩=false∧w.frozen? ⟨b,9,none⟩=false∧w.frozen? ⟨b,10,none⟩=false∧w.frozen? ⟨b,11,none⟩=false)∧b<w.heap.size
theorem BP.mono {w w1:World} {b:Nat} {v0 v1 v2 v3 v4 v5 v6 v7 v8 v9 v10 v11:Value} (k:BP w b v0 v1 v2 v3 v4 v5 v6 v7 v8 v9 v10 v11) (h:Gr w w1):BP w1 b v0 v1 v2 v3 v4 v5 v6 v7 v8 v9 v10 v11:=by
 obtain⟨⟨k0,k1,k2,k3,k4,k5,k6,k7,k8,k9,Ek,Jp⟩,⟨f0,f1,f2,f3,f4,f5,f6,f7,f8,f9,f10,f11⟩,hlt⟩:=k
 exact⟨⟨h.cell k0,h.cell k1,h.cell k2,h.cell k3,h.cell k4,h.cell k5,h.cell k6,h.cell k7,h.cell k8,h.cell k9,h.cell Ek,h.cell Jp⟩,⟨h.free (by exact hlt) f0,h.free (by exact hlt) f1,h.free (by exact hlt) f2,h.free (by exact hlt) f3,h.free (by exact hlt) f4,h.free (by exact hlt) f5,h.free (by exact hlt) f6,h.free (by exact hlt) f7,h.free (by exact hlt) f8,h.free (by exact hlt) f9,h.free (by exact hlt) f10,h.free (by exact hlt) f11⟩,Nat.lt_of_lt_of_le hlt h.size⟩
theorem BP.of {w:World} {b:Nat} {v0 v1 v2 v3 v4 v5 v6 v7 v8 v9 v10 v11:Value} {t:TypeId} (h:w.heap[b]? =some (.cells #[v0,v1,v2,v3,v4,v5,v6,v7,v8,v9,v10,v11] t (0,0))):BP w b v0 v1 v2 v3 v4 v5 v6 v7 v8 v9 v10 v11:=by
 have hlt:b<w.heap.size:=(Array.getElem?_eq_some_iff.1 h).1
 refine⟨⟨?_,?_,?_,?_,?_,?_,?_,?_,?_,?_,?_,?_⟩,⟨?_,?_,?_,?_,?_,?_,?_,?_,?_,?_,?_,?_⟩,hlt⟩<;>simp [World.cell?,World.frozen?,h]
theorem BP.at {w w1:World} {b:Nat} {v0 v1 v2 v3 v4 v5 v6 v7 v8 v9 v10 v11:Value} {t:TypeId} (g:Gr w w1) (h:w.heap[b]? =some (.cells #[v0,v1,v2,v3,v4,v5,v6,v7,v8,v9,v10,v11] t (0,0))):BP w1 b v0 v1 v2 v3 v4 v5 v6 v7 v8 v9 v10 v11:=(BP.of h).mono g
abbrev BQ (w:World) (b:Nat) (v0 v1 v2 v3 v4 v5 v6 v7 v8 v9 v10 v11 v12:Value):Prop:=(w.cell? ⟨b,0,none⟩=some v0∧w.cell? ⟨b,1,none⟩=some v1∧w.cell? ⟨b,2,none⟩=some v2∧w.cell? ⟨b,3,none⟩=some v3∧w.cell? ⟨b,4,none⟩=some v4∧w.cell? ⟨b,5,none⟩=some v5∧w.cell? ⟨b,6,none⟩=some v6∧w.cell? ⟨b,7,none⟩=some v7∧w.cell? ⟨b,8,none⟩=some v8∧w.cell? ⟨b,9,none⟩=some v9∧w.cell? ⟨b,10,none⟩=some v10∧w.cell? ⟨b,11,none⟩=some v11∧w.cell? ⟨b,12,none⟩=some v12)∧(w.frozen? ⟨b,0,none⟩=false∧w.frozen? ⟨b,1,none⟩=false∧w.frozen? ⟨b,2,none⟩=false∧w.frozen? ⟨b,3,none⟩=false∧w.frozen? ⟨b,4,none⟩=false∧w.frozen? ⟨b,5,none⟩=false∧w.frozen? ⟨b,6,none⟩=false∧w.frozen? ⟨b,7,none⟩=false∧w.frozen? ⟨b,8,none⟩=false∧w.frozen? ⟨b,9,none⟩=false∧w.frozen? ⟨b,10,none⟩=false∧w.frozen? ⟨b,11,none⟩=false∧w.frozen? ⟨b,12,none⟩=false)∧b<w.heap.size
theorem BQ.mono {w w1:World} {b:Nat} {v0 v1 v2 v3 v4 v5 v6 v7 v8 v9 v10 v11 v12:Value} (k:BQ w b v0 v1 v2 v3 v4 v5 v6 v7 v8 v9 v10 v11 v12) (h:Gr w w1):BQ w1 b v0 v1 v2 v3 v4 v5 v6 v7 v8 v9 v10 v11 v12:=by
 obtain⟨⟨k0,k1,k2,k3,k4,k5,k6,k7,k8,k9,Ek,Jp,TQ⟩,⟨f0,f1,f2,f3,f4,f5,f6,f7,f8,f9,f10,f11,f12⟩,hlt⟩:=k
 exact⟨⟨h.cell k0,h.cell k1,h.cell k2,h.cell k3,h.cell k4,h.cell k5,h.cell k6,h.cell k7,h.cell k8,h.cell k9,h.cell Ek,h.cell Jp,h.cell TQ⟩,⟨h.free (by exact hlt) f0,h.free (by exact hlt) f1,h.free (by exact hlt) f2,h.free (by exact hlt) f3,h.free (by exact hlt) f4,h.free (by exact hlt) f5,h.free (by exact hlt) f6,h.free (by exact hlt) f7,h.free (by exact hlt) f8,h.free (by exact hlt) f9,h.free (by exact hlt) f10,h.free (by exact hlt) f11,h.free (by exact hlt) f12⟩,Nat.lt_of_lt_of_le hlt h.size⟩
theorem BQ.of {w:World} {b:Nat} {v0 v1 v2 v3 v4 v5 v6 v7 v8 v9 v10 v11 v12:Value} {t:TypeId} (h:w.heap[b]? =some (.cells #[v0,v1,v2,v3,v4,v5,v6,v7,v8,v9,v10,v11,v12] t (0,0))):BQ w b v0 v1 v2 v3 v4 v5 v6 v7 v8 v9 v10 v11 v12:=by
 have hlt:b<w.heap.size:=(Array.getElem?_eq_some_iff.1 h).1
 refine⟨⟨?_,?_,?_,?_,?_,?_,?_,?_,?_,?_,?_,?_,?_⟩,⟨?_,?_,?_,?_,?_,?_,?_,?_,?_,?_,?_,?_,?_⟩,hlt⟩<;>simp [World.cell?,World.frozen?,h]
theorem BQ.at {w w1:World} {b:Nat} {v0 v1 v2 v3 v4 v5 v6 v7 v8 v9 v10 v11 v12:Value} {t:TypeId} (g:Gr w w1) (h:w.heap[b]? =some (.cells #[v0,v1,v2,v3,v4,v5,v6,v7,v8,v9,v10,v11,v12] t (0,0))):BQ w1 b v0 v1 v2 v3 v4 v5 v6 v7 v8 v9 v10 v11 v12:=(BQ.of h).mono g
abbrev BR (w:World) (b:Nat) (v0 v1 v2 v3 v4 v5 v6 v7 v8 v9 v10 v11 v12 kT:Value):Prop:=(w.cell? ⟨b,0,none⟩=some v0∧w.cell? ⟨b,1,none⟩=some v1∧w.cell? ⟨b,2,none⟩=some v2∧w.cell? ⟨b,3,none⟩=some v3∧w.cell? ⟨b,4,none⟩=some v4∧w.cell? ⟨b,5,none⟩=some v5∧w.cell? ⟨b,6,none⟩=some v6∧w.cell? ⟨b,7,none⟩=some v7∧w.cell? ⟨b,8,none⟩=some v8∧w.cell? ⟨b,9,none⟩=some v9∧w.cell? ⟨b,10,none⟩=some v10∧w.cell? ⟨b,11,none⟩=some v11∧w.cell? ⟨b,12,none⟩=some v12∧w.cell? ⟨b,13,none⟩=some kT)∧(w.frozen? ⟨b,0,none⟩=false∧w.frozen? ⟨b,1,none⟩=false∧w.frozen? ⟨b,2,none⟩=false∧w.frozen? ⟨b,3,none⟩=false∧w.frozen? ⟨b,4,none⟩=false∧w.frozen? ⟨b,5,none⟩=false∧w.frozen? ⟨b,6,none⟩=false∧w.frozen? ⟨b,7,none⟩=false∧w.frozen? ⟨b,8,none⟩=false∧w.frozen? ⟨b,9,none⟩=false∧w.frozen? ⟨b,10,none⟩=false∧w.frozen? ⟨b,11,none⟩=false∧w.frozen? ⟨b,12,none⟩=false∧w.frozen? ⟨b,13,none⟩=false)∧b<w.heap.size
theorem BR.mono {w w1:World} {b:Nat} {v0 v1 v2 v3 v4 v5 v6 v7 v8 v9 v10 v11 v12 kT:Value} (k:BR w b v0 v1 v2 v3 v4 v5 v6 v7 v8 v9 v10 v11 v12 kT) (h:Gr w w1):BR w1 b v0 v1 v2 v3 v4 v5 v6 v7 v8 v9 v10 v11 v12 kT:=by
 obtain⟨⟨k0,k1,k2,k3,k4,k5,k6,k7,k8,k9,Ek,Jp,TQ,Nn⟩,⟨f0,f1,f2,f3,f4,f5,f6,f7,f8,f9,f10,f11,f12,f13⟩,hlt⟩:=k
 exact⟨⟨h.cell k0,h.cell k1,h.cell k2,h.cell k3,h.cell k4,h.cell k5,h.cell k6,h.cell k7,h.cell k8,h.cell k9,h.cell Ek,h.cell Jp,h.cell TQ,h.cell Nn⟩,⟨h.free (by exact hlt) f0,h.free (by exact hlt) f1,h.free (by exact hlt) f2,h.free (by exact hlt) f3,h.free (by exact hlt) f4,h.free (by exact hlt) f5,h.free (by exact hlt) f6,h.free (by exact hlt) f7,h.free (by exact hlt) f8,h.free (by exact hlt) f9,h.free (by exact hlt) f10,h.free (by exact hlt) f11,h.free (by exact hlt) f12,h.free (by exact hlt) f13⟩,Nat.lt_of_lt_of_le hlt h.size⟩
theorem BR.of {w:World} {b:Nat} {v0 v1 v2 v3 v4 v5 v6 v7 v8 v9 v10 v11 v12 kT:Value} {t:TypeId} (h:w.heap[b]? =some (.cells #[v0,v1,v2,v3,v4,v5,v6,v7,v8,v9,v10,v11,v12,kT] t (0,0))):BR w b v0 v1 v2 v3 v4 v5 v6 v7 v8 v9 v10 v11 v12 kT:=by
 have hlt:b<w.heap.size:=(Array.getElem?_eq_some_iff.1 h).1
 refine⟨⟨?_,?_,?_,?_,?_,?_,?_,?_,?_,?_,?_,?_,?_,?_⟩,⟨?_,?_,?_,?_,?_,?_,?_,?_,?_,?_,?_,?_,?_,?_⟩,hlt⟩<;>simp [World.cell?,World.frozen?,h]
theorem BR.at {w w1:World} {b:Nat} {v0 v1 v2 v3 v4 v5 v6 v7 v8 v9 v10 v11 v12 kT:Value} {t:TypeId} (g:Gr w w1) (h:w.heap[b]? =some (.cells #[v0,v1,v2,v3,v4,v5,v6,v7,v8,v9,v10,v11,v12,kT] t (0,0))):BR w1 b v0 v1 v2 v3 v4 v5 v6 v7 v8 v9 v10 v11 v12 kT:=(BR.of h).mono g
end
section
open Go.RowKit Go.Deep
theorem Gr.cells {w w':World} (g:Gr w w') {a:Addr} {n:Nat} {cs:List Value} (h:∀i,i<n→w.cell? (a.add i)=cs[i]?) (hl:cs.length=n):∀i,i<n→w'.cell? (a.add i)=cs[i]? :=by
 intro i hi
 have h1:=h i hi
 rw[List.getElem?_eq_getElem (by omega)]at h1 ⊢
 exact g.cell h1
structure bY (α : Type) where
 size:Nat
 is:World→List Value→α→Prop
 len:∀{w cs a},is w cs a→cs.length=size
 mono:∀{w w' cs a},is w cs a→Gr w w'→is w' cs a
 bI:α→Nat
def cN:bY Int where
 size:=1
 is:=fun _ cs n=>cs=[.int .i64 n]∧-9223372036854775808≤n∧n≤9223372036854775807
 len:=fun h=>by rw[h.1];rfl
 mono:=fun h _=>h
 bI:=fun _=>1
def tM:bY Bool where
 size:=1
 is:=fun _ cs b=>cs=[.bool b]
 len:=fun h=>by rw[h];rfl
 mono:=fun h _=>h
 bI:=fun _=>1
def qO:bY ByteArray where
 size:=1
 is:=fun _ cs s=>cs=[.string s]∧s.size≤maxLen
 len:=fun h=>by rw[h.1];rfl
 mono:=fun h _=>h
 bI:=fun s=>s.size+1
def bY.pair {α β:Type} (c:bY α) (d:bY β):bY (α×β) where
 size:=c.size+d.size
 is:=fun w cs x=>c.is w (cs.take c.size) x.1∧d.is w (cs.drop c.size) x.2
 len:=fun{w cs a} h=>by
  have h1:=c.len h.1
  have h2:=d.len h.2
  simp at h1 h2
  omega
 mono:=fun h g=>⟨c.mono h.1 g,d.mono h.2 g⟩
 bI:=fun x=>c.bI x.1+d.bI x.2
def cm {α:Type} (c:bY α):bY (List α) where
 size:=1
 is:=fun w cs l=>(cs=[.slice none 0 0]∧l=[])∨∃(b off:Nat) (sp:Option Nat) (cap:Nat),cs=[.slice (some ⟨b,off,sp⟩) l.length cap]∧l.length≤cap∧cap≤maxLen∧
  ∀i (h:i<l.length),sp=none∧∃cs',(∀j,j<c.size→w.cell? ⟨b,off+(i*c.size+j),none⟩=cs'[j]?)∧c.is w cs' l[i]
 len:=fun h=>by
  rcases h with⟨rfl,_⟩|⟨b,off,sp,cap,rfl,_⟩<;>rfl
 mono:=fun{w w' cs l} h g=>by
  rcases h with h|⟨b,off,sp,cap,h1,h2,h3,h4⟩
  ·exact .inl h
  ·refine .inr ⟨b,off,sp,cap,h1,h2,h3,fun i hi=>?_⟩
   obtain⟨e,cs',h5,h6⟩:=h4 i hi
   refine⟨e,cs',fun j hj=>?_,c.mono h6 g⟩
   have h7:=h5 j hj
   have hl:=c.len h6
   rw[List.getElem?_eq_getElem (by omega)]at h7 ⊢
   exact g.cell h7
 bI:=fun l=>(l.map c.bI).sum+1
def eu {α:Type} (F:Nat→Prop) (P:Program) (c:bY α) (t:TypeId):Prop:=
 ∀⦃H:Type⦄ ⦃enc:TypeId×Value→H⦄ ⦃w:World⦄ ⦃base:Nat⦄ ⦃spare:Nat→Bool⦄ ⦃held:Bool⦄ ⦃fuel:Nat⦄ ⦃cs:List Value⦄ ⦃x:DataW H×List MemPlace⦄,F fuel→
  DataW.trod enc P w base spare held fuel t cs=some x→∃a,c.is w cs a∧c.bI a≤Rows.uptoBulk x.1
abbrev Reads {α:Type} (P:Program) (c:bY α) (t:TypeId):Prop:=eu (fun _=>True) P c t
theorem Bo {H:Type} (l:List (DataW H)):Rows.uptoBulkAll l=(l.map Rows.uptoBulk).sum:=by
 induction l with
 |nil=>rfl
 |cons x r ih=>simp only[Rows.uptoBulkAll,List.map_cons,List.sum_cons,ih]
theorem Vj {α:Type} (f:α→Nat) (D:Nat→Nat):∀(l:List α) (o:Nat),(∀i (h:i<l.length),f l[i]≤D (o+i))→(l.map f).sum≤((List.range' o l.length).map D).sum
 |[],_,_=>by simp
 |x::r,o,h=>by
  simp only[List.length_cons,List.range'_succ,List.map_cons,List.sum_cons]
  have h0:=h 0 (by simp)
  have:=Vj f D r (o+1) (fun i hi=>by have:=h (i+1) (by simp;omega);simp only[List.getElem_cons_succ]at this;rw[show o+1+i=o+(i+1) by omega];exact this)
  simp at h0
  omega
theorem wf_i64 {n:Int} (h:(Lit.int .i64 n).wf=true):-9223372036854775808≤n∧n≤9223372036854775807:=by
 simpa [Lit.wf,IntKind.min,IntKind.max,IntKind.signed,IntKind.bits]using h
theorem Xv {H:Type} (d:DataW H):1≤Rows.uptoBulk d:=by
 cases d with
 |lit l=>cases l<;>simp [Rows.uptoBulk]
 |_=>simp [Rows.uptoBulk]
theorem iC {F:Nat→Prop} {P:Program} {t:TypeId} (ht:P.underlying t=some (.int .i64)):eu F P cN t:=by
 intro H enc w base spare held fuel cs x _ h
 obtain⟨n,rfl,_,hw⟩:=DataW.trod_int ht h
 exact⟨n,⟨rfl,wf_i64 hw⟩,Xv _⟩
theorem KX {F:Nat→Prop} {P:Program} {t:TypeId} (ht:P.underlying t=some .bool):eu F P tM t:=by
 intro H enc w base spare held fuel cs x _ h
 obtain⟨n,rfl,_⟩:=DataW.trod_bool ht h
 exact⟨n,rfl,Xv _⟩
theorem C3 {F:Nat→Prop} {P:Program} {t:TypeId} (ht:P.underlying t=some .string):eu F P qO t:=by
 intro H enc w base spare held fuel cs x _ h
 obtain⟨n,rfl,hx,hw⟩:=DataW.trod_string ht h
 refine⟨n,⟨rfl,hw⟩,?_⟩
 subst hx
 simp only[Rows.uptoBulk,qO]
 first|(simp;done)|omega
theorem uM {F:Nat→Prop} {P:Program} {α:Type} {c:bY α} {t e:TypeId} (ht:P.underlying t=some (.slice e)) (hz:P.cellsOf e=c.size) (hp:0<c.size) (hr:eu (fun m=>F (m+1)) P c e):eu F P (cm c) t:=by
 intro H enc w base spare held fuel cs x hF h
 rcases DataW.trod_slice ht h with⟨rfl,rfl⟩|⟨a,len,cap,elems,rest,n,fN,rfl,hxe,hb,hl,hm,hlen,hel,h8,h9⟩
 ·exact⟨[],.inl ⟨rfl,rfl⟩,by simp [cm,Rows.uptoBulk]⟩
 ·obtain⟨D,hD⟩:∃D:Nat→DataW H,D=fun i=>(elems.getD i (.nil,[])).1:=⟨_,rfl⟩
  have key:∀i,i<len→∃(y:α) (cs':List Value),(∀j,j<c.size→w.cell? (a.add (i*c.size+j))=cs'[j]?)∧c.is w cs' y∧c.bI y≤Rows.uptoBulk (D i):=by
   intro i hi
   have hk:=hel i hi
   rw[List.getElem?_eq_getElem (by omega)]at hk
   obtain⟨cs',h1,h2⟩:=Option.bind_eq_some_iff.1 hk
   obtain⟨y,hy,Jn⟩:=hr (by subst fN;exact hF) h2
   have Jn:c.bI y≤Rows.uptoBulk (D i):=by
    rw[hD]
    simpa [List.getD,List.getElem?_eq_getElem (show i<elems.length by omega)]using Jn
   obtain⟨_,h3,h4⟩:=World.cells?_some h1
   refine⟨y,cs',fun j hj=>?_,hy,Jn⟩
   have:=h4 j (by rw[hz];exact hj)
   rw[hz]at this
   rw[←this,add_add]
  obtain⟨ys,hys⟩:∃ys:List α,ys.length=len∧∀i (h:i<ys.length),c.bI ys[i]≤Rows.uptoBulk (D i)∧∃cs',(∀j,j<c.size→w.cell? (a.add (i*c.size+j))=cs'[j]?)∧c.is w cs' ys[i]:=by
   clear hel hlen h hl hxe h8 h9
   induction len with
   |zero=>exact⟨[],rfl,fun i h=>by simp at h⟩
   |succ k ih=>
    obtain⟨ys,h1,h2⟩:=ih (fun i hi=>key i (by omega))
    obtain⟨y,cs',h3,h4,h4b⟩:=key k (by omega)
    refine⟨ys++[y],by simp [h1],fun i hi=>?_⟩
    by_cases hk:i<ys.length
    ·rw[List.getElem_append_left hk];exact h2 i hk
    ·have:i=k:=by simp at hi;omega
     subst this
     rw[List.getElem_append_right (by omega)]
     simp only[h1,Nat.sub_self,List.getElem_cons_zero]
     exact⟨h4b,cs',h3,h4⟩
  obtain⟨h1,h2⟩:=hys
  obtain⟨b,off,sp⟩:=a
  refine⟨ys,.inr ⟨b,off,sp,cap,by rw[h1],by omega,hm,fun i hi=>?_⟩,?_⟩
  ·have hs:sp=none:=by
    cases sp with
    |none=>rfl
    |some q=>
     exfalso
     obtain⟨_,cs',h3,h4⟩:=h2 0 (by omega)
     have h5:=h3 0 hp
     have hl:=c.len h4
     rw[List.getElem?_eq_getElem (by omega)]at h5
     simp only[Nat.zero_mul,Nat.zero_add,World.cell?,Addr.add]at h5
     split at h5<;>simp at h5
   obtain⟨_,cs',h3,h4⟩:=h2 i hi
   subst hs
   refine⟨rfl,cs',fun j hj=>?_,h4⟩
   have h6:=h3 j hj
   rw[←h6]
   congr 1
   simp only[Addr.add]
   split
   ·rename_i h7;simp only[h7,Nat.add_zero]
   ·rfl
  ·subst hxe
   simp only[cm,Rows.uptoBulk,Bo,List.map_map]
   have:=Vj c.bI (fun i=>Rows.uptoBulk (D i)) ys 0 (fun i hi=>by simpa using(h2 i hi).1)
   rw[h1,←List.range_eq_range']at this
   have e:List.map (Rows.uptoBulk∘fun x=>x.1) elems=List.map (fun i=>Rows.uptoBulk (D i)) (List.range len):=by
    rw[←hlen,hD]
    apply List.ext_getElem (by simp)
    intro i h3 h4
    simp at h3
    simp [List.getD,List.getElem?_eq_getElem h3]
   rw[e]
   omega
theorem CU {α:Type} (l:List α) (o n:Nat) (h:l.length=o+n):(l.drop o).take n=l.drop o:=List.take_of_length_le (by simp;omega)
theorem aei {α:Type} (l:List α) (h:l.length=2):∃x0 x1,l=[x0,x1]:=by
 match l,h with
 |[x0,x1],_=>exact⟨x0,x1,rfl⟩
theorem CT {F:Nat→Prop} {P:Program} {uI oh:Type} {t:TypeId} {f0 f1:Field} {c0:bY uI} {c1:bY oh} (ht:P.underlying t=some (.struct #[f0,f1])) (hz:P.cellsOf t=c0.size+c1.size) (o0:f0.offset=0) (o1:f1.offset=c0.size) (z0:P.cellsOf f0.type=c0.size) (z1:P.cellsOf f1.type=c1.size) (r0:eu (fun m=>F (m+1)) P c0 f0.type) (r1:eu (fun m=>F (m+1)) P c1 f1.type):eu F P (c0.pair c1) t:=by
 intro H enc w base spare held fuel cs x hF h
 obtain⟨xs,m,fN,ct,hlen,hxl,hf⟩:=DataW.trod_struct ht h
 rw[hz]at hlen
 have hxl:xs.length=2:=hxl
 have h0:=hf 0 f0 rfl
 rw[o0,z0,List.getElem?_eq_getElem (show 0<xs.length by omega)]at h0
 obtain⟨a0,k0,b0⟩:=r0 (by subst fN;exact hF) h0
 have h1:=hf 1 f1 rfl
 rw[o1,z1,List.getElem?_eq_getElem (show 1<xs.length by omega)]at h1
 obtain⟨a1,k1,b1⟩:=r1 (by subst fN;exact hF) h1
 rw[CU cs (c0.size) c1.size (by omega)]at k1
 refine⟨(a0,a1),?_,?_⟩
 ·exact⟨by simpa using k0,(by simpa [List.drop_drop,Nat.add_assoc]using k1)⟩
 ·subst ct
  simp only[Rows.uptoBulk,Bo,bY.pair]
  have hs:(List.map Rows.uptoBulk (xs.map (·.1))).sum=Rows.uptoBulk xs[0].1+(Rows.uptoBulk xs[1].1):=by
   obtain⟨x0,x1,rfl⟩:=aei xs hxl
   simp
  rw[hs]
  exact Nat.le_succ_of_le (Nat.add_le_add b0 b1)
theorem aej {α:Type} (l:List α) (h:l.length=3):∃x0 x1 x2,l=[x0,x1,x2]:=by
 match l,h with
 |[x0,x1,x2],_=>exact⟨x0,x1,x2,rfl⟩
theorem Kw {F:Nat→Prop} {P:Program} {uI oh rz:Type} {t:TypeId} {f0 f1 f2:Field} {c0:bY uI} {c1:bY oh} {c2:bY rz} (ht:P.underlying t=some (.struct #[f0,f1,f2])) (hz:P.cellsOf t=c0.size+c1.size+c2.size) (o0:f0.offset=0) (o1:f1.offset=c0.size) (o2:f2.offset=c0.size+c1.size) (z0:P.cellsOf f0.type=c0.size) (z1:P.cellsOf f1.type=c1.size) (z2:P.cellsOf f2.type=c2.size) (r0:eu (fun m=>F (m+1)) P c0 f0.type) (r1:eu (fun m=>F (m+1)) P c1 f1.type) (r2:eu (fun m=>F (m+1)) P c2 f2.type):eu F P (c0.pair (c1.pair c2)) t:=by
 intro H enc w base spare held fuel cs x hF h
 obtain⟨xs,m,fN,ct,hlen,hxl,hf⟩:=DataW.trod_struct ht h
 rw[hz]at hlen
 have hxl:xs.length=3:=hxl
 have h0:=hf 0 f0 rfl
 rw[o0,z0,List.getElem?_eq_getElem (show 0<xs.length by omega)]at h0
 obtain⟨a0,k0,b0⟩:=r0 (by subst fN;exact hF) h0
 have h1:=hf 1 f1 rfl
 rw[o1,z1,List.getElem?_eq_getElem (show 1<xs.length by omega)]at h1
 obtain⟨a1,k1,b1⟩:=r1 (by subst fN;exact hF) h1
 have h2:=hf 2 f2 rfl
 rw[o2,z2,List.getElem?_eq_getElem (show 2<xs.length by omega)]at h2
 obtain⟨a2,k2,b2⟩:=r2 (by subst fN;exact hF) h2
 rw[CU cs (c0.size+c1.size) c2.size (by omega)]at k2
 refine⟨(a0,(a1,a2)),?_,?_⟩
 ·exact⟨by simpa using k0,⟨by simpa [List.drop_drop,Nat.add_assoc]using k1,(by simpa [List.drop_drop,Nat.add_assoc]using k2)⟩⟩
 ·subst ct
  simp only[Rows.uptoBulk,Bo,bY.pair]
  have hs:(List.map Rows.uptoBulk (xs.map (·.1))).sum=Rows.uptoBulk xs[0].1+(Rows.uptoBulk xs[1].1+(Rows.uptoBulk xs[2].1)):=by
   obtain⟨x0,x1,x2,rfl⟩:=aej xs hxl
   simp
  rw[hs]
  exact Nat.le_succ_of_le (Nat.add_le_add b0 (Nat.add_le_add b1 b2))
theorem aek {α:Type} (l:List α) (h:l.length=4):∃x0 x1 x2 x3,l=[x0,x1,x2,x3]:=by
 match l,h with
 |[x0,x1,x2,x3],_=>exact⟨x0,x1,x2,x3,rfl⟩
theorem U1 {F:Nat→Prop} {P:Program} {uI oh rz uJ:Type} {t:TypeId} {f0 f1 f2 f3:Field} {c0:bY uI} {c1:bY oh} {c2:bY rz} {c3:bY uJ} (ht:P.underlying t=some (.struct #[f0,f1,f2,f3])) (hz:P.cellsOf t=c0.size+c1.size+c2.size+c3.size) (o0:f0.offset=0) (o1:f1.offset=c0.size) (o2:f2.offset=c0.size+c1.size) (o3:f3.offset=c0.size+c1.size+c2.size) (z0:P.cellsOf f0.type=c0.size) (z1:P.cellsOf f1.type=c1.size) (z2:P.cellsOf f2.type=c2.size) (z3:P.cellsOf f3.type=c3.size) (r0:eu (fun m=>F (m+1)) P c0 f0.type) (r1:eu (fun m=>F (m+1)) P c1 f1.type) (r2:eu (fun m=>F (m+1)) P c2 f2.type) (r3:eu (fun m=>F (m+1)) P c3 f3.type):eu F P (c0.pair (c1.pair (c2.pair c3))) t:=by
 intro H enc w base spare held fuel cs x hF h
 obtain⟨xs,m,fN,ct,hlen,hxl,hf⟩:=DataW.trod_struct ht h
 rw[hz]at hlen
 have hxl:xs.length=4:=hxl
 have h0:=hf 0 f0 rfl
 rw[o0,z0,List.getElem?_eq_getElem (show 0<xs.length by omega)]at h0
 obtain⟨a0,k0,b0⟩:=r0 (by subst fN;exact hF) h0
 have h1:=hf 1 f1 rfl
 rw[o1,z1,List.getElem?_eq_getElem (show 1<xs.length by omega)]at h1
 obtain⟨a1,k1,b1⟩:=r1 (by subst fN;exact hF) h1
 have h2:=hf 2 f2 rfl
 rw[o2,z2,List.getElem?_eq_getElem (show 2<xs.length by omega)]at h2
 obtain⟨a2,k2,b2⟩:=r2 (by subst fN;exact hF) h2
 have h3:=hf 3 f3 rfl
 rw[o3,z3,List.getElem?_eq_getElem (show 3<xs.length by omega)]at h3
 obtain⟨a3,k3,b3⟩:=r3 (by subst fN;exact hF) h3
 rw[CU cs (c0.size+c1.size+c2.size) c3.size (by omega)]at k3
 refine⟨(a0,(a1,(a2,a3))),?_,?_⟩
 ·exact⟨by simpa using k0,⟨by simpa [List.drop_drop,Nat.add_assoc]using k1,⟨by simpa [List.drop_drop,Nat.add_assoc]using k2,(by simpa [List.drop_drop,Nat.add_assoc]using k3)⟩⟩⟩
 ·subst ct
  simp only[Rows.uptoBulk,Bo,bY.pair]
  have hs:(List.map Rows.uptoBulk (xs.map (·.1))).sum=Rows.uptoBulk xs[0].1+(Rows.uptoBulk xs[1].1+(Rows.uptoBulk xs[2].1+(Rows.uptoBulk xs[3].1))):=by
   obtain⟨x0,x1,x2,x3,rfl⟩:=aek xs hxl
   simp
  rw[hs]
  exact Nat.le_succ_of_le (Nat.add_le_add b0 (Nat.add_le_add b1 (Nat.add_le_add b2 b3)))
theorem ael {α:Type} (l:List α) (h:l.length=5):∃x0 x1 x2 x3 x4,l=[x0,x1,x2,x3,x4]:=by
 match l,h with
 |[x0,x1,x2,x3,x4],_=>exact⟨x0,x1,x2,x3,x4,rfl⟩
theorem ad2 {F:Nat→Prop} {P:Program} {uI oh rz uJ vQ:Type} {t:TypeId} {f0 f1 f2 f3 f4:Field} {c0:bY uI} {c1:bY oh} {c2:bY rz} {c3:bY uJ} {c4:bY vQ} (ht:P.underlying t=some (.struct #[f0,f1,f2,f3,f4])) (hz:P.cellsOf t=c0.size+c1.size+c2.size+c3.size+c4.size) (o0:f0.offset=0) (o1:f1.offset=c0.size) (o2:f2.offset=c0.size+c1.size) (o3:f3.offset=c0.size+c1.size+c2.size) (o4:f4.offset=c0.size+c1.size+c2.size+c3.size) (z0:P.cellsOf f0.type=c0.size) (z1:P.cellsOf f1.type=c1.size) (z2:P.cellsOf f2.type=c2.size) (z3:P.cellsOf f3.type=c3.size) (z4:P.cellsOf f4.type=c4.size) (r0:eu (fun m=>F (m+1)) P c0 f0.type) (r1:eu (fun m=>F (m+1)) P c1 f1.type) (r2:eu (fun m=>F (m+1)) P c2 f2.type) (r3:eu (fun m=>F (m+1)) P c3 f3.type) (r4:eu (fun m=>F (m+1)) P c4 f4.type):eu F P (c0.pair (c1.pair (c2.pair (c3.pair c4)))) t:=by
 intro H enc w base spare held fuel cs x hF h
 obtain⟨xs,m,fN,ct,hlen,hxl,hf⟩:=DataW.trod_struct ht h
 rw[hz]at hlen
 have hxl:xs.length=5:=hxl
 have h0:=hf 0 f0 rfl
 rw[o0,z0,List.getElem?_eq_getElem (show 0<xs.length by omega)]at h0
 obtain⟨a0,k0,b0⟩:=r0 (by subst fN;exact hF) h0
 have h1:=hf 1 f1 rfl
 rw[o1,z1,List.getElem?_eq_getElem (show 1<xs.length by omega)]at h1
 obtain⟨a1,k1,b1⟩:=r1 (by subst fN;exact hF) h1
 have h2:=hf 2 f2 rfl
 rw[o2,z2,List.getElem?_eq_getElem (show 2<xs.length by omega)]at h2
 obtain⟨a2,k2,b2⟩:=r2 (by subst fN;exact hF) h2
 have h3:=hf 3 f3 rfl
 rw[o3,z3,List.getElem?_eq_getElem (show 3<xs.length by omega)]at h3
 obtain⟨a3,k3,b3⟩:=r3 (by subst fN;exact hF) h3
 have h4:=hf 4 f4 rfl
 rw[o4,z4,List.getElem?_eq_getElem (show 4<xs.length by omega)]at h4
 obtain⟨a4,k4,b4⟩:=r4 (by subst fN;exact hF) h4
 rw[CU cs (c0.size+c1.size+c2.size+c3.size) c4.size (by omega)]at k4
 refine⟨(a0,(a1,(a2,(a3,a4)))),?_,?_⟩
 ·exact⟨by simpa using k0,⟨by simpa [List.drop_drop,Nat.add_assoc]using k1,⟨by simpa [List.drop_drop,Nat.add_assoc]using k2,⟨by simpa [List.drop_drop,Nat.add_assoc]using k3,(by simpa [List.drop_drop,Nat.add_assoc]using k4)⟩⟩⟩⟩
 ·subst ct
  simp only[Rows.uptoBulk,Bo,bY.pair]
  have hs:(List.map Rows.uptoBulk (xs.map (·.1))).sum=Rows.uptoBulk xs[0].1+(Rows.uptoBulk xs[1].1+(Rows.uptoBulk xs[2].1+(Rows.uptoBulk xs[3].1+(Rows.uptoBulk xs[4].1)))):=by
   obtain⟨x0,x1,x2,x3,x4,rfl⟩:=ael xs hxl
   simp
  rw[hs]
  exact Nat.le_succ_of_le (Nat.add_le_add b0 (Nat.add_le_add b1 (Nat.add_le_add b2 (Nat.add_le_add b3 b4))))
theorem aem {α:Type} (l:List α) (h:l.length=6):∃x0 x1 x2 x3 x4 x5,l=[x0,x1,x2,x3,x4,x5]:=by
 match l,h with
 |[x0,x1,x2,x3,x4,x5],_=>exact⟨x0,x1,x2,x3,x4,x5,rfl⟩
theorem ad3 {F:Nat→Prop} {P:Program} {uI oh rz uJ vQ JP:Type} {t:TypeId} {f0 f1 f2 f3 f4 f5:Field} {c0:bY uI} {c1:bY oh} {c2:bY rz} {c3:bY uJ} {c4:bY vQ} {c5:bY JP} (ht:P.underlying t=some (.struct #[f0,f1,f2,f3,f4,f5])) (hz:P.cellsOf t=c0.size+c1.size+c2.size+c3.size+c4.size+c5.size) (o0:f0.offset=0) (o1:f1.offset=c0.size) (o2:f2.offset=c0.size+c1.size) (o3:f3.offset=c0.size+c1.size+c2.size) (o4:f4.offset=c0.size+c1.size+c2.size+c3.size) (o5:f5.offset=c0.size+c1.size+c2.size+c3.size+c4.size) (z0:P.cellsOf f0.type=c0.size) (z1:P.cellsOf f1.type=c1.size) (z2:P.cellsOf f2.type=c2.size) (z3:P.cellsOf f3.type=c3.size) (z4:P.cellsOf f4.type=c4.size) (z5:P.cellsOf f5.type=c5.size) (r0:eu (fun m=>F (m+1)) P c0 f0.type) (r1:eu (fun m=>F (m+1)) P c1 f1.type) (r2:eu (fun m=>F (m+1)) P c2 f2.type) (r3:eu (fun m=>F (m+1)) P c3 f3.type) (r4:eu (fun m=>F (m+1)) P c4 f4.type) (r5:eu (fun m=>F (m+1)) P c5 f5.type):eu F P (c0.pair (c1.pair (c2.pair (c3.pair (c4.pair c5))))) t:=by
 intro H enc w base spare held fuel cs x hF h
 obtain⟨xs,m,fN,ct,hlen,hxl,hf⟩:=DataW.trod_struct ht h
 rw[hz]at hlen
 have hxl:xs.length=6:=hxl
 have h0:=hf 0 f0 rfl
 rw[o0,z0,List.getElem?_eq_getElem (show 0<xs.length by omega)]at h0
 obtain⟨a0,k0,b0⟩:=r0 (by subst fN;exact hF) h0
 have h1:=hf 1 f1 rfl
 rw[o1,z1,List.getElem?_eq_getElem (show 1<xs.length by omega)]at h1
 obtain⟨a1,k1,b1⟩:=r1 (by subst fN;exact hF) h1
 have h2:=hf 2 f2 rfl
 rw[o2,z2,List.getElem?_eq_getElem (show 2<xs.length by omega)]at h2
 obtain⟨a2,k2,b2⟩:=r2 (by subst fN;exact hF) h2
 have h3:=hf 3 f3 rfl
 rw[o3,z3,List.getElem?_eq_getElem (show 3<xs.length by omega)]at h3
 obtain⟨a3,k3,b3⟩:=r3 (by subst fN;exact hF) h3
 have h4:=hf 4 f4 rfl
 rw[o4,z4,List.getElem?_eq_getElem (show 4<xs.length by omega)]at h4
 obtain⟨a4,k4,b4⟩:=r4 (by subst fN;exact hF) h4
 have h5:=hf 5 f5 rfl
 rw[o5,z5,List.getElem?_eq_getElem (show 5<xs.length by omega)]at h5
 obtain⟨a5,k5,b5⟩:=r5 (by subst fN;exact hF) h5
 rw[CU cs (c0.size+c1.size+c2.size+c3.size+c4.size) c5.size (by omega)]at k5
 refine⟨(a0,(a1,(a2,(a3,(a4,a5))))),?_,?_⟩
 ·exact⟨by simpa using k0,⟨by simpa [List.drop_drop,Nat.add_assoc]using k1,⟨by simpa [List.drop_drop,Nat.add_assoc]using k2,⟨by simpa [List.drop_drop,Nat.add_assoc]using k3,⟨by simpa [List.drop_drop,Nat.add_assoc]using k4,(by simpa [List.drop_drop,Nat.add_assoc]using k5)⟩⟩⟩⟩⟩
 ·subst ct
  simp only[Rows.uptoBulk,Bo,bY.pair]
  have hs:(List.map Rows.uptoBulk (xs.map (·.1))).sum=Rows.uptoBulk xs[0].1+(Rows.uptoBulk xs[1].1+(Rows.uptoBulk xs[2].1+(Rows.uptoBulk xs[3].1+(Rows.uptoBulk xs[4].1+(Rows.uptoBulk xs[5].1))))):=by
   obtain⟨x0,x1,x2,x3,x4,x5,rfl⟩:=aem xs hxl
   simp
  rw[hs]
  exact Nat.le_succ_of_le (Nat.add_le_add b0 (Nat.add_le_add b1 (Nat.add_le_add b2 (Nat.add_le_add b3 (Nat.add_le_add b4 b5)))))
theorem aen {α:Type} (l:List α) (h:l.length=7):∃x0 x1 x2 x3 x4 x5 x6,l=[x0,x1,x2,x3,x4,x5,x6]:=by
 match l,h with
 |[x0,x1,x2,x3,x4,x5,x6],_=>exact⟨x0,x1,x2,x3,x4,x5,x6,rfl⟩
theorem ad4 {F:Nat→Prop} {P:Program} {uI oh rz uJ vQ JP Ug:Type} {t:TypeId} {f0 f1 f2 f3 f4 f5 f6:Field} {c0:bY uI} {c1:bY oh} {c2:bY rz} {c3:bY uJ} {c4:bY vQ} {c5:bY JP} {c6:bY Ug} (ht:P.underlying t=some (.struct #[f0,f1,f2,f3,f4,f5,f6])) (hz:P.cellsOf t=c0.size+c1.size+c2.size+c3.size+c4.size+c5.size+c6.size) (o0:f0.offset=0) (o1:f1.offset=c0.size) (o2:f2.offset=c0.size+c1.size) (o3:f3.offset=c0.size+c1.size+c2.size) (o4:f4.offset=c0.size+c1.size+c2.size+c3.size) (o5:f5.offset=c0.size+c1.size+c2.size+c3.size+c4.size) (o6:f6.offset=c0.size+c1.size+c2.size+c3.size+c4.size+c5.size) (z0:P.cellsOf f0.type=c0.size) (z1:P.cellsOf f1.type=c1.size) (z2:P.cellsOf f2.type=c2.size) (z3:P.cellsOf f3.type=c3.size) (z4:P.cellsOf f4.type=c4.size) (z5:P.cellsOf f5.type=c5.size) (z6:P.cellsOf f6.type=c6.size) (r0:eu (fun m=>F (m+1)) P c0 f0.type) (r1:eu (fun m=>F (m+1)) P c1 f1.type) (r2:eu (fun m=>F (m+1)) P c2 f2.type) (r3:eu (fun m=>F (m+1)) P c3 f3.type) (r4:eu (fun m=>F (m+1)) P c4 f4.type) (r5:eu (fun m=>F (m+1)) P c5 f5.type) (r6:eu (fun m=>F (m+1)) P c6 f6.type):eu F P (c0.pair (c1.pair (c2.pair (c3.pair (c4.pair (c5.pair c6)))))) t:=by
 intro H enc w base spare held fuel cs x hF h
 obtain⟨xs,m,fN,ct,hlen,hxl,hf⟩:=DataW.trod_struct ht h
 rw[hz]at hlen
 have hxl:xs.length=7:=hxl
 have h0:=hf 0 f0 rfl
 rw[o0,z0,List.getElem?_eq_getElem (show 0<xs.length by omega)]at h0
 obtain⟨a0,k0,b0⟩:=r0 (by subst fN;exact hF) h0
 have h1:=hf 1 f1 rfl
 rw[o1,z1,List.getElem?_eq_getElem (show 1<xs.length by omega)]at h1
 obtain⟨a1,k1,b1⟩:=r1 (by subst fN;exact hF) h1
 have h2:=hf 2 f2 rfl
 rw[o2,z2,List.getElem?_eq_getElem (show 2<xs.length by omega)]at h2
 obtain⟨a2,k2,b2⟩:=r2 (by subst fN;exact hF) h2
 have h3:=hf 3 f3 rfl
 rw[o3,z3,List.getElem?_eq_getElem (show 3<xs.length by omega)]at h3
 obtain⟨a3,k3,b3⟩:=r3 (by subst fN;exact hF) h3
 have h4:=hf 4 f4 rfl
 rw[o4,z4,List.getElem?_eq_getElem (show 4<xs.length by omega)]at h4
 obtain⟨a4,k4,b4⟩:=r4 (by subst fN;exact hF) h4
 have h5:=hf 5 f5 rfl
 rw[o5,z5,List.getElem?_eq_getElem (show 5<xs.length by omega)]at h5
 obtain⟨a5,k5,b5⟩:=r5 (by subst fN;exact hF) h5
 have h6:=hf 6 f6 rfl
 rw[o6,z6,List.getElem?_eq_getElem (show 6<xs.length by omega)]at h6
 obtain⟨a6,k6,b6⟩:=r6 (by subst fN;exact hF) h6
 rw[CU cs (c0.size+c1.size+c2.size+c3.size+c4.size+c5.size) c6.size (by omega)]at k6
 refine⟨(a0,(a1,(a2,(a3,(a4,(a5,a6)))))),?_,?_⟩
 ·exact⟨by simpa using k0,⟨by simpa [List.drop_drop,Nat.add_assoc]using k1,⟨by simpa [List.drop_drop,Nat.add_assoc]using k2,⟨by simpa [List.drop_drop,Nat.add_assoc]using k3,⟨by simpa [List.drop_drop,Nat.add_assoc]using k4,⟨by simpa [List.drop_drop,Nat.add_assoc]using k5,(by simpa [List.drop_drop,Nat.add_assoc]using k6)⟩⟩⟩⟩⟩⟩
 ·subst ct
  simp only[Rows.uptoBulk,Bo,bY.pair]
  have hs:(List.map Rows.uptoBulk (xs.map (·.1))).sum=Rows.uptoBulk xs[0].1+(Rows.uptoBulk xs[1].1+(Rows.uptoBulk xs[2].1+(Rows.uptoBulk xs[3].1+(Rows.uptoBulk xs[4].1+(Rows.uptoBulk xs[5].1+(Rows.uptoBulk xs[6].1)))))):=by
   obtain⟨x0,x1,x2,x3,x4,x5,x6,rfl⟩:=aen xs hxl
   simp
  rw[hs]
  exact Nat.le_succ_of_le (Nat.add_le_add b0 (Nat.add_le_add b1 (Nat.add_le_add b2 (Nat.add_le_add b3 (Nat.add_le_add b4 (Nat.add_le_add b5 b6))))))
theorem adV {α:Type} (l:List α) (h:l.length=10):∃x0 x1 x2 x3 x4 x5 x6 x7 x8 x9,l=[x0,x1,x2,x3,x4,x5,x6,x7,x8,x9]:=by
 match l,h with
 |[x0,x1,x2,x3,x4,x5,x6,x7,x8,x9],_=>exact⟨x0,x1,x2,x3,x4,x5,x6,x7,x8,x9,rfl⟩
theorem adE {F:Nat→Prop} {P:Program} {uI oh rz uJ vQ JP Ug α7 α8 α9:Type} {t:TypeId} {f0 f1 f2 f3 f4 f5 f6 f7 f8 f9:Field} {c0:bY uI} {c1:bY oh} {c2:bY rz} {c3:bY uJ} {c4:bY vQ} {c5:bY JP} {c6:bY Ug} {c7:bY α7} {c8:bY α8} {c9:bY α9} (ht:P.underlying t=some (.struct #[f0,f1,f2,f3,f4,f5,f6,f7,f8,f9])) (hz:P.cellsOf t=c0.size+c1.size+c2.size+c3.size+c4.size+c5.size+c6.size+c7.size+c8.size+c9.size) (o0:f0.offset=0) (o1:f1.offset=c0.size) (o2:f2.offset=c0.size+c1.size) (o3:f3.offset=c0.size+c1.size+c2.size) (o4:f4.offset=c0.size+c1.size+c2.size+c3.size) (o5:f5.offset=c0.size+c1.size+c2.size+c3.size+c4.size) (o6:f6.offset=c0.size+c1.size+c2.size+c3.size+c4.size+c5.size) (o7:f7.offset=c0.size+c1.size+c2.size+c3.size+c4.size+c5.size+c6.size) (o8:f8.offset=c0.size+c1.size+c2.size+c3.size+c4.size+c5.size+c6.size+c7.size) (o9:f9.offset=c0.size+c1.size+c2.size+c3.size+c4.size+c5.size+c6.size+c7.size+c8.size) (z0:P.cellsOf f0.type=c0.size) (z1:P.cellsOf f1.type=c1.size) (z2:P.cellsOf f2.type=c2.size) (z3:P.cellsOf f3.type=c3.size) (z4:P.cellsOf f4.type=c4.size) (z5:P.cellsOf f5.type=c5.size) (z6:P.cellsOf f6.type=c6.size) (z7:P.cellsOf f7.type=c7.size) (z8:P.cellsOf f8.type=c8.size) (z9:P.cellsOf f9.type=c9.size) (r0:eu (fun m=>F (m+1)) P c0 f0.type) (r1:eu (fun m=>F (m+1)) P c1 f1.type) (r2:eu (fun m=>F (m+1)) P c2 f2.type) (r3:eu (fun m=>F (m+1)) P c3 f3.type) (r4:eu (fun m=>F (m+1)) P c4 f4.type) (r5:eu (fun m=>F (m+1)) P c5 f5.type) (r6:eu (fun m=>F (m+1)) P c6 f6.type) (r7:eu (fun m=>F (m+1)) P c7 f7.type) (r8:eu (fun m=>F (m+1)) P c8 f8.type) (r9:eu (fun m=>F (m+1)) P c9 f9.type):eu F P (c0.pair (c1.pair (c2.pair (c3.pair (c4.pair (c5.pair (c6.pair (c7.pair (c8.pair c9))))))))) t:=by
 intro H enc w base spare held fuel cs x hF h
 obtain⟨xs,m,fN,ct,hlen,hxl,hf⟩:=DataW.trod_struct ht h
 rw[hz]at hlen
 have hxl:xs.length=10:=hxl
 have h0:=hf 0 f0 rfl
 rw[o0,z0,List.getElem?_eq_getElem (show 0<xs.length by omega)]at h0
 obtain⟨a0,k0,b0⟩:=r0 (by subst fN;exact hF) h0
 have h1:=hf 1 f1 rfl
 rw[o1,z1,List.getElem?_eq_getElem (show 1<xs.length by omega)]at h1
 obtain⟨a1,k1,b1⟩:=r1 (by subst fN;exact hF) h1
 have h2:=hf 2 f2 rfl
 rw[o2,z2,List.getElem?_eq_getElem (show 2<xs.length by omega)]at h2
 obtain⟨a2,k2,b2⟩:=r2 (by subst fN;exact hF) h2
 have h3:=hf 3 f3 rfl
 rw[o3,z3,List.getElem?_eq_getElem (show 3<xs.length by omega)]at h3
 obtain⟨a3,k3,b3⟩:=r3 (by subst fN;exact hF) h3
 have h4:=hf 4 f4 rfl
 rw[o4,z4,List.getElem?_eq_getElem (show 4<xs.length by omega)]at h4
 obtain⟨a4,k4,b4⟩:=r4 (by subst fN;exact hF) h4
 have h5:=hf 5 f5 rfl
 rw[o5,z5,List.getElem?_eq_getElem (show 5<xs.length by omega)]at h5
 obtain⟨a5,k5,b5⟩:=r5 (by subst fN;exact hF) h5
 have h6:=hf 6 f6 rfl
 rw[o6,z6,List.getElem?_eq_getElem (show 6<xs.length by omega)]at h6
 obtain⟨a6,k6,b6⟩:=r6 (by subst fN;exact hF) h6
 have h7:=hf 7 f7 rfl
 rw[o7,z7,List.getElem?_eq_getElem (show 7<xs.length by omega)]at h7
 obtain⟨a7,k7,b7⟩:=r7 (by subst fN;exact hF) h7
 have h8:=hf 8 f8 rfl
 rw[o8,z8,List.getElem?_eq_getElem (show 8<xs.length by omega)]at h8
 obtain⟨a8,k8,b8⟩:=r8 (by subst fN;exact hF) h8
 have h9:=hf 9 f9 rfl
 rw[o9,z9,List.getElem?_eq_getElem (show 9<xs.length by omega)]at h9
 obtain⟨a9,k9,b9⟩:=r9 (by subst fN;exact hF) h9
 rw[CU cs (c0.size+c1.size+c2.size+c3.size+c4.size+c5.size+c6.size+c7.size+c8.size) c9.size (by omega)]at k9
 refine⟨(a0,(a1,(a2,(a3,(a4,(a5,(a6,(a7,(a8,a9))))))))),?_,?_⟩
 ·exact⟨by simpa using k0,⟨by simpa [List.drop_drop,Nat.add_assoc]using k1,⟨by simpa [List.drop_drop,Nat.add_assoc]using k2,⟨by simpa [List.drop_drop,Nat.add_assoc]using k3,⟨by simpa [List.drop_drop,Nat.add_assoc]using k4,⟨by simpa [List.drop_drop,Nat.add_assoc]using k5,⟨by simpa [List.drop_drop,Nat.add_assoc]using k6,⟨by simpa [List.drop_drop,Nat.add_assoc]using k7,⟨by simpa [List.drop_drop,Nat.add_assoc]using k8,(by simpa [List.drop_drop,Nat.add_assoc]using k9)⟩⟩⟩⟩⟩⟩⟩⟩⟩
 ·subst ct
  simp only[Rows.uptoBulk,Bo,bY.pair]
  have hs:(List.map Rows.uptoBulk (xs.map (·.1))).sum=Rows.uptoBulk xs[0].1+(Rows.uptoBulk xs[1].1+(Rows.uptoBulk xs[2].1+(Rows.uptoBulk xs[3].1+(Rows.uptoBulk xs[4].1+(Rows.uptoBulk xs[5].1+(Rows.uptoBulk xs[6].1+(Rows.uptoBulk xs[7].1+(Rows.uptoBulk xs[8].1+(Rows.uptoBulk xs[9].1))))))))):=by
   obtain⟨x0,x1,x2,x3,x4,x5,x6,x7,x8,x9,rfl⟩:=adV xs hxl
   simp
  rw[hs]
  exact Nat.le_succ_of_le (Nat.add_le_add b0 (Nat.add_le_add b1 (Nat.add_le_add b2 (Nat.add_le_add b3 (Nat.add_le_add b4 (Nat.add_le_add b5 (Nat.add_le_add b6 (Nat.add_le_add b7 (Nat.add_le_add b8 b9)))))))))
end
section
open Go.RowKit Go.Deep
theorem eu.imp {F:Nat→Prop} {P:Program} {α β:Type} {c:bY α} {d:bY β} {t:TypeId} (h:eu F P c t) (k:∀w cs a,c.is w cs a→∃b,d.is w cs b∧d.bI b≤c.bI a):eu F P d t:=by
 intro H enc w base spare held fuel cs x hF h1
 obtain⟨a,ha,hb⟩:=h hF h1
 obtain⟨b,h2,h3⟩:=k _ _ _ ha
 exact⟨b,h2,Nat.le_trans h3 hb⟩
theorem fL {α:Type} {cs a b:List α} {n:Nat} (h1:cs.take n=a) (h2:cs.drop n=b):cs=a++b:=by rw[←h1,←h2,List.take_append_drop]
def wu:bY lD where
 size:=2
 is:=fun w cs x=>cs=[.int .i64 x.time,.int .i64 x.way]∧aN x.time∧aN x.way
 len:=fun h=>by obtain⟨rfl,_⟩:=h;rfl
 mono:=fun h _=>h
 bI:=fun x=>cN.bI x.time+(cN.bI x.way)
theorem ae9:Reads Tryz.prog wu 151:=
 (CT (F:=fun _=>True) Tryz.underlying151 (c0:=cN) (c1:=cN) (by kernel_rfl) rfl rfl (by kernel_rfl) (by kernel_rfl) (iC Tryz.underlying3) (iC Tryz.underlying3)).imp fun w cs a h=>by
  obtain⟨a0,a1⟩:=a
  obtain⟨h0,h1⟩:=h
  obtain⟨e0,b0⟩:=h0
  obtain⟨e1,b1⟩:=h1
  have iW:=fL e0 e1
  exact⟨⟨a0,a1⟩,⟨by rw[iW];rfl,b0,b1⟩,Nat.le_refl _⟩
theorem aev:Reads Tryz.prog (cm wu) 130:=uM Tryz.underlying130 (c:=wu) (by kernel_rfl) (by decide) ae9
def QZ:bY oQ where
 size:=2
 is:=fun w cs x=>∃v0:Value,cs=[.int .i64 x.kind,v0]∧aN x.kind∧(cm wu).is w [v0] x.points
 len:=fun h=>by obtain⟨v0,rfl,_⟩:=h;rfl
 mono:=fun{w w' cs x} h g=>by obtain⟨v0,e,h0,h1⟩:=h;exact⟨v0,e,h0,((cm wu)).mono h1 g⟩
 bI:=fun x=>cN.bI x.kind+((cm wu).bI x.points)
theorem ae5:Reads Tryz.prog QZ 132:=
 (CT (F:=fun _=>True) Tryz.underlying132 (c0:=cN) (c1:=(cm wu)) (by kernel_rfl) rfl rfl (by kernel_rfl) (by kernel_rfl) (iC Tryz.underlying3) aev).imp fun w cs a h=>by
  obtain⟨a0,a1⟩:=a
  obtain⟨h0,h1⟩:=h
  obtain⟨e0,b0⟩:=h0
  obtain⟨s1,e1⟩:=List.length_eq_one_iff.1 (((cm wu)).len h1);rw[e1]at h1
  have iW:=fL e0 e1
  exact⟨⟨a0,a1⟩,⟨s1,by rw[iW];rfl,b0,h1⟩,Nat.le_refl _⟩
def zK:bY ow where
 size:=3
 is:=fun w cs x=>cs=[.int .i64 x.low,.int .i64 x.high,.string x.name]∧aN x.low∧aN x.high∧x.name.size≤maxLen
 len:=fun h=>by obtain⟨rfl,_⟩:=h;rfl
 mono:=fun h _=>h
 bI:=fun x=>cN.bI x.low+(cN.bI x.high+(qO.bI x.name))
theorem afa:Reads Tryz.prog zK 185:=
 (Kw (F:=fun _=>True) Tryz.underlying185 (c0:=cN) (c1:=cN) (c2:=qO) (by kernel_rfl) rfl rfl rfl (by kernel_rfl) (by kernel_rfl) (by kernel_rfl) (iC Tryz.underlying3) (iC Tryz.underlying3) (C3 Tryz.underlying9)).imp fun w cs a h=>by
  obtain⟨a0,a1,a2⟩:=a
  obtain⟨h0,h1,h2⟩:=h
  obtain⟨e0,b0⟩:=h0
  obtain⟨e1,b1⟩:=h1
  obtain⟨e2,b2⟩:=h2
  have nH:=fL e1 e2
  have iW:=fL e0 nH
  exact⟨⟨a0,a1,a2⟩,⟨by rw[iW];rfl,b0,b1,b2⟩,Nat.le_refl _⟩
theorem aex:Reads Tryz.prog (cm zK) 48:=uM Tryz.underlying48 (c:=zK) (by kernel_rfl) (by decide) afa
def zJ:bY ep where
 size:=7
 is:=fun w cs x=>∃v0:Value,cs=[.string x.name,.int .i64 x.group,.int .i64 x.nr,.int .i64 x.lZ,.int .i64 x.default,.bool x.snap,v0]∧x.name.size≤maxLen∧aN x.group∧aN x.nr∧aN x.lZ∧aN x.default∧(cm zK).is w [v0] x.ranges
 len:=fun h=>by obtain⟨v0,rfl,_⟩:=h;rfl
 mono:=fun{w w' cs x} h g=>by obtain⟨v0,e,h0,h1,h2,h3,h4,h5⟩:=h;exact⟨v0,e,h0,h1,h2,h3,h4,((cm zK)).mono h5 g⟩
 bI:=fun x=>qO.bI x.name+(cN.bI x.group+(cN.bI x.nr+(cN.bI x.lZ+(cN.bI x.default+(tM.bI x.snap+((cm zK).bI x.ranges))))))
theorem ae8:Reads Tryz.prog zJ 50:=
 (ad4 (F:=fun _=>True) Tryz.underlying50 (c0:=qO) (c1:=cN) (c2:=cN) (c3:=cN) (c4:=cN) (c5:=tM) (c6:=(cm zK)) (by kernel_rfl) rfl rfl rfl rfl rfl rfl rfl (by kernel_rfl) (by kernel_rfl) (by kernel_rfl) (by kernel_rfl) (by kernel_rfl) (by kernel_rfl) (by kernel_rfl) (C3 Tryz.underlying9) (iC Tryz.underlying3) (iC Tryz.underlying3) (iC Tryz.underlying3) (iC Tryz.underlying3) (KX Tryz.underlying4) aex).imp fun w cs a h=>by
  obtain⟨a0,a1,a2,a3,a4,a5,a6⟩:=a
  obtain⟨h0,h1,h2,h3,h4,h5,h6⟩:=h
  obtain⟨e0,b0⟩:=h0
  obtain⟨e1,b1⟩:=h1
  obtain⟨e2,b2⟩:=h2
  obtain⟨e3,b3⟩:=h3
  obtain⟨e4,b4⟩:=h4
  have e5:=h5;simp only[tM]at e5
  obtain⟨s6,e6⟩:=List.length_eq_one_iff.1 (((cm zK)).len h6);rw[e6]at h6
  have R3:=fL e5 e6
  have Is:=fL e4 R3
  have DG:=fL e3 Is
  have wR:=fL e2 DG
  have nH:=fL e1 wR
  have iW:=fL e0 nH
  exact⟨⟨a0,a1,a2,a3,a4,a5,a6⟩,⟨s6,by rw[iW];rfl,b0,b1,b2,b3,b4,h6⟩,Nat.le_refl _⟩
theorem aeu:Reads Tryz.prog (cm zJ) 99:=uM Tryz.underlying99 (c:=zJ) (by kernel_rfl) (by decide) ae8
def wj:bY cV where
 size:=3
 is:=fun w cs x=>∃v0:Value,cs=[.string x.name,.int .i64 x.size,v0]∧x.name.size≤maxLen∧aN x.size∧(cm zJ).is w [v0] x.params
 len:=fun h=>by obtain⟨v0,rfl,_⟩:=h;rfl
 mono:=fun{w w' cs x} h g=>by obtain⟨v0,e,h0,h1,h2⟩:=h;exact⟨v0,e,h0,h1,((cm zJ)).mono h2 g⟩
 bI:=fun x=>qO.bI x.name+(cN.bI x.size+((cm zJ).bI x.params))
theorem ad0:Reads Tryz.prog wj 101:=
 (Kw (F:=fun _=>True) Tryz.underlying101 (c0:=qO) (c1:=cN) (c2:=(cm zJ)) (by kernel_rfl) rfl rfl rfl (by kernel_rfl) (by kernel_rfl) (by kernel_rfl) (C3 Tryz.underlying9) (iC Tryz.underlying3) aeu).imp fun w cs a h=>by
  obtain⟨a0,a1,a2⟩:=a
  obtain⟨h0,h1,h2⟩:=h
  obtain⟨e0,b0⟩:=h0
  obtain⟨e1,b1⟩:=h1
  obtain⟨s2,e2⟩:=List.length_eq_one_iff.1 (((cm zJ)).len h2);rw[e2]at h2
  have nH:=fL e1 e2
  have iW:=fL e0 nH
  exact⟨⟨a0,a1,a2⟩,⟨s2,by rw[iW];rfl,b0,b1,h2⟩,Nat.le_refl _⟩
theorem adC:Reads Tryz.prog (cm wj) 22:=uM Tryz.underlying22 (c:=wj) (by kernel_rfl) (by decide) ad0
def wD:bY gW where
 size:=4
 is:=fun w cs x=>cs=[.int .i64 x.number,.string x.profile,.int .i64 x.univ,.int .i64 x.address]∧aN x.number∧x.profile.size≤maxLen∧aN x.univ∧aN x.address
 len:=fun h=>by obtain⟨rfl,_⟩:=h;rfl
 mono:=fun h _=>h
 bI:=fun x=>cN.bI x.number+(qO.bI x.profile+(cN.bI x.univ+(cN.bI x.address)))
theorem agj:Reads Tryz.prog wD 103:=
 (U1 (F:=fun _=>True) Tryz.underlying103 (c0:=cN) (c1:=qO) (c2:=cN) (c3:=cN) (by kernel_rfl) rfl rfl rfl rfl (by kernel_rfl) (by kernel_rfl) (by kernel_rfl) (by kernel_rfl) (iC Tryz.underlying3) (C3 Tryz.underlying9) (iC Tryz.underlying3) (iC Tryz.underlying3)).imp fun w cs a h=>by
  obtain⟨a0,a1,a2,a3⟩:=a
  obtain⟨h0,h1,h2,h3⟩:=h
  obtain⟨e0,b0⟩:=h0
  obtain⟨e1,b1⟩:=h1
  obtain⟨e2,b2⟩:=h2
  obtain⟨e3,b3⟩:=h3
  have wR:=fL e2 e3
  have nH:=fL e1 wR
  have iW:=fL e0 nH
  exact⟨⟨a0,a1,a2,a3⟩,⟨by rw[iW];rfl,b0,b1,b2,b3⟩,Nat.le_refl _⟩
theorem afc:Reads Tryz.prog (cm wD) 23:=uM Tryz.underlying23 (c:=wD) (by kernel_rfl) (by decide) agj
def SF:bY gp where
 size:=2
 is:=fun w cs x=>∃v0 v1:Value,cs=[v0,v1]∧(cm wj).is w [v0] x.aY∧(cm wD).is w [v1] x.units
 len:=fun h=>by obtain⟨v0,v1,rfl,_⟩:=h;rfl
 mono:=fun{w w' cs x} h g=>by obtain⟨v0,v1,e,h0,h1⟩:=h;exact⟨v0,v1,e,((cm wj)).mono h0 g,((cm wD)).mono h1 g⟩
 bI:=fun x=>(cm wj).bI x.aY+((cm wD).bI x.units)
theorem ahB:Reads Tryz.prog SF 25:=
 (CT (F:=fun _=>True) Tryz.underlying25 (c0:=(cm wj)) (c1:=(cm wD)) (by kernel_rfl) rfl rfl (by kernel_rfl) (by kernel_rfl) adC afc).imp fun w cs a h=>by
  obtain⟨a0,a1⟩:=a
  obtain⟨h0,h1⟩:=h
  obtain⟨s0,e0⟩:=List.length_eq_one_iff.1 (((cm wj)).len h0);rw[e0]at h0
  obtain⟨s1,e1⟩:=List.length_eq_one_iff.1 (((cm wD)).len h1);rw[e1]at h1
  have iW:=fL e0 e1
  exact⟨⟨a0,a1⟩,⟨s0,s1,by rw[iW];rfl,h0,h1⟩,Nat.le_refl _⟩
def ID:bY aB where
 size:=2
 is:=fun w cs x=>cs=[.int .i64 x.unit,.string x.param]∧aN x.unit∧x.param.size≤maxLen
 len:=fun h=>by obtain⟨rfl,_⟩:=h;rfl
 mono:=fun h _=>h
 bI:=fun x=>cN.bI x.unit+(qO.bI x.param)
theorem W8:Reads Tryz.prog ID 45:=
 (CT (F:=fun _=>True) Tryz.underlying45 (c0:=cN) (c1:=qO) (by kernel_rfl) rfl rfl (by kernel_rfl) (by kernel_rfl) (iC Tryz.underlying3) (C3 Tryz.underlying9)).imp fun w cs a h=>by
  obtain⟨a0,a1⟩:=a
  obtain⟨h0,h1⟩:=h
  obtain⟨e0,b0⟩:=h0
  obtain⟨e1,b1⟩:=h1
  have iW:=fL e0 e1
  exact⟨⟨a0,a1⟩,⟨by rw[iW];rfl,b0,b1⟩,Nat.le_refl _⟩
def zq:bY lK where
 size:=3
 is:=fun w cs x=>cs=[.int .i64 x.key.unit,.string x.key.param,.int .i64 x.level]∧aN x.key.unit∧x.key.param.size≤maxLen∧aN x.level
 len:=fun h=>by obtain⟨rfl,_⟩:=h;rfl
 mono:=fun h _=>h
 bI:=fun x=>ID.bI x.key+(cN.bI x.level)
theorem ad1:Reads Tryz.prog zq 47:=
 (CT (F:=fun _=>True) Tryz.underlying47 (c0:=ID) (c1:=cN) (by kernel_rfl) rfl rfl (by kernel_rfl) (by kernel_rfl) W8 (iC Tryz.underlying3)).imp fun w cs a h=>by
  obtain⟨a0,a1⟩:=a
  obtain⟨h0,h1⟩:=h
  obtain⟨e0,b0⟩:=h0
  obtain⟨Ib,Ic⟩:=b0
  obtain⟨e1,b1⟩:=h1
  have iW:=fL e0 e1
  exact⟨⟨a0,a1⟩,⟨by rw[iW];rfl,Ib,Ic,b1⟩,Nat.le_refl _⟩
theorem adD:Reads Tryz.prog (cm zq) 40:=uM Tryz.underlying40 (c:=zq) (by kernel_rfl) (by decide) ad1
def zA:bY jU where
 size:=3
 is:=fun w cs x=>∃v0:Value,cs=[.int .i64 x.number,.string x.title,v0]∧aN x.number∧x.title.size≤maxLen∧(cm zq).is w [v0] x.jK
 len:=fun h=>by obtain⟨v0,rfl,_⟩:=h;rfl
 mono:=fun{w w' cs x} h g=>by obtain⟨v0,e,h0,h1,h2⟩:=h;exact⟨v0,e,h0,h1,((cm zq)).mono h2 g⟩
 bI:=fun x=>cN.bI x.number+(qO.bI x.title+((cm zq).bI x.jK))
theorem aew:Reads Tryz.prog zA 187:=
 (Kw (F:=fun _=>True) Tryz.underlying187 (c0:=cN) (c1:=qO) (c2:=(cm zq)) (by kernel_rfl) rfl rfl rfl (by kernel_rfl) (by kernel_rfl) (by kernel_rfl) (iC Tryz.underlying3) (C3 Tryz.underlying9) adD).imp fun w cs a h=>by
  obtain⟨a0,a1,a2⟩:=a
  obtain⟨h0,h1,h2⟩:=h
  obtain⟨e0,b0⟩:=h0
  obtain⟨e1,b1⟩:=h1
  obtain⟨s2,e2⟩:=List.length_eq_one_iff.1 (((cm zq)).len h2);rw[e2]at h2
  have nH:=fL e1 e2
  have iW:=fL e0 nH
  exact⟨⟨a0,a1,a2⟩,⟨s2,by rw[iW];rfl,b0,b1,h2⟩,Nat.le_refl _⟩
theorem adZ:Reads Tryz.prog (cm zA) 26:=uM Tryz.underlying26 (c:=zA) (by kernel_rfl) (by decide) aew
def Rg:bY lW where
 size:=2
 is:=fun w cs x=>cs=[.int .i64 x.level,.int .i64 x.gf]∧aN x.level∧aN x.gf
 len:=fun h=>by obtain⟨rfl,_⟩:=h;rfl
 mono:=fun h _=>h
 bI:=fun x=>cN.bI x.level+(cN.bI x.gf)
theorem afd:Reads Tryz.prog Rg 193:=
 (CT (F:=fun _=>True) Tryz.underlying193 (c0:=cN) (c1:=cN) (by kernel_rfl) rfl rfl (by kernel_rfl) (by kernel_rfl) (iC Tryz.underlying3) (iC Tryz.underlying3)).imp fun w cs a h=>by
  obtain⟨a0,a1⟩:=a
  obtain⟨h0,h1⟩:=h
  obtain⟨e0,b0⟩:=h0
  obtain⟨e1,b1⟩:=h1
  have iW:=fL e0 e1
  exact⟨⟨a0,a1⟩,⟨by rw[iW];rfl,b0,b1⟩,Nat.le_refl _⟩
def zT:bY fF where
 size:=8
 is:=fun w cs x=>cs=[.int .i64 x.key.unit,.string x.key.param,.int .i64 x.value.level,.int .i64 x.value.gf,.bool x.release,.bool x.yK,.int .i64 x.delay,.int .i64 x.time]∧aN x.key.unit∧x.key.param.size≤maxLen∧aN x.value.level∧aN x.value.gf∧aN x.delay∧aN x.time
 len:=fun h=>by obtain⟨rfl,_⟩:=h;rfl
 mono:=fun h _=>h
 bI:=fun x=>ID.bI x.key+(Rg.bI x.value+(tM.bI x.release+(tM.bI x.yK+(cN.bI x.delay+(cN.bI x.time)))))
theorem agi:Reads Tryz.prog zT 195:=
 (ad3 (F:=fun _=>True) Tryz.underlying195 (c0:=ID) (c1:=Rg) (c2:=tM) (c3:=tM) (c4:=cN) (c5:=cN) (by kernel_rfl) rfl rfl rfl rfl rfl rfl (by kernel_rfl) (by kernel_rfl) (by kernel_rfl) (by kernel_rfl) (by kernel_rfl) (by kernel_rfl) W8 afd (KX Tryz.underlying4) (KX Tryz.underlying4) (iC Tryz.underlying3) (iC Tryz.underlying3)).imp fun w cs a h=>by
  obtain⟨a0,a1,a2,a3,a4,a5⟩:=a
  obtain⟨h0,h1,h2,h3,h4,h5⟩:=h
  obtain⟨e0,b0⟩:=h0
  obtain⟨Ib,Ic⟩:=b0
  obtain⟨e1,b1⟩:=h1
  obtain⟨amH,amI⟩:=b1
  have e2:=h2;simp only[tM]at e2
  have e3:=h3;simp only[tM]at e3
  obtain⟨e4,b4⟩:=h4
  obtain⟨e5,b5⟩:=h5
  have Is:=fL e4 e5
  have DG:=fL e3 Is
  have wR:=fL e2 DG
  have nH:=fL e1 wR
  have iW:=fL e0 nH
  exact⟨⟨a0,a1,a2,a3,a4,a5⟩,⟨by rw[iW];rfl,Ib,Ic,amH,amI,b4,b5⟩,Nat.le_refl _⟩
theorem ae7:Reads Tryz.prog (cm zT) 133:=uM Tryz.underlying133 (c:=zT) (by kernel_rfl) (by decide) agi
def An:bY bg where
 size:=11
 is:=fun w cs x=>∃v0 v1:Value,cs=[.int .i64 x.number,.string x.title,.int .i64 x.delay,.int .i64 x.up,.int .i64 x.down,.int .i64 x.other,.int .i64 x.fu.kind,v0,.bool x.block,.int .i64 x.follow,v1]∧aN x.number∧x.title.size≤maxLen∧aN x.delay∧aN x.up∧aN x.down∧aN x.other∧aN x.fu.kind∧(cm wu).is w [v0] x.fu.points∧aN x.follow∧(cm zT).is w [v1] x.dw
 len:=fun h=>by obtain⟨v0,v1,rfl,_⟩:=h;rfl
 mono:=fun{w w' cs x} h g=>by obtain⟨v0,v1,e,h0,h1,h2,h3,h4,h5,h6,h7,h8,h9⟩:=h;exact⟨v0,v1,e,h0,h1,h2,h3,h4,h5,h6,((cm wu)).mono h7 g,h8,((cm zT)).mono h9 g⟩
 bI:=fun x=>cN.bI x.number+(qO.bI x.title+(cN.bI x.delay+(cN.bI x.up+(cN.bI x.down+(cN.bI x.other+(QZ.bI x.fu+(tM.bI x.block+(cN.bI x.follow+((cm zT).bI x.dw)))))))))
theorem ahA:Reads Tryz.prog An 135:=
 (adE (F:=fun _=>True) Tryz.underlying135 (c0:=cN) (c1:=qO) (c2:=cN) (c3:=cN) (c4:=cN) (c5:=cN) (c6:=QZ) (c7:=tM) (c8:=cN) (c9:=(cm zT)) (by kernel_rfl) rfl rfl rfl rfl rfl rfl rfl rfl rfl rfl (by kernel_rfl) (by kernel_rfl) (by kernel_rfl) (by kernel_rfl) (by kernel_rfl) (by kernel_rfl) (by kernel_rfl) (by kernel_rfl) (by kernel_rfl) (by kernel_rfl) (iC Tryz.underlying3) (C3 Tryz.underlying9) (iC Tryz.underlying3) (iC Tryz.underlying3) (iC Tryz.underlying3) (iC Tryz.underlying3) ae5 (KX Tryz.underlying4) (iC Tryz.underlying3) ae7).imp fun w cs a h=>by
  obtain⟨a0,a1,a2,a3,a4,a5,a6,a7,a8,a9⟩:=a
  obtain⟨h0,h1,h2,h3,h4,h5,h6,h7,h8,h9⟩:=h
  obtain⟨e0,b0⟩:=h0
  obtain⟨e1,b1⟩:=h1
  obtain⟨e2,b2⟩:=h2
  obtain⟨e3,b3⟩:=h3
  obtain⟨e4,b4⟩:=h4
  obtain⟨e5,b5⟩:=h5
  obtain⟨aoy,e6,b6⟩:=h6
  obtain⟨amJ,amK⟩:=b6
  have e7:=h7;simp only[tM]at e7
  obtain⟨e8,b8⟩:=h8
  obtain⟨s9,e9⟩:=List.length_eq_one_iff.1 (((cm zT)).len h9);rw[e9]at h9
  have anD:=fL e8 e9
  have anC:=fL e7 anD
  have anB:=fL e6 anC
  have R3:=fL e5 anB
  have Is:=fL e4 R3
  have DG:=fL e3 Is
  have wR:=fL e2 DG
  have nH:=fL e1 wR
  have iW:=fL e0 nH
  exact⟨⟨a0,a1,a2,a3,a4,a5,a6,a7,a8,a9⟩,⟨aoy,s9,by rw[iW];rfl,b0,b1,b2,b3,b4,b5,amJ,amK,b8,h9⟩,Nat.le_refl _⟩
theorem agf:Reads Tryz.prog (cm An) 68:=uM Tryz.underlying68 (c:=An) (by kernel_rfl) (by decide) ahA
def zR:bY iU where
 size:=2
 is:=fun w cs x=>∃v0:Value,cs=[.int .i64 x.number,v0]∧aN x.number∧(cm An).is w [v0] x.bD
 len:=fun h=>by obtain⟨v0,rfl,_⟩:=h;rfl
 mono:=fun{w w' cs x} h g=>by obtain⟨v0,e,h0,h1⟩:=h;exact⟨v0,e,h0,((cm An)).mono h1 g⟩
 bI:=fun x=>cN.bI x.number+((cm An).bI x.bD)
theorem agh:Reads Tryz.prog zR 70:=
 (CT (F:=fun _=>True) Tryz.underlying70 (c0:=cN) (c1:=(cm An)) (by kernel_rfl) rfl rfl (by kernel_rfl) (by kernel_rfl) (iC Tryz.underlying3) agf).imp fun w cs a h=>by
  obtain⟨a0,a1⟩:=a
  obtain⟨h0,h1⟩:=h
  obtain⟨e0,b0⟩:=h0
  obtain⟨s1,e1⟩:=List.length_eq_one_iff.1 (((cm An)).len h1);rw[e1]at h1
  have iW:=fL e0 e1
  exact⟨⟨a0,a1⟩,⟨s1,by rw[iW];rfl,b0,h1⟩,Nat.le_refl _⟩
theorem ae6:Reads Tryz.prog (cm zR) 27:=uM Tryz.underlying27 (c:=zR) (by kernel_rfl) (by decide) agh
def zm:bY lJ where
 size:=3
 is:=fun w cs x=>cs=[.int .i64 x.number,.int .i64 x.list,.int .i64 x.priority]∧aN x.number∧aN x.list∧aN x.priority
 len:=fun h=>by obtain⟨rfl,_⟩:=h;rfl
 mono:=fun h _=>h
 bI:=fun x=>cN.bI x.number+(cN.bI x.list+(cN.bI x.priority))
theorem adB:Reads Tryz.prog zm 57:=
 (Kw (F:=fun _=>True) Tryz.underlying57 (c0:=cN) (c1:=cN) (c2:=cN) (by kernel_rfl) rfl rfl rfl (by kernel_rfl) (by kernel_rfl) (by kernel_rfl) (iC Tryz.underlying3) (iC Tryz.underlying3) (iC Tryz.underlying3)).imp fun w cs a h=>by
  obtain⟨a0,a1,a2⟩:=a
  obtain⟨h0,h1,h2⟩:=h
  obtain⟨e0,b0⟩:=h0
  obtain⟨e1,b1⟩:=h1
  obtain⟨e2,b2⟩:=h2
  have nH:=fL e1 e2
  have iW:=fL e0 nH
  exact⟨⟨a0,a1,a2⟩,⟨by rw[iW];rfl,b0,b1,b2⟩,Nat.le_refl _⟩
theorem adi:Reads Tryz.prog (cm zm) 28:=uM Tryz.underlying28 (c:=zm) (by kernel_rfl) (by decide) adB
def ZU:bY fU where
 size:=5
 is:=fun w cs x=>∃v0 v1 v2 v3 v4:Value,cs=[v0,v1,v2,v3,v4]∧(cm wj).is w [v0] x.aQ.aY∧(cm wD).is w [v1] x.aQ.units∧(cm zA).is w [v2] x.bH∧(cm zR).is w [v3] x.lists∧(cm zm).is w [v4] x.bk
 len:=fun h=>by obtain⟨v0,v1,v2,v3,v4,rfl,_⟩:=h;rfl
 mono:=fun{w w' cs x} h g=>by obtain⟨v0,v1,v2,v3,v4,e,h0,h1,h2,h3,h4⟩:=h;exact⟨v0,v1,v2,v3,v4,e,((cm wj)).mono h0 g,((cm wD)).mono h1 g,((cm zA)).mono h2 g,((cm zR)).mono h3 g,((cm zm)).mono h4 g⟩
 bI:=fun x=>SF.bI x.aQ+((cm zA).bI x.bH+((cm zR).bI x.lists+((cm zm).bI x.bk)))
theorem afb:Reads Tryz.prog ZU 30:=
 (U1 (F:=fun _=>True) Tryz.underlying30 (c0:=SF) (c1:=(cm zA)) (c2:=(cm zR)) (c3:=(cm zm)) (by kernel_rfl) rfl rfl rfl rfl (by kernel_rfl) (by kernel_rfl) (by kernel_rfl) (by kernel_rfl) ahB adZ ae6 adi).imp fun w cs a h=>by
  obtain⟨a0,a1,a2,a3⟩:=a
  obtain⟨h0,h1,h2,h3⟩:=h
  obtain⟨aov,aow,e0,b0⟩:=h0
  obtain⟨Ib,Ic⟩:=b0
  obtain⟨s1,e1⟩:=List.length_eq_one_iff.1 (((cm zA)).len h1);rw[e1]at h1
  obtain⟨s2,e2⟩:=List.length_eq_one_iff.1 (((cm zR)).len h2);rw[e2]at h2
  obtain⟨s3,e3⟩:=List.length_eq_one_iff.1 (((cm zm)).len h3);rw[e3]at h3
  have wR:=fL e2 e3
  have nH:=fL e1 wR
  have iW:=fL e0 nH
  exact⟨⟨a0,a1,a2,a3⟩,⟨aov,aow,s1,s2,s3,by rw[iW];rfl,Ib,Ic,h1,h2,h3⟩,Nat.le_refl _⟩
def LV:bY dR where
 size:=5
 is:=fun w cs x=>cs=[.int .i64 x.time,.int .i64 x.kind,.int .i64 x.iN,.int .i64 x.bQ,.int .i64 x.level]∧aN x.time∧aN x.kind∧aN x.iN∧aN x.bQ∧aN x.level
 len:=fun h=>by obtain⟨rfl,_⟩:=h;rfl
 mono:=fun h _=>h
 bI:=fun x=>cN.bI x.time+(cN.bI x.kind+(cN.bI x.iN+(cN.bI x.bQ+(cN.bI x.level))))
theorem aet:Reads Tryz.prog LV 37:=
 (ad2 (F:=fun _=>True) Tryz.underlying37 (c0:=cN) (c1:=cN) (c2:=cN) (c3:=cN) (c4:=cN) (by kernel_rfl) rfl rfl rfl rfl rfl (by kernel_rfl) (by kernel_rfl) (by kernel_rfl) (by kernel_rfl) (by kernel_rfl) (iC Tryz.underlying3) (iC Tryz.underlying3) (iC Tryz.underlying3) (iC Tryz.underlying3) (iC Tryz.underlying3)).imp fun w cs a h=>by
  obtain⟨a0,a1,a2,a3,a4⟩:=a
  obtain⟨h0,h1,h2,h3,h4⟩:=h
  obtain⟨e0,b0⟩:=h0
  obtain⟨e1,b1⟩:=h1
  obtain⟨e2,b2⟩:=h2
  obtain⟨e3,b3⟩:=h3
  obtain⟨e4,b4⟩:=h4
  have DG:=fL e3 e4
  have wR:=fL e2 DG
  have nH:=fL e1 wR
  have iW:=fL e0 nH
  exact⟨⟨a0,a1,a2,a3,a4⟩,⟨by rw[iW];rfl,b0,b1,b2,b3,b4⟩,Nat.le_refl _⟩
theorem adY:Reads Tryz.prog (cm LV) 31:=uM Tryz.underlying31 (c:=LV) (by kernel_rfl) (by decide) aet
end
section
open Go.RowKit Go.Deep
section
variable {c : RC}
theorem sL:aI c [] []:=by simp [aI]
theorem dG {a:AV} {v:Value} {l:List AV} {vs:List Value} (h:ak c a v) (k:aI c l vs):aI c (a::l) (v::vs):=by
 simp only[aI];exact⟨v,vs,rfl,h,k⟩
theorem gR (k:IntKind) (n:Int):ak c (.int k n) (.int k n):=by simp [ak]
theorem LJ (b:Bool):ak c (.bool b) (.bool b):=by simp [ak]
theorem BE (s:ByteArray):ak c (.str s) (.string s):=by simp [ak]
def RP {α:Type} (c:RC) (d:bY α) (e:α→List AV) (ok:α→Prop):Prop:=∀cs x,d.is c.w cs x→aI c (e x) cs∧ok x∧(∀v∈cs,dI v=true)
theorem Ya:∀{l:List AV} {vs:List Value},aI c l vs→l.length=vs.length
 |[],vs,h=>by simp only[aI]at h;subst h;rfl
 |a::l,vs,h=>by
  simp only[aI]at h
  obtain⟨v,vs',rfl,_,h⟩:=h
  simp [Ya h]
theorem X8 {b:Nat}:∀{l:List AV} {vs:List Value} {off:Nat},aI c l vs→(∀v∈vs,dI v=true)→(∀j,j<vs.length→c.w.cell? ⟨b,off+j,none⟩=vs[j]?)→bu c b off l
 |[],vs,off,h,_,_=>by simp [bu]
 |a::l,vs,off,h,ho,hc=>by
  simp only[aI]at h
  obtain⟨v,vs',rfl,h1,h2⟩:=h
  simp only[bu]
  refine⟨⟨v,by simpa using hc 0 (by simp),ho v (by simp),h1⟩,X8 h2 (fun v hv=>ho v (by simp [hv])) fun j hj=>?_⟩
  have:=hc (j+1) (by simpa using hj)
  rw[show off+1+j=off+(j+1) by omega]
  simpa using this
theorem X9 {α:Type} {d:bY α} {e:α→List AV} {ok:α→Prop} (H:RP c d e ok) {b sz:Nat} (hsz:d.size=sz):∀{l:List α} {off:Nat},(∀(i:Nat) (x:α),l[i]? =some x→∃cs',(∀j,j<d.size→c.w.cell? ⟨b,off+(i*d.size+j),none⟩=cs'[j]?)∧d.is c.w cs' x)→bA c sz b off (l.map e)∧∀x∈l,ok x
 |[],off,h=>by simp [bA]
 |x::l,off,h=>by
  obtain⟨cs,h1,h2⟩:=h 0 x rfl
  obtain⟨k1,k2,k3⟩:=H cs x h2
  have hl:cs.length=d.size:=d.len h2
  obtain⟨r1,r2⟩:=X9 H hsz (l:=l) (off:=off+sz) (fun i y hy=>by
   obtain⟨cs',q1,q2⟩:=h (i+1) y (by simpa using hy)
   refine⟨cs',fun j hj=>?_,q2⟩
   have:=q1 j hj
   rw[←hsz]
   rwa[show off+d.size+(i*d.size+j)=off+((i+1)*d.size+j) by rw[Nat.succ_mul];omega])
  refine⟨?_,fun y hy=>?_⟩
  ·simp only[List.map_cons,bA]
   refine⟨by rw[Ya k1,hl,hsz],X8 k1 k3 fun j hj=>?_,r1⟩
   have:=h1 j (by rw[←hl];exact hj)
   simpa using this
  ·rcases List.mem_cons.1 hy with rfl|hy
   ·exact k2
   ·exact r2 y hy
theorem ajr {w:World} {b off:Nat} {v:Value} (h:w.cell? ⟨b,off,none⟩=some v):b<w.heap.size:=by
 rcases Nat.lt_or_ge b w.heap.size with k|k
 ·exact k
 ·simp [World.cell?,Array.getElem?_eq_none k]at h
theorem uR {α:Type} {d:bY α} {e:α→List AV} {ok:α→Prop} (hX:∀b,¬c.X b) (H:RP c d e ok) {sz:Nat} (hsz:d.size=sz) (h0:0<sz) {v:Value} {l:List α} (h:(cm d).is c.w [v] l):ak c (sl sz e l) v∧eZ ok l∧dI v=true:=by
 rcases h with⟨h1,rfl⟩|⟨b,off,sp,cap,h1,h2,h3,h4⟩
 ·simp only[List.cons.injEq,and_true]at h1
  subst h1
  exact⟨by simp [sl,ak,h0],⟨by simp,by simp⟩,rfl⟩
 ·simp only[List.cons.injEq,and_true]at h1
  subst h1
  have xG:sp=none∨l=[]:=by
   cases l with
   |nil=>exact .inr rfl
   |cons x l=>exact .inl (h4 0 (by simp)).1
  have hh:∀(i:Nat) (x:α),l[i]? =some x→∃cs',(∀j,j<d.size→c.w.cell? ⟨b,off+(i*d.size+j),none⟩=cs'[j]?)∧d.is c.w cs' x:=by
   intro i x hx
   obtain⟨hi,hx⟩:=List.getElem?_eq_some_iff.1 hx
   subst hx
   exact(h4 i hi).2
  obtain⟨r1,r2⟩:=X9 H hsz hh
  refine⟨?_,⟨by unfold maxLen at h3;unfold aW;omega,r2⟩,rfl⟩
  simp only[sl,ak]
  refine⟨some ⟨b,off,sp⟩,cap,by simp,by simpa using h2,h0,?_⟩
  rcases xG with rfl|rfl
  ·cases l with
   |nil=>exact .inl rfl
   |cons x l=>
    refine .inr ⟨b,off,rfl,?_,hX b,r1⟩
    obtain⟨cs,q1,q2⟩:=hh 0 x rfl
    have hl:cs.length=d.size:=d.len q2
    have:=q1 0 (by omega)
    obtain⟨y,hy⟩:∃y,cs[0]? =some y:=⟨cs[0],List.getElem?_eq_getElem (by omega)⟩
    rw[hy]at this
    exact ajr this
  ·exact .inl rfl
theorem tK:∀v∈([]:List Value),dI v=true:=by simp
theorem dO {v:Value} {vs:List Value} (h:dI v=true) (k:∀x∈vs,dI x=true):∀x∈v::vs,dI x=true:=by
 intro x hx
 rcases List.mem_cons.1 hx with rfl|hx
 ·exact h
 ·exact k x hx
theorem aiZ:RP c wu gV YQ:=by
 rintro cs x ⟨rfl,h0,h1⟩
 exact⟨(dG (gR _ _) (dG (gR _ _) sL)),⟨h0,h1⟩,(dO rfl (dO rfl tK))⟩
theorem ai0:RP c zK mm QN:=by
 rintro cs x ⟨rfl,h0,h1,h2⟩
 exact⟨(dG (gR _ _) (dG (gR _ _) (dG (BE _) sL))),⟨h0,h1,(show jc _ by unfold jc aW;have:=h2;unfold maxLen at this;omega)⟩,(dO rfl (dO rfl (dO rfl tK)))⟩
theorem aiY (hX:∀b,¬c.X b):RP c zJ eU YP:=by
 rintro cs x ⟨v0,rfl,h0,h1,h2,h3,h4,h6⟩
 obtain⟨r6,o6,n6⟩:=uR hX ai0 (sz:=3) rfl (by decide) h6
 exact⟨(dG (BE _) (dG (gR _ _) (dG (gR _ _) (dG (gR _ _) (dG (gR _ _) (dG (LJ _) (dG r6 sL))))))),⟨(show jc _ by unfold jc aW;have:=h0;unfold maxLen at this;omega),h1,h2,h3,h4,o6⟩,(dO rfl (dO rfl (dO rfl (dO rfl (dO rfl (dO rfl (dO n6 tK)))))))⟩
theorem agm (hX:∀b,¬c.X b):RP c wj ck Lh:=by
 rintro cs x ⟨v0,rfl,h0,h1,h2⟩
 obtain⟨r2,o2,n2⟩:=uR hX (aiY hX) (sz:=7) rfl (by decide) h2
 exact⟨(dG (BE _) (dG (gR _ _) (dG r2 sL))),⟨(show jc _ by unfold jc aW;have:=h0;unfold maxLen at this;omega),h1,o2⟩,(dO rfl (dO rfl (dO n2 tK)))⟩
theorem akC:RP c wD bV ZL:=by
 rintro cs x ⟨rfl,h0,h1,h2,h3⟩
 exact⟨(dG (gR _ _) (dG (BE _) (dG (gR _ _) (dG (gR _ _) sL)))),⟨h0,(show jc _ by unfold jc aW;have:=h1;unfold maxLen at this;omega),h2,h3⟩,(dO rfl (dO rfl (dO rfl (dO rfl tK))))⟩
theorem agn:RP c zq dX WT:=by
 rintro cs x ⟨rfl,h0,h1,h2⟩
 exact⟨(dG (gR _ _) (dG (BE _) (dG (gR _ _) sL))),⟨⟨h0,(show jc _ by unfold jc aW;have:=h1;unfold maxLen at this;omega)⟩,h2⟩,(dO rfl (dO rfl (dO rfl tK)))⟩
theorem ahG (hX:∀b,¬c.X b):RP c zA dL zo:=by
 rintro cs x ⟨v0,rfl,h0,h1,h2⟩
 obtain⟨r2,o2,n2⟩:=uR hX agn (sz:=3) rfl (by decide) h2
 exact⟨(dG (gR _ _) (dG (BE _) (dG r2 sL))),⟨h0,(show jc _ by unfold jc aW;have:=h1;unfold maxLen at this;omega),o2⟩,(dO rfl (dO rfl (dO n2 tK)))⟩
theorem akB:RP c zT fH Mp:=by
 rintro cs x ⟨rfl,h0,h1,h2,h3,h6,h7⟩
 exact⟨(dG (gR _ _) (dG (BE _) (dG (gR _ _) (dG (gR _ _) (dG (LJ _) (dG (LJ _) (dG (gR _ _) (dG (gR _ _) sL)))))))),⟨⟨h0,(show jc _ by unfold jc aW;have:=h1;unfold maxLen at this;omega)⟩,⟨h2,h3⟩,h6,h7⟩,(dO rfl (dO rfl (dO rfl (dO rfl (dO rfl (dO rfl (dO rfl (dO rfl tK))))))))⟩
theorem alD (hX:∀b,¬c.X b):RP c An aZ BY:=by
 rintro cs x ⟨v0,v1,rfl,h0,h1,h2,h3,h4,h5,h6,h7,h9,Tn⟩
 obtain⟨r7,o7,n7⟩:=uR hX aiZ (sz:=2) rfl (by decide) h7
 obtain⟨jm,o10,n10⟩:=uR hX akB (sz:=8) rfl (by decide) Tn
 exact⟨(dG (gR _ _) (dG (BE _) (dG (gR _ _) (dG (gR _ _) (dG (gR _ _) (dG (gR _ _) (dG (gR _ _) (dG r7 (dG (LJ _) (dG (gR _ _) (dG jm sL))))))))))),⟨h0,(show jc _ by unfold jc aW;have:=h1;unfold maxLen at this;omega),h2,h3,h4,h5,⟨h6,o7⟩,h9,o10⟩,(dO rfl (dO rfl (dO rfl (dO rfl (dO rfl (dO rfl (dO rfl (dO n7 (dO rfl (dO rfl (dO n10 tK)))))))))))⟩
theorem akA (hX:∀b,¬c.X b):RP c zR dQ ZK:=by
 rintro cs x ⟨v0,rfl,h0,h1⟩
 obtain⟨r1,o1,n1⟩:=uR hX (alD hX) (sz:=11) rfl (by decide) h1
 exact⟨(dG (gR _ _) (dG r1 sL)),⟨h0,o1⟩,(dO rfl (dO n1 tK))⟩
theorem afg:RP c zm bO VY:=by
 rintro cs x ⟨rfl,h0,h1,h2⟩
 exact⟨(dG (gR _ _) (dG (gR _ _) (dG (gR _ _) sL))),⟨h0,h1,h2⟩,(dO rfl (dO rfl (dO rfl tK)))⟩
theorem ai1 (hX:∀b,¬c.X b):RP c ZU bB uT:=by
 rintro cs x ⟨v0,v1,v2,v3,v4,rfl,h0,h1,h2,h3,h4⟩
 obtain⟨r0,o0,n0⟩:=uR hX (agm hX) (sz:=3) rfl (by decide) h0
 obtain⟨r1,o1,n1⟩:=uR hX akC (sz:=4) rfl (by decide) h1
 obtain⟨r2,o2,n2⟩:=uR hX (ahG hX) (sz:=3) rfl (by decide) h2
 obtain⟨r3,o3,n3⟩:=uR hX (akA hX) (sz:=2) rfl (by decide) h3
 obtain⟨r4,o4,n4⟩:=uR hX afg (sz:=3) rfl (by decide) h4
 exact⟨(dG r0 (dG r1 (dG r2 (dG r3 (dG r4 sL))))),⟨⟨o0,o1⟩,o2,o3,o4⟩,(dO n0 (dO n1 (dO n2 (dO n3 (dO n4 tK)))))⟩
theorem ahF:RP c LV bE LH:=by
 rintro cs x ⟨rfl,h0,h1,h2,h3,h4⟩
 exact⟨(dG (gR _ _) (dG (gR _ _) (dG (gR _ _) (dG (gR _ _) (dG (gR _ _) sL))))),⟨h0,h1,h2,h3,h4⟩,(dO rfl (dO rfl (dO rfl (dO rfl (dO rfl tK)))))⟩
theorem alE {α:Type} {d:bY α} {e:α→List AV} {ok:α→Prop} (H:RP c d e ok) {cs:Array Value} {x:α} (h:d.is c.w cs.toList x):ak c (.agg (e x)) (.agg cs)∧ok x:=by
 obtain⟨h1,h2,h3⟩:=H _ _ h
 simp only[ak]
 exact⟨⟨cs,rfl,h1,h3⟩,h2⟩
end
end
section
open Go.RowKit
noncomputable def base (W:World):RC:=ctx ⟨W,[],fun _=>False,aF⟩ W [] cK
theorem Zj (W:World):∀b,¬(base W).X b:=by
 rintro b (k|⟨p,hp,_⟩|⟨i,k⟩)
 ·exact k
 ·cases hp
 ·cases k
theorem aj1 {n:FuncId} {m:List AV→Heap→Option (AV×Heap)} {nu:List AV} (hs:Sound Tryz.prog aF n m) (hc:∀us w,(callFunc n us).run Tryz.prog w=.ok (.enter n us) w) (W:World) (vs:Array Value) (hr:aI (base W) nu vs.toList) (hm:m nu []=some (.bool true,[])):
  Calls Tryz.prog n vs W fun e W'=>e=.returned (.bool true)∧Below W.heap.size W W':=by
 have hh0:iu (ctx ⟨W,[],fun _=>False,aF⟩ W [] cK) []:=by
  refine⟨rfl,fun i j p q hp=>?_,fun i p x hp=>?_⟩
  ·simp [ctx]at hp
  ·simp [ctx]at hp
 rcases hs _ _ _ _ hm with⟨g,h1,h2⟩|hv
 case inr=>
  obtain⟨v,w',E',k1,_⟩:=hv ⟨W,[],fun _=>False,aF⟩ vs rfl (fun b k=>k.elim) hh0 hr
  rw[hc]at k1
  injection k1 with k1
  cases k1
 have hg:g=n:=by
  have e1:=h1 #[] W
  rw[hc #[] W]at e1
  injection e1 with e1
  injection e1 with e1
  exact e1.symm
 subst hg
 have hh:iu (ctx ⟨W,[],fun _=>False,aF⟩ W [] cK) []:=by
  refine⟨rfl,fun i j p q hp=>?_,fun i p x hp=>?_⟩
  ·simp [ctx]at hp
  ·simp [ctx]at hp
 refine(h2 ⟨W,[],fun _=>False,aF⟩ vs rfl (fun b k=>k.elim) hh hr).mono ?_
 rintro e w' ⟨v,E',rfl,ho,_,hv⟩
 simp only[ak]at hv
 subst hv
 exact⟨rfl,ho.os,ho.tape,ho.output,ho.size,fun k hk=>ho.stay k hk (fun p hp=>by cases hp)⟩
end
end Go.Proofs.YtooknfkholjpbaaGreat
