/- Parts of the proof of PlayReplaysComeBack, in order. -/
import Derived.Orders
import Derived.Below
import Derived.WalkKit
import Derived.Laws.StructEq
import Derived.Laws.Append
import Derived.Laws.AppendOwn
import Derived.Test.YtooknfkholjpbaaGreatRows
import Derived.KernelRfl
import Derived.Lib.Bytealg
import Derived.Sort.Defs
import Derived.Lib.BitFns
import Derived.Test.YtooknfkholjpbaaGreatShelf
import Derived.Laws.Externs
import Derived.Lib.Overlaps
import Derived.IntWalk
import Derived.Sort.Statements
import Derived.Shelf.SlSortCmp.WholeK
import Derived.Shelf.SlSortCmp.NoneTotal
import Derived.Sort.AssemblyPlain
import Derived.Lib.Strings
import Derived.WalkSpells
import Derived.ProofKit
import Derived.OpenShut
import Derived.Lib.Hide
import Derived.Lib.SmallJoins
import Derived.Deep.QuietTactic
import Derived.BigQuiet
import Derived.Deep.RegionHeld3
import Derived.Deep.Slices
import Derived.Test.YtooknfkholjpbaaGreatKPlayReplaysComeBack5
namespace Go.Proofs.YtooknfkholjpbaaGreat
set_option linter.unusedVariables false
set_option linter.unusedSimpArgs false
set_option linter.unusedSectionVars false
section
set_option maxRecDepth 100000
open HP
theorem agn {l:List oq} (h:zz l=0):l.length≤30:=by
 unfold zz at h
 split at h
 ·cases h
 ·omega
theorem Yw (size:Int):∀(l pre:List ew),Ce size pre l=0→∀x∈l,(0≤x.default∧x.default≤65535)∧x.ranges.length≤30
 |[],pre,h,x,hx=>by simp at hx
 |y::l,pre,h,x,hx=>by
  rw[ag3]at h
  by_cases h0:Iv size pre y=0
  case neg=>rw[if_neg h0]at h;exact absurd h h0
  rw[if_pos h0]at h
  rcases List.mem_cons.1 hx with rfl|hx
  ·unfold Iv at h0
   split at h0
   ·cases h0
   split at h0
   ·cases h0
   split at h0
   ·cases h0
   split at h0
   ·cases h0
   rename_i h4
   split at h0
   ·cases h0
   refine⟨?_,agn h0⟩
   cases q:aR x.default 0 65535
   ·exact absurd (.inr (.inr q)) h4
   ·exact qD q
  ·exact Yw size l _ h x hx
theorem Y2 {p:cV} (h:ql p=0):p.params.length≤40∧∀x∈p.params,(0≤x.default∧x.default≤65535)∧x.ranges.length≤30:=by
 refine⟨UM h,?_⟩
 unfold ql at h
 split at h
 ·cases h
 split at h
 ·cases h
 split at h
 ·cases h
 split at h
 ·cases h
 exact Yw _ _ _ h
structure FV (s : gf) : Prop where
 ok:yw s
 aQ:jZ s.aQ=0
 pre:rF s.aQ s.bH=0
 No:s.lists.length≤30
 lok:∀l∈s.lists,rP l.bE=0
 pl:s.bF.length≤40
 fnd:∀p∈s.bF,(sN s.lists p.list).2=true
theorem Ry {s:gf} (hs:yw s) (h:zK s=0):FV s:=by
 unfold zK at h
 by_cases h1:rF s.aQ s.bH=0
 case neg=>rw[if_pos h1]at h;exact absurd h h1
 rw[if_neg (fun q=>q h1)]at h
 split at h
 ·cases h
 rename_i h2
 by_cases h3:iE (Dg s) s.lists 0=0
 case neg=>rw[if_pos h3]at h;exact absurd h h3
 rw[if_neg (fun q=>q h3)]at h
 split at h
 ·cases h
 rename_i h4
 refine⟨hs,OQ h1,h1,by omega,fun l hl=>?_,by omega,fun p hp=>?_⟩
 ·obtain⟨i,hi,e⟩:=List.getElem_of_mem hl
  have:=(zk s.lists 0).1 h3 i l (by rw[←e];exact List.getElem?_eq_getElem hi)
  unfold Dg at this
  split at this
  ·cases this
  split at this
  ·cases this
  unfold MC at this
  rw[if_neg (fun q=>q h1)]at this
  by_cases h5:rP l.bE=0
  ·exact h5
  ·rw[if_pos h5]at this;exact absurd this h5
 ·obtain⟨i,hi,e⟩:=List.getElem_of_mem hp
  have:=(zk s.bF 0).1 h i p (by rw[←e];exact List.getElem?_eq_getElem hi)
  unfold ME at this
  split at this
  ·cases this
  split at this
  ·cases this
  split at this
  ·cases this
  rename_i q
  simpa using q
theorem X8 {r:gr} {bH:List jU} (h:rF r bH=0):bH.length≤200∧∀p∈bH,p.jL.length≤2000∧∀x∈p.jL,0≤x.level∧x.level≤65535:=by
 have hr:=OQ h
 unfold rF at h
 rw[if_neg (fun q=>q hr)]at h
 split at h
 ·cases h
 refine⟨by omega,fun p hp=>?_⟩
 obtain⟨i,hi,e⟩:=List.getElem_of_mem hp
 have h2:=(zk bH 0).1 h i p (by rw[←e];exact List.getElem?_eq_getElem hi)
 unfold Md at h2
 split at h2
 ·cases h2
 split at h2
 ·cases h2
 split at h2
 ·cases h2
 split at h2
 ·cases h2
 refine⟨by omega,fun x hx=>?_⟩
 obtain⟨j,hj,e⟩:=List.getElem_of_mem hx
 have h3:=(zk p.jL 0).1 h2 j x (by rw[←e];exact List.getElem?_eq_getElem hj)
 unfold MG at h3
 split at h3
 ·cases h3
 split at h3
 ·cases h3
 rename_i q
 exact qD (by simpa using q)
theorem alq {r:gr} {bH:List jU} (h:rF r bH=0) (k:aB) (v:lW):0≤(wo bH k v).1∧(wo bH k v).1≤65535:=by
 unfold wo
 split
 ·simp
 split
 ·simp
 rename_i h2
 split
 ·exact qD (by simpa using h2)
 split
 ·simp
 rename_i p hp
 split
 ·simp
 rename_i x hx
 exact((X8 h).2 p (List.mem_of_find?_eq_some hp)).2 x (List.mem_of_find?_eq_some hx)
theorem FV.bd {s:gf} (h:FV s):FU s:=by
 have hl:=Ql h.aQ
 have hp:=X8 h.pre
 refine⟨?_,fun p hp=>?_,?_,⟨by omega,fun p q=>by have:=(hp.2 p q).1;omega⟩,by have:=h.No;omega,fun l hl=>?_,by have:=h.pl;omega⟩
 ·unfold wW at hl
  split at hl
  ·cases hl
  ·omega
 ·have:=Y2 (Pq hl p hp)
  exact⟨by omega,fun q hq=>by have:=(this.2 q hq).2;omega⟩
 ·have hr:=h.aQ
  unfold jZ at hr
  rw[if_pos hl]at hr
  split at hr
  ·cases hr
  ·omega
 ·have hg:=QF (h.lok l hl)
  exact⟨by have:=hg.len;omega,fun c hc=>⟨by have:=(hg.mv c hc).1;omega,by have:=hg.pts c hc;omega⟩⟩
def mY (l:List cV):List (ByteArray×cV):=l.foldl (fun m p=>dB p.name p m) []
def FZ (lm:List (ByteArray×cV)) (u:gY):List ew:=match cH u.profile lm with
 |none=>[]
 |some p=>p.params
def Rz (lm:List (ByteArray×cV)) (m:List (aB×ew)) (u:gY):List (aB×ew):=(FZ lm u).foldl (fun m x=>dB ⟨u.number,x.name⟩ x m) m
def Au (r:gr):List (aB×ew):=r.units.foldl (Rz (mY r.aY)) []
def kY (s:gf) (p:lJ):bg:=⟨⟨0,0,false⟩,p.number,p.priority,(sN s.lists p.list).1.bE,-1,65535,-1,none⟩
def jY (s:gf):bD:=⟨⟨s.bF.map (kY s),0,65535,false⟩,s,mV s.aQ,some (Au s.aQ),[]⟩
theorem Qq {κ ν:Type} [DecidableEq κ] {P:ν→Prop} {k:κ} {v:ν} (hv:P v):∀{l:List (κ×ν)},(∀p∈l,P p.2)→∀p∈dB k v l,P p.2
 |[],_,p,hp=>by simp [dB]at hp;rw[hp];exact hv
 |(k',v')::r,h,p,hp=>by
  rw[dB]at hp
  split at hp
  ·rcases List.mem_cons.1 hp with rfl|hp
   ·exact hv
   ·exact h p (by simp [hp])
  ·rcases List.mem_cons.1 hp with rfl|hp
   ·exact h _ (by simp)
   ·exact Qq hv (fun p hp=>h p (by simp [hp])) p hp
theorem Le {α β:Type} {P:β→Prop} {f:β→α→β}:∀(l:List α) (b:β),P b→(∀b,P b→∀x∈l,P (f b x))→P (l.foldl f b)
 |[],b,h,_=>h
 |x::l,b,h,k=>Le l (f b x) (k b h x (by simp)) fun b hb y hy=>k b hb y (by simp [hy])
theorem XX {P:cV→Prop} {l:List cV} (h:∀p∈l,P p):∀p∈mY l,P p.2:=by
 unfold mY
 exact Le (P:=fun m:List (ByteArray×cV)=>∀p∈m,P p.2) l [] (by simp) fun m hm x hx=>Qq (h x hx) hm
theorem aiV {P:ew→Prop} {r:gr} (h:∀p∈r.aY,∀x∈p.params,P x):∀p∈Au r,P p.2:=by
 unfold Au
 refine Le (P:=fun m:List (aB×ew)=>∀p∈m,P p.2) r.units [] (by simp) fun m hm u hu=>?_
 unfold Rz
 refine Le (P:=fun m:List (aB×ew)=>∀p∈m,P p.2) _ m hm fun m hm x hx=>Qq ?_ hm
 unfold FZ at hx
 cases hf:cH u.profile (mY r.aY)with
 |none=>rw[hf]at hx;simp at hx
 |some p=>
  rw[hf]at hx
  exact XX (P:=fun p=>∀x∈p.params,P x) h _ (Ig hf) x hx
theorem afZ {l:List iR} {n:Int} (h:(sN l n).2=true):(sN l n).1∈l:=by
 unfold sN at h ⊢
 cases hf:l.find? (fun x=>decide (x.number=n))with
 |none=>rw[hf]at h;cases h
 |some x=>exact List.mem_of_find?_eq_some hf
theorem X3 {s:gf} (h:FV s):vn (jY s):=by
 obtain⟨hr,hp,hl,hb⟩:=h.ok
 refine⟨⟨hp,alq h.pre,fun k=>?_⟩,⟨⟨Int.le_refl _,by show(0:Int)≤_;decide⟩,?_,fun b hb=>?_,by show(0:Int)≤65535∧(65535:Int)≤65535;decide⟩,?_,by show 0≤5000;decide,rfl⟩
 ·unfold eS
  cases hf:cH k ((jY s).params.getD [])with
  |none=>simp
  |some x=>exact aiV (P:=fun x=>0≤x.default∧x.default≤65535) (fun p hp x hx=>((Y2 (Pq (Ql h.aQ) p hp)).2 x hx).1) _ (Ig hf)
 ·show(s.bF.map (kY s)).length≤40
  rw[List.length_map];exact h.pl
 ·obtain⟨p,hp,rfl⟩:=List.mem_map.1 hb
  have hm:=afZ (h.fnd p hp)
  refine{qV:=(hl.2 _ hm).2,dw:=h.lok _ hm,can:=fun l e=>?_,runs:=fun k r q=>?_,jg:=?_,pS:=?_,bT:=?_,Cs:=?_}
  ·simp [kY]at e
  ·simp [kY]at q
  ·show(0:Int)≤65535∧(65535:Int)≤65535;decide
  ·show(0:Int)≤0∧(0:Int)≤0∧(0:Int)≤0;decide
  ·show(-1:Int)≤-1∧(-1:Int)<(((sN s.lists p.list).1.bE.length:Nat):Int);omega
  ·left;show(-1:Int)<0;decide
 ·show(s.bF.map (kY s)).map (·.number)=_
  rw[List.map_map];rfl
theorem ahv {s:gf} (h:FV s):(jY s).keys.length≤1000000:=by
 have:=Qh h.aQ
 show(mV s.aQ).length≤_
 omega
section
variable {aC σ : Heap} {R : HP}
section
variable {κ ν : Type} [DecidableEq κ] {ek : A.EK} {eK : κ → AV} {eV : ν → AV} {B : aJ → Prop} {id : Nat} {l : List (κ × ν)}
theorem aaJ (hq:∀a b,A.ef ek (eK a) (eK b)=some (decide (a=b))) {x:κ} (hok:A.jt ek (eK x)=true) (v:ν) (H:Hs bK aC σ (blk id (.map (l.map fun p=>(eK p.1,eV p.2)))*R)):∃σ',A.eA ek (.om id) (eK x) (eV v) σ=some σ'∧Hs bK aC σ' (blk id (.map ((dB x v l).map fun p=>(eK p.1,eV p.2)))*R):=by
 refine⟨σ.set id (.map ((dB x v l).map fun p=>(eK p.1,eV p.2))),?_,zF H trivial⟩
 simp only[A.eA,hok,cond_true,(iz H).2,Dp hq,Option.map_some]
theorem alV (hq:∀a b,A.ef ek (eK a) (eK b)=some (decide (a=b))) {x:κ} (hok:A.jt ek (eK x)=true) (z:AV) (H:Hs B aC σ (blk id (.map (l.map fun p=>(eK p.1,eV p.2)))*R)):A.look ek (.om id) (eK x) z σ=some (((cH x l).map eV).getD z):=by
 simp only[A.look,hok,cond_true,A.entries,(iz H).2,Option.bind_some,BG hq,Option.map_some]
end
def vr (p:ByteArray×cV):AV×AV:=(.str p.1,.agg (cm p.2))
theorem amx {s:gf} (hl:s.aQ.aY.length≤1000000) {me:Nat} (H:Hs bK aC σ (blk me (.map (([]:List (ByteArray×cV)).map vr))*R)):∃W,A.loop ((fun v31 sD=>
    (A.lss (v31.getD 1 AV.undef) (AV.int .i64 (s.aQ.aY.length:Int))).bind fun x34=>
    A.cond x34 (
     (A.aT 3 (sl 3 cm s.aQ.aY) (v31.getD 1 AV.undef)).bind fun fJ=>
     ((A.deref fJ sD).bind fun hG=>A.ay 0 3 hG).bind fun bQ=>
     (A.cells 3 bQ).bind fun lu=>
     (A.splice 0 lu [br,ah,AV.au]).bind fun l6=>
     (A.aj 0 l6).bind fun dc=>
     (A.ay 0 3 l6).bind fun dV=>
     (A.eA .z (AV.om me) dc dV sD).bind fun I1=>
     (A.add (v31.getD 1 AV.undef) aH).bind fun fB=>
     some (AX.normal,[(v31.getD 0 AV.undef),fB],I1)) (
     some (AX.exit 0,[(v31.getD 0 AV.undef),(v31.getD 1 AV.undef)],sD)))) [.lbx (bA s),.int .i64 0] σ=some (.exit 0,[.lbx (bA s),.int .i64 (s.aQ.aY.length:Int)],W)∧Hs bK aC W (blk me (.map ((mY s.aQ.aY).map vr))*R):=by
 suffices h:∃q,A.loop ((fun v31 sD=>
    (A.lss (v31.getD 1 AV.undef) (AV.int .i64 (s.aQ.aY.length:Int))).bind fun x34=>
    A.cond x34 (
     (A.aT 3 (sl 3 cm s.aQ.aY) (v31.getD 1 AV.undef)).bind fun fJ=>
     ((A.deref fJ sD).bind fun hG=>A.ay 0 3 hG).bind fun bQ=>
     (A.cells 3 bQ).bind fun lu=>
     (A.splice 0 lu [br,ah,AV.au]).bind fun l6=>
     (A.aj 0 l6).bind fun dc=>
     (A.ay 0 3 l6).bind fun dV=>
     (A.eA .z (AV.om me) dc dV sD).bind fun I1=>
     (A.add (v31.getD 1 AV.undef) aH).bind fun fB=>
     some (AX.normal,[(v31.getD 0 AV.undef),fB],I1)) (
     some (AX.exit 0,[(v31.getD 0 AV.undef),(v31.getD 1 AV.undef)],sD)))) [.lbx (bA s),.int .i64 0] σ=some q∧∃W,q=(.exit 0,[.lbx (bA s),.int .i64 (s.aQ.aY.length:Int)],W)∧Hs bK aC W (blk me (.map ((mY s.aQ.aY).map vr))*R) by
  obtain⟨q,e,W,rfl,K⟩:=h
  exact⟨W,e,K⟩
 refine mm (fun z v w=>∃(i:Nat) (m:List (ByteArray×cV)),i≤s.aQ.aY.length∧v=[.lbx (bA s),.int .i64 (i:Int)]∧z=s.aQ.aY.length-i∧(s.aQ.aY.drop i).foldl (fun m p=>dB p.name p m) m=mY s.aQ.aY∧Hs bK aC w (blk me (.map (m.map vr))*R)) ?_ (n:=s.aQ.aY.length) ⟨0,[],Nat.zero_le _,rfl,rfl,rfl,H⟩
 rintro z v w ⟨i,m,hi,rfl,hz,hT,K⟩
 by_cases h:i<s.aQ.aY.length
 ·obtain⟨x,bZ⟩:∃x,x=s.aQ.aY[i]:=⟨_,rfl⟩
  have hx:s.aQ.aY[i]? =some x:=by rw[bZ];exact List.getElem?_eq_getElem h
  rw[List.drop_eq_getElem_cons h,←bZ]at hT
  obtain⟨w',u1,u2⟩:=aaJ (ek:=.z) (eK:=fun b:ByteArray=>AV.str b) (eV:=fun p:cV=>AV.agg (cm p)) (l:=m) YB (x:=x.name) rfl x K
  refine .inl ⟨s.aQ.aY.length-(i+1),_,w',by omega,?_,i+1,dB x.name x m,h,rfl,rfl,hT,u2⟩
  simp only[List.getD_cons_zero,List.getD_cons_succ]
  rw[jr hx,bS,cW,iQ hx,bS,nU,bS,show A.ay 0 3 (cm x)=some (.agg (cm x))from rfl,bS,show A.cells 3 (.agg (cm x))=some (cm x)from rfl,bS,show A.splice 0 (cm x) [br,ah,AV.au]=some (cm x)from rfl,bS,p7,bS,show A.ay 0 3 (cm x)=some (.agg (cm x))from rfl,bS,u1,bS,fU hx (by unfold aW;omega),bS]
 ·have:i=s.aQ.aY.length:=by omega
  subst this
  rw[List.drop_length]at hT
  simp only[List.foldl_nil]at hT
  rw[hT]at K
  refine .inr ⟨(.exit 0,[.lbx (bA s),.int .i64 (s.aQ.aY.length:Int)],w),?_,by simp,w,rfl,K⟩
  simp only[List.getD_cons_zero,List.getD_cons_succ]
  rw[jq,bS,cD]
theorem akd (n:Int) (b:ByteArray):((((A.cell (.int .i64 n)).bind fun v=>some [v]).bind fun mI=>(A.splice 0 mI [ah,br]).bind fun lz=>((A.cell (.str b)).bind fun v=>some [v]).bind fun kD=>(A.splice 1 kD lz).bind fun iY=>some iY).bind fun cs=>some (AV.agg cs))=some (.agg (aN ⟨n,b⟩)):=rfl
theorem alu {s : gf} {u : gY} {ps : List ew} (hl : ps.length ≤ 1000000) {id aV : Nat} {cs : List AV} (hc : cs[10]? = some (.om aV)) (m : List (aB × ew)) (H : Hs bK aC σ (blk aV (.map (m.map gL)) * (blk id (.box cs) * R))) : ∃ W, A.loop ((fun v64 gp =>
        (A.lss (v64.getD 2 AV.undef) (AV.int .i64 (ps.length:Int))).bind fun jR=>
        A.cond jR (
         (A.aT 7 (sl 7 eR ps) (v64.getD 2 AV.undef)).bind fun iq=>
         ((A.deref iq gp).bind fun pP=>A.ay 0 7 pP).bind fun ff=>
         (A.cells 7 ff).bind fun lI=>
         (A.splice 0 lI [br,ah,ah,ah,ah,aM,AV.au]).bind fun jH=>
         (A.aL (AV.op id 0)).bind fun iH=>
         (A.aA 10 iH).bind fun iu=>
         ((A.deref iu gp).bind fun pQ=>A.aj 0 pQ).bind fun je=>
         ((A.lb (v64.getD 1 AV.undef)).bind fun _=>some (0)).bind fun sx=>
         ((A.lb (v64.getD 1 AV.undef)).bind fun nR=>A.aj sx nR).bind fun jS=>
         (A.aj 0 jH).bind fun fT=>
         ((((A.cell jS).bind fun v=>some [v]).bind fun mI=>(A.splice 0 mI [ah,br]).bind fun lz=>((A.cell fT).bind fun v=>some [v]).bind fun kD=>(A.splice 1 kD lz).bind fun iY=>some iY).bind fun cs=>some (AV.agg cs)).bind fun iI=>
         (A.ay 0 7 jH).bind fun jD=>
         (A.eA (.s [0,2]) je iI jD gp).bind fun ux=>
         (A.add (v64.getD 2 AV.undef) aH).bind fun iJ=>
         some (AX.normal,[(v64.getD 0 AV.undef),(v64.getD 1 AV.undef),iJ],ux)) (
         some (AX.exit 4,[(v64.getD 0 AV.undef),(v64.getD 1 AV.undef),(v64.getD 2 AV.undef)],gp)))) [.lbx (bA s),.lbx (bU u),.int .i64 0] σ=some (.exit 4,[.lbx (bA s),.lbx (bU u),.int .i64 (ps.length:Int)],W)∧Hs bK aC W (blk aV (.map ((ps.foldl (fun m x=>dB ⟨u.number,x.name⟩ x m) m).map gL))*(blk id (.box cs)*R)):=by
 suffices h:∃q,A.loop ((fun v64 gp=>
        (A.lss (v64.getD 2 AV.undef) (AV.int .i64 (ps.length:Int))).bind fun jR=>
        A.cond jR (
         (A.aT 7 (sl 7 eR ps) (v64.getD 2 AV.undef)).bind fun iq=>
         ((A.deref iq gp).bind fun pP=>A.ay 0 7 pP).bind fun ff=>
         (A.cells 7 ff).bind fun lI=>
         (A.splice 0 lI [br,ah,ah,ah,ah,aM,AV.au]).bind fun jH=>
         (A.aL (AV.op id 0)).bind fun iH=>
         (A.aA 10 iH).bind fun iu=>
         ((A.deref iu gp).bind fun pQ=>A.aj 0 pQ).bind fun je=>
         ((A.lb (v64.getD 1 AV.undef)).bind fun _=>some (0)).bind fun sx=>
         ((A.lb (v64.getD 1 AV.undef)).bind fun nR=>A.aj sx nR).bind fun jS=>
         (A.aj 0 jH).bind fun fT=>
         ((((A.cell jS).bind fun v=>some [v]).bind fun mI=>(A.splice 0 mI [ah,br]).bind fun lz=>((A.cell fT).bind fun v=>some [v]).bind fun kD=>(A.splice 1 kD lz).bind fun iY=>some iY).bind fun cs=>some (AV.agg cs)).bind fun iI=>
         (A.ay 0 7 jH).bind fun jD=>
         (A.eA (.s [0,2]) je iI jD gp).bind fun ux=>
         (A.add (v64.getD 2 AV.undef) aH).bind fun iJ=>
         some (AX.normal,[(v64.getD 0 AV.undef),(v64.getD 1 AV.undef),iJ],ux)) (
         some (AX.exit 4,[(v64.getD 0 AV.undef),(v64.getD 1 AV.undef),(v64.getD 2 AV.undef)],gp)))) [.lbx (bA s),.lbx (bU u),.int .i64 0] σ=some q∧∃W,q=(.exit 4,[.lbx (bA s),.lbx (bU u),.int .i64 (ps.length:Int)],W)∧Hs bK aC W (blk aV (.map ((ps.foldl (fun m x=>dB ⟨u.number,x.name⟩ x m) m).map gL))*(blk id (.box cs)*R)) by
  obtain⟨q,e,W,rfl,K⟩:=h
  exact⟨W,e,K⟩
 obtain⟨fm,hfm⟩:∃fm,fm=ps.foldl (fun m x=>dB (⟨u.number,x.name⟩:aB) x m) m:=⟨_,rfl⟩
 rw[←hfm]
 refine mm (fun z v w=>∃(i:Nat) (m:List (aB×ew)),i≤ps.length∧v=[.lbx (bA s),.lbx (bU u),.int .i64 (i:Int)]∧z=ps.length-i∧(ps.drop i).foldl (fun m x=>dB ⟨u.number,x.name⟩ x m) m=fm∧Hs bK aC w (blk aV (.map (m.map gL))*(blk id (.box cs)*R))) ?_ (n:=ps.length) ⟨0,m,Nat.zero_le _,rfl,rfl,hfm.symm,H⟩
 rintro z v w ⟨i,m,hi,rfl,hz,hT,K⟩
 by_cases h:i<ps.length
 ·obtain⟨x,bZ⟩:∃x,x=ps[i]:=⟨_,rfl⟩
  have hx:ps[i]? =some x:=by rw[bZ];exact List.getElem?_eq_getElem h
  rw[List.drop_eq_getElem_cons h,←bZ]at hT
  obtain⟨w',u1,u2⟩:=aaJ (ek:=.s [0,2]) (eK:=fun k:aB=>AV.agg (aN k)) (eV:=fun p:ew=>AV.agg (eR p)) (l:=m) qo (x:=⟨u.number,x.name⟩) rfl x K
  have hb:=(iz (hs_eq (show _=blk id (.box cs)*(blk aV (.map (m.map gL))*R) by ac_rfl) K)).2
  refine .inl ⟨ps.length-(i+1),_,w',by omega,?_,i+1,_,h,rfl,rfl,hT,u2⟩
  simp only[List.getD_cons_zero,List.getD_cons_succ]
  rw[jr hx,bS,cW,iQ hx,bS,nU,bS,show A.ay 0 7 (eR x)=some (.agg (eR x))from rfl,bS,show A.cells 7 (.agg (eR x))=some (eR x)from rfl,bS,show A.splice 0 (eR x) [br,ah,ah,ah,ah,aM,AV.au]=some (eR x)from rfl,bS,show A.aL (.op id 0)=some (.op id 0)from rfl,bS,show A.aA 10 (.op id 0)=some (.op id 10)from by simp [A.aA],bS,show((A.deref (.op id 10) w).bind fun pQ=>A.aj 0 pQ)=some (.om aV)from by simp only[A.deref,hb,Option.bind_some,A.aj,List.getElem?_drop,Nat.add_zero,hc];rfl,bS,ia,bS,bS,bS,show A.aj 0 (bU u)=some (.int .i64 u.number)from rfl,bS,KJ,bS,akd,bS,show A.ay 0 7 (eR x)=some (.agg (eR x))from rfl,bS,u1,bS,fU hx (by unfold aW;omega),bS]
 ·have:i=ps.length:=by omega
  subst this
  rw[List.drop_length]at hT
  simp only[List.foldl_nil]at hT
  rw[hT]at K
  refine .inr ⟨(.exit 4,[.lbx (bA s),.lbx (bU u),.int .i64 (ps.length:Int)],w),?_,by simp,w,rfl,K⟩
  simp only[List.getD_cons_zero,List.getD_cons_succ]
  rw[jq,bS,cD]
theorem X0 {f:List AV→Heap→Option LS} {v:List AV} {σ:Heap} {r:LS} (h:f v σ=some r) (hr:r.1≠.normal):A.loop f v σ=some r:=by
 obtain⟨n,hn⟩:=uO h hr
 exact CT hn
theorem amQ {oa ru uJ vS β:Type} {X:Option oa} {f:oa→Option ru} {g:oa→ru→Option uJ} {h:oa→ru→uJ→Option vS} {v:vS} {k:oa→ru→uJ→vS→Option β} {k':vS→Option β} {r:Option β} (e:(X.bind fun x=>(f x).bind fun y=>(g x y).bind fun z=>h x y z)=some v) (hk:k' v=r) (hkk:k=fun _ _ _=>k':=by rfl):(X.bind fun x=>(f x).bind fun y=>(g x y).bind fun z=>(h x y z).bind (k x y z))=r:=by
 subst hkk
 obtain⟨x,hx,e⟩:=Option.bind_eq_some_iff.1 e
 obtain⟨y,hy,e⟩:=Option.bind_eq_some_iff.1 e
 obtain⟨z,hz,e⟩:=Option.bind_eq_some_iff.1 e
 rw[hx,Option.bind_some,hy,Option.bind_some,hz,Option.bind_some,e,Option.bind_some]
 exact hk
theorem amy {s:gf} (hb:FU s) {id aV me:Nat} {cs:List AV} (hc:cs[10]? =some (.om aV)) (H:Hs bK aC σ (blk aV (.map (([]:List (aB×ew)).map gL))*(blk id (.box cs)*(blk me (.map ((mY s.aQ.aY).map vr))*R)))):∃W,A.loop ((fun v50 tE=>
     (A.lss (v50.getD 1 AV.undef) (AV.int .i64 (s.aQ.units.length:Int))).bind fun gR=>
     A.cond gR (
      (A.aT 4 (sl 4 bU s.aQ.units) (v50.getD 1 AV.undef)).bind fun gB=>
      ((A.deref gB tE).bind fun iB=>A.ay 0 4 iB).bind fun gd=>
      (A.cells 4 gd).bind fun iX=>
      (A.splice 0 iX [ah,br,ah,ah]).bind fun iO=>
      (A.aj 1 iO).bind fun eZ=>
      (A.look .z (AV.om me) eZ (AV.agg [br,ah,AV.au]) tE).bind fun gV=>
      ((A.cells 3 gV).bind fun nQ=>A.aj 2 nQ).bind fun fc=>
      (A.bJ fc).bind fun fD=>
      (A.loop (fun v64 gp=>
        (A.lss (v64.getD 2 AV.undef) fD).bind fun jR=>
        A.cond jR (
         (A.aT 7 fc (v64.getD 2 AV.undef)).bind fun iq=>
         ((A.deref iq gp).bind fun pP=>A.ay 0 7 pP).bind fun ff=>
         (A.cells 7 ff).bind fun lI=>
         (A.splice 0 lI [br,ah,ah,ah,ah,aM,AV.au]).bind fun jH=>
         (A.aL (AV.op id 0)).bind fun iH=>
         (A.aA 10 iH).bind fun iu=>
         ((A.deref iu gp).bind fun pQ=>A.aj 0 pQ).bind fun je=>
         ((A.lb (v64.getD 1 AV.undef)).bind fun _=>some (0)).bind fun sx=>
         ((A.lb (v64.getD 1 AV.undef)).bind fun nR=>A.aj sx nR).bind fun jS=>
         (A.aj 0 jH).bind fun fT=>
         ((((A.cell jS).bind fun v=>some [v]).bind fun mI=>(A.splice 0 mI [ah,br]).bind fun lz=>((A.cell fT).bind fun v=>some [v]).bind fun kD=>(A.splice 1 kD lz).bind fun iY=>some iY).bind fun cs=>some (AV.agg cs)).bind fun iI=>
         (A.ay 0 7 jH).bind fun jD=>
         (A.eA (.s [0,2]) je iI jD gp).bind fun ux=>
         (A.add (v64.getD 2 AV.undef) aH).bind fun iJ=>
         some (AX.normal,[(v64.getD 0 AV.undef),(v64.getD 1 AV.undef),iJ],ux)) (
         some (AX.exit 4,[(v64.getD 0 AV.undef),(v64.getD 1 AV.undef),(v64.getD 2 AV.undef)],gp))) [(v50.getD 0 AV.undef),(AV.lbx iO),ah] tE).bind fun xP=>
      bif xP.1==AX.exit 4 then(
       (A.add (v50.getD 1 AV.undef) aH).bind fun x90=>
       some (AX.normal,[(xP.2.1.getD 0 AV.undef),x90],xP.2.2))else
      none) (
      some (AX.exit 2,[(v50.getD 0 AV.undef),(v50.getD 1 AV.undef)],tE)))) [.lbx (bA s),.int .i64 0] σ=some (.exit 2,[.lbx (bA s),.int .i64 (s.aQ.units.length:Int)],W)∧Hs bK aC W (blk aV (.map ((Au s.aQ).map gL))*(blk id (.box cs)*(blk me (.map ((mY s.aQ.aY).map vr))*R))):=by
 suffices h:∃q,A.loop ((fun v50 tE=>
     (A.lss (v50.getD 1 AV.undef) (AV.int .i64 (s.aQ.units.length:Int))).bind fun gR=>
     A.cond gR (
      (A.aT 4 (sl 4 bU s.aQ.units) (v50.getD 1 AV.undef)).bind fun gB=>
      ((A.deref gB tE).bind fun iB=>A.ay 0 4 iB).bind fun gd=>
      (A.cells 4 gd).bind fun iX=>
      (A.splice 0 iX [ah,br,ah,ah]).bind fun iO=>
      (A.aj 1 iO).bind fun eZ=>
      (A.look .z (AV.om me) eZ (AV.agg [br,ah,AV.au]) tE).bind fun gV=>
      ((A.cells 3 gV).bind fun nQ=>A.aj 2 nQ).bind fun fc=>
      (A.bJ fc).bind fun fD=>
      (A.loop (fun v64 gp=>
        (A.lss (v64.getD 2 AV.undef) fD).bind fun jR=>
        A.cond jR (
         (A.aT 7 fc (v64.getD 2 AV.undef)).bind fun iq=>
         ((A.deref iq gp).bind fun pP=>A.ay 0 7 pP).bind fun ff=>
         (A.cells 7 ff).bind fun lI=>
         (A.splice 0 lI [br,ah,ah,ah,ah,aM,AV.au]).bind fun jH=>
         (A.aL (AV.op id 0)).bind fun iH=>
         (A.aA 10 iH).bind fun iu=>
         ((A.deref iu gp).bind fun pQ=>A.aj 0 pQ).bind fun je=>
         ((A.lb (v64.getD 1 AV.undef)).bind fun _=>some (0)).bind fun sx=>
         ((A.lb (v64.getD 1 AV.undef)).bind fun nR=>A.aj sx nR).bind fun jS=>
         (A.aj 0 jH).bind fun fT=>
         ((((A.cell jS).bind fun v=>some [v]).bind fun mI=>(A.splice 0 mI [ah,br]).bind fun lz=>((A.cell fT).bind fun v=>some [v]).bind fun kD=>(A.splice 1 kD lz).bind fun iY=>some iY).bind fun cs=>some (AV.agg cs)).bind fun iI=>
         (A.ay 0 7 jH).bind fun jD=>
         (A.eA (.s [0,2]) je iI jD gp).bind fun ux=>
         (A.add (v64.getD 2 AV.undef) aH).bind fun iJ=>
         some (AX.normal,[(v64.getD 0 AV.undef),(v64.getD 1 AV.undef),iJ],ux)) (
         some (AX.exit 4,[(v64.getD 0 AV.undef),(v64.getD 1 AV.undef),(v64.getD 2 AV.undef)],gp))) [(v50.getD 0 AV.undef),(AV.lbx iO),ah] tE).bind fun xP=>
      bif xP.1==AX.exit 4 then(
       (A.add (v50.getD 1 AV.undef) aH).bind fun x90=>
       some (AX.normal,[(xP.2.1.getD 0 AV.undef),x90],xP.2.2))else
      none) (
      some (AX.exit 2,[(v50.getD 0 AV.undef),(v50.getD 1 AV.undef)],tE)))) [.lbx (bA s),.int .i64 0] σ=some q∧∃W,q=(.exit 2,[.lbx (bA s),.int .i64 (s.aQ.units.length:Int)],W)∧Hs bK aC W (blk aV (.map ((Au s.aQ).map gL))*(blk id (.box cs)*(blk me (.map ((mY s.aQ.aY).map vr))*R))) by
  obtain⟨q,e,W,rfl,K⟩:=h
  exact⟨W,e,K⟩
 have hun:=hb.un
 refine mm (fun z v w=>∃(i:Nat) (m:List (aB×ew)),i≤s.aQ.units.length∧v=[.lbx (bA s),.int .i64 (i:Int)]∧z=s.aQ.units.length-i∧(s.aQ.units.drop i).foldl (Rz (mY s.aQ.aY)) m=Au s.aQ∧Hs bK aC w (blk aV (.map (m.map gL))*(blk id (.box cs)*(blk me (.map ((mY s.aQ.aY).map vr))*R)))) ?_ (n:=s.aQ.units.length) ⟨0,[],Nat.zero_le _,rfl,rfl,rfl,H⟩
 rintro z v w ⟨i,m,hi,rfl,hz,hT,K⟩
 by_cases h:i<s.aQ.units.length
 ·obtain⟨x,bZ⟩:∃x,x=s.aQ.units[i]:=⟨_,rfl⟩
  have hx:s.aQ.units[i]? =some x:=by rw[bZ];exact List.getElem?_eq_getElem h
  rw[List.drop_eq_getElem_cons h,←bZ]at hT
  have hpl:(FZ (mY s.aQ.aY) x).length≤1000000:=by
   unfold FZ
   cases hf:cH x.profile (mY s.aQ.aY)with
   |none=>simp
   |some p=>exact XX (P:=fun p=>p.params.length≤1000000) (fun p hp=>(hb.par p hp).1) _ (Ig hf)
  obtain⟨w',l1,l2⟩:=alu (s:=s) (u:=x) hpl hc m K
  have hlk:((A.look .z (AV.om me) (.str x.profile) (AV.agg [br,ah,AV.au]) w).bind fun gV=>((A.cells 3 gV).bind fun nQ=>A.aj 2 nQ).bind fun fc=>(A.bJ fc).bind fun fD=>(A.loop ((fun v64 gp=>
        (A.lss (v64.getD 2 AV.undef) fD).bind fun jR=>
        A.cond jR (
         (A.aT 7 fc (v64.getD 2 AV.undef)).bind fun iq=>
         ((A.deref iq gp).bind fun pP=>A.ay 0 7 pP).bind fun ff=>
         (A.cells 7 ff).bind fun lI=>
         (A.splice 0 lI [br,ah,ah,ah,ah,aM,AV.au]).bind fun jH=>
         (A.aL (AV.op id 0)).bind fun iH=>
         (A.aA 10 iH).bind fun iu=>
         ((A.deref iu gp).bind fun pQ=>A.aj 0 pQ).bind fun je=>
         ((A.lb (v64.getD 1 AV.undef)).bind fun _=>some (0)).bind fun sx=>
         ((A.lb (v64.getD 1 AV.undef)).bind fun nR=>A.aj sx nR).bind fun jS=>
         (A.aj 0 jH).bind fun fT=>
         ((((A.cell jS).bind fun v=>some [v]).bind fun mI=>(A.splice 0 mI [ah,br]).bind fun lz=>((A.cell fT).bind fun v=>some [v]).bind fun kD=>(A.splice 1 kD lz).bind fun iY=>some iY).bind fun cs=>some (AV.agg cs)).bind fun iI=>
         (A.ay 0 7 jH).bind fun jD=>
         (A.eA (.s [0,2]) je iI jD gp).bind fun ux=>
         (A.add (v64.getD 2 AV.undef) aH).bind fun iJ=>
         some (AX.normal,[(v64.getD 0 AV.undef),(v64.getD 1 AV.undef),iJ],ux)) (
         some (AX.exit 4,[(v64.getD 0 AV.undef),(v64.getD 1 AV.undef),(v64.getD 2 AV.undef)],gp)))) [.lbx (bA s),.lbx (bU x),.int .i64 0] w))=some (.exit 4,[.lbx (bA s),.lbx (bU x),.int .i64 ((FZ (mY s.aQ.aY) x).length:Int)],w'):=by
   rw[alV (ek:=.z) (eK:=fun b:ByteArray=>AV.str b) (eV:=fun p:cV=>AV.agg (cm p)) (l:=mY s.aQ.aY) YB (x:=x.profile) rfl _ (hs_eq (show _=blk me (.map ((mY s.aQ.aY).map vr))*(blk aV (.map (m.map gL))*(blk id (.box cs)*R)) by ac_rfl) K),bS]
   unfold FZ at l1 ⊢
   cases hf:cH x.profile (mY s.aQ.aY)with
   |none=>
    rw[hf]at l1
    simp only[Option.map_none,Option.getD_none]
    rw[show((A.cells 3 (AV.agg [br,ah,AV.au])).bind fun nQ=>A.aj 2 nQ)=some .au from rfl,bS,show A.bJ .au=some (.int .i64 0)from rfl,bS]
    have hw:w'=w:=by
     have e0:A.loop ((fun v64 gp=>
        (A.lss (v64.getD 2 AV.undef) (AV.int .i64 ((([]:List ew).length:Nat):Int))).bind fun jR=>
        A.cond jR (
         (A.aT 7 (sl 7 eR ([]:List ew)) (v64.getD 2 AV.undef)).bind fun iq=>
         ((A.deref iq gp).bind fun pP=>A.ay 0 7 pP).bind fun ff=>
         (A.cells 7 ff).bind fun lI=>
         (A.splice 0 lI [br,ah,ah,ah,ah,aM,AV.au]).bind fun jH=>
         (A.aL (AV.op id 0)).bind fun iH=>
         (A.aA 10 iH).bind fun iu=>
         ((A.deref iu gp).bind fun pQ=>A.aj 0 pQ).bind fun je=>
         ((A.lb (v64.getD 1 AV.undef)).bind fun _=>some (0)).bind fun sx=>
         ((A.lb (v64.getD 1 AV.undef)).bind fun nR=>A.aj sx nR).bind fun jS=>
         (A.aj 0 jH).bind fun fT=>
         ((((A.cell jS).bind fun v=>some [v]).bind fun mI=>(A.splice 0 mI [ah,br]).bind fun lz=>((A.cell fT).bind fun v=>some [v]).bind fun kD=>(A.splice 1 kD lz).bind fun iY=>some iY).bind fun cs=>some (AV.agg cs)).bind fun iI=>
         (A.ay 0 7 jH).bind fun jD=>
         (A.eA (.s [0,2]) je iI jD gp).bind fun ux=>
         (A.add (v64.getD 2 AV.undef) aH).bind fun iJ=>
         some (AX.normal,[(v64.getD 0 AV.undef),(v64.getD 1 AV.undef),iJ],ux)) (
         some (AX.exit 4,[(v64.getD 0 AV.undef),(v64.getD 1 AV.undef),(v64.getD 2 AV.undef)],gp)))) [.lbx (bA s),.lbx (bU x),.int .i64 0] w=some (.exit 4,[.lbx (bA s),.lbx (bU x),.int .i64 0],w):=
      X0 rfl (by simp)
     have l1:=e0.symm.trans l1
     injection l1 with l1
     exact(congrArg (fun z:LS=>z.2.2) l1).symm
    rw[hw]
    exact X0 rfl (by simp)
   |some p=>
    rw[hf]at l1
    simp only[Option.map_some,Option.getD_some]
    rw[show((A.cells 3 (AV.agg (cm p))).bind fun nQ=>A.aj 2 nQ)=some (sl 7 eR p.params)from rfl,bS,fL,bS]
    exact l1
  refine .inl ⟨s.aQ.units.length-(i+1),_,w',by omega,?_,i+1,_,h,rfl,rfl,hT,l2⟩
  simp only[List.getD_cons_zero,List.getD_cons_succ]
  rw[jr hx,bS,cW,iQ hx,bS,nU,bS,show A.ay 0 4 (bU x)=some (.agg (bU x))from rfl,bS,show A.cells 4 (.agg (bU x))=some (bU x)from rfl,bS,show A.splice 0 (bU x) [ah,br,ah,ah]=some (bU x)from rfl,bS,show A.aj 1 (bU x)=some (.str x.profile)from rfl,bS]
  refine amQ hlk ?_
  simp only[l9,List.getD_cons_zero,List.getD_cons_succ]
  rw[fU hx (by unfold aW;omega),bS]
 ·have:i=s.aQ.units.length:=by omega
  subst this
  rw[List.drop_length]at hT
  simp only[List.foldl_nil]at hT
  rw[hT]at K
  refine .inr ⟨(.exit 2,[.lbx (bA s),.int .i64 (s.aQ.units.length:Int)],w),?_,by simp,w,rfl,K⟩
  simp only[List.getD_cons_zero,List.getD_cons_succ]
  rw[jq,bS,cD]
end
end
section
set_option maxRecDepth 100000
open HP
section
variable {aC σ : Heap} {R : HP}
theorem akc (s:gf) (p:lJ):((((A.cell (.int .i64 p.number)).bind fun v=>some [v]).bind fun pe=>(A.splice 3 pe [ah,ah,aM,ah,ah,AV.au,ah,ah,ah,AV.nm]).bind fun zZ=>((A.cell (.int .i64 p.priority)).bind fun v=>some [v]).bind fun nD=>(A.splice 4 nD zZ).bind fun Aa=>((A.cell (sl 11 aZ (sN s.lists p.list).1.bE)).bind fun v=>some [v]).bind fun wI=>(A.splice 5 wI Aa).bind fun tT=>((A.cell (AV.int .i64 (-1))).bind fun v=>some [v]).bind fun qF=>(A.splice 6 qF tT).bind fun lP=>((A.cell (AV.int .i64 65535)).bind fun v=>some [v]).bind fun Ab=>(A.splice 7 Ab lP).bind fun Ac=>((A.cell (AV.int .i64 (-1))).bind fun v=>some [v]).bind fun Ad=>(A.splice 8 Ad Ac).bind fun Ae=>some Ae).bind fun cs=>some (AV.agg cs))=some (.agg (aK (kY s p))):=rfl
theorem akG (b:bg):(((A.cells 10 (.agg (aK b))).bind fun nE=>(A.splice 0 nE [ah,ah,aM,ah,ah,AV.au,ah,ah,ah,AV.nm]).bind fun Af=>some Af).bind fun cs=>some (AV.sl 10 (chunks 10 1 cs)))=some (.sl 10 [aK b]):=rfl
theorem Y6 (a:dR):A.splice 0 (bn a) [ah,ah,ah,ah,ah]=some (bn a):=rfl
theorem amz {s:gf} (hs:FV s) {id aV:Nat} (H:Hs bK aC σ (blk id (.box (gh .au aV .au (jY s)))*R)):∃vb W,A.loop ((fun jB sG=>
      (A.lss (jB.getD 1 AV.undef) (AV.int .i64 (s.bF.length:Int))).bind fun x99=>
      A.cond x99 (
       (A.aT 3 (sl 3 cz s.bF) (jB.getD 1 AV.undef)).bind fun nH=>
       ((A.deref nH sG).bind fun oZ=>A.ay 0 3 oZ).bind fun x102=>
       (A.cells 3 x102).bind fun Dw=>
       (A.splice 0 Dw [ah,ah,ah]).bind fun rR=>
       ((A.lb (jB.getD 0 AV.undef)).bind fun zY=>A.ay 0 5 zY).bind fun nI=>
       (A.aj 1 rR).bind fun nJ=>
       (Bm [nI,nJ] sG).bind fun nG=>
       (A.ext 0 nG.1).bind fun nK=>
       (A.ext 1 nG.1).bind fun Az=>
       (A.cells 2 nK).bind fun mw=>
       (A.splice 0 mw [ah,AV.au]).bind fun Dz=>
       (A.aL (AV.op id 0)).bind fun x113=>
       (A.aA 0 x113).bind fun x114=>
       (A.aA 0 x114).bind fun x115=>
       ((A.deref x115 nG.2).bind fun tQ=>A.aj 0 tQ).bind fun pK=>
       (A.aj 0 rR).bind fun w8=>
       (A.aj 2 rR).bind fun AA=>
       (A.aj 1 Dz).bind fun AB=>
       ((((A.cell w8).bind fun v=>some [v]).bind fun pe=>(A.splice 3 pe [ah,ah,aM,ah,ah,AV.au,ah,ah,ah,AV.nm]).bind fun zZ=>((A.cell AA).bind fun v=>some [v]).bind fun nD=>(A.splice 4 nD zZ).bind fun Aa=>((A.cell AB).bind fun v=>some [v]).bind fun wI=>(A.splice 5 wI Aa).bind fun tT=>((A.cell (AV.int .i64 (-1))).bind fun v=>some [v]).bind fun qF=>(A.splice 6 qF tT).bind fun lP=>((A.cell (AV.int .i64 65535)).bind fun v=>some [v]).bind fun Ab=>(A.splice 7 Ab lP).bind fun Ac=>((A.cell (AV.int .i64 (-1))).bind fun v=>some [v]).bind fun Ad=>(A.splice 8 Ad Ac).bind fun Ae=>some Ae).bind fun cs=>some (AV.agg cs)).bind fun nL=>
       (((A.cells 10 nL).bind fun nE=>(A.splice 0 nE [ah,ah,aM,ah,ah,AV.au,ah,ah,ah,AV.nm]).bind fun Af=>some Af).bind fun cs=>some (AV.sl 10 (chunks 10 1 cs))).bind fun nM=>
       (A.append 10 (140737488355328 / 96) pK nM nG.2).bind fun wY=>
       (A.aL (AV.op id 0)).bind fun mC=>
       (A.aA 0 mC).bind fun AD=>
       (A.aA 0 AD).bind fun AE=>
       ((A.cell wY.1).bind fun v=>some [v]).bind fun DB=>
       (A.storeAt AE DB wY.2).bind fun Ah=>
       (A.add (jB.getD 1 AV.undef) aH).bind fun mD=>
       some (AX.normal,[(jB.getD 0 AV.undef),mD],Ah)) (
       some (AX.exit 6,[(jB.getD 0 AV.undef),(jB.getD 1 AV.undef)],sG)))) [.lbx (bA s),.int .i64 0] σ=some (.exit 6,[.lbx (bA s),.int .i64 (s.bF.length:Int)],W)∧Hs bK aC W (blk id (.box (gh vb aV .au (jY s)))*(Sl (fl aK) 10 vb (s.bF.map (kY s))*R)):=by
 suffices h:∃q,A.loop ((fun jB sG=>
      (A.lss (jB.getD 1 AV.undef) (AV.int .i64 (s.bF.length:Int))).bind fun x99=>
      A.cond x99 (
       (A.aT 3 (sl 3 cz s.bF) (jB.getD 1 AV.undef)).bind fun nH=>
       ((A.deref nH sG).bind fun oZ=>A.ay 0 3 oZ).bind fun x102=>
       (A.cells 3 x102).bind fun Dw=>
       (A.splice 0 Dw [ah,ah,ah]).bind fun rR=>
       ((A.lb (jB.getD 0 AV.undef)).bind fun zY=>A.ay 0 5 zY).bind fun nI=>
       (A.aj 1 rR).bind fun nJ=>
       (Bm [nI,nJ] sG).bind fun nG=>
       (A.ext 0 nG.1).bind fun nK=>
       (A.ext 1 nG.1).bind fun Az=>
       (A.cells 2 nK).bind fun mw=>
       (A.splice 0 mw [ah,AV.au]).bind fun Dz=>
       (A.aL (AV.op id 0)).bind fun x113=>
       (A.aA 0 x113).bind fun x114=>
       (A.aA 0 x114).bind fun x115=>
       ((A.deref x115 nG.2).bind fun tQ=>A.aj 0 tQ).bind fun pK=>
       (A.aj 0 rR).bind fun w8=>
       (A.aj 2 rR).bind fun AA=>
       (A.aj 1 Dz).bind fun AB=>
       ((((A.cell w8).bind fun v=>some [v]).bind fun pe=>(A.splice 3 pe [ah,ah,aM,ah,ah,AV.au,ah,ah,ah,AV.nm]).bind fun zZ=>((A.cell AA).bind fun v=>some [v]).bind fun nD=>(A.splice 4 nD zZ).bind fun Aa=>((A.cell AB).bind fun v=>some [v]).bind fun wI=>(A.splice 5 wI Aa).bind fun tT=>((A.cell (AV.int .i64 (-1))).bind fun v=>some [v]).bind fun qF=>(A.splice 6 qF tT).bind fun lP=>((A.cell (AV.int .i64 65535)).bind fun v=>some [v]).bind fun Ab=>(A.splice 7 Ab lP).bind fun Ac=>((A.cell (AV.int .i64 (-1))).bind fun v=>some [v]).bind fun Ad=>(A.splice 8 Ad Ac).bind fun Ae=>some Ae).bind fun cs=>some (AV.agg cs)).bind fun nL=>
       (((A.cells 10 nL).bind fun nE=>(A.splice 0 nE [ah,ah,aM,ah,ah,AV.au,ah,ah,ah,AV.nm]).bind fun Af=>some Af).bind fun cs=>some (AV.sl 10 (chunks 10 1 cs))).bind fun nM=>
       (A.append 10 (140737488355328 / 96) pK nM nG.2).bind fun wY=>
       (A.aL (AV.op id 0)).bind fun mC=>
       (A.aA 0 mC).bind fun AD=>
       (A.aA 0 AD).bind fun AE=>
       ((A.cell wY.1).bind fun v=>some [v]).bind fun DB=>
       (A.storeAt AE DB wY.2).bind fun Ah=>
       (A.add (jB.getD 1 AV.undef) aH).bind fun mD=>
       some (AX.normal,[(jB.getD 0 AV.undef),mD],Ah)) (
       some (AX.exit 6,[(jB.getD 0 AV.undef),(jB.getD 1 AV.undef)],sG)))) [.lbx (bA s),.int .i64 0] σ=some q∧∃vb W,q=(.exit 6,[.lbx (bA s),.int .i64 (s.bF.length:Int)],W)∧Hs bK aC W (blk id (.box (gh vb aV .au (jY s)))*(Sl (fl aK) 10 vb (s.bF.map (kY s))*R)) by
  obtain⟨q,e,vb,W,rfl,K⟩:=h
  exact⟨vb,W,e,K⟩
 have hpl:=hs.pl
 have Cz:s.lists.length≤aW:=by have:=hs.No;unfold aW;omega
 refine mm (fun z v w=>∃(i:Nat) (vb:AV),i≤s.bF.length∧v=[.lbx (bA s),.int .i64 (i:Int)]∧z=s.bF.length-i∧Hs bK aC w (blk id (.box (gh vb aV .au (jY s)))*(Sl (fl aK) 10 vb ((s.bF.take i).map (kY s))*R))) ?_ (n:=s.bF.length) ⟨0,.au,Nat.zero_le _,rfl,rfl,hs_eq (by ac_rfl) (qY (v:=.au) (E:=fl aK) (sz:=10) H (.inl rfl))⟩
 rintro z v w ⟨i,vb,hi,rfl,hz,K⟩
 by_cases h:i<s.bF.length
 ·obtain⟨x,bZ⟩:∃x,x=s.bF[i]:=⟨_,rfl⟩
  have hx:s.bF[i]? =some x:=by rw[bZ];exact List.getElem?_eq_getElem h
  have hb:=(iz K).2
  have step:∃qZ w',((fun jB sG=>
      (A.lss (jB.getD 1 AV.undef) (AV.int .i64 (s.bF.length:Int))).bind fun x99=>
      A.cond x99 (
       (A.aT 3 (sl 3 cz s.bF) (jB.getD 1 AV.undef)).bind fun nH=>
       ((A.deref nH sG).bind fun oZ=>A.ay 0 3 oZ).bind fun x102=>
       (A.cells 3 x102).bind fun Dw=>
       (A.splice 0 Dw [ah,ah,ah]).bind fun rR=>
       ((A.lb (jB.getD 0 AV.undef)).bind fun zY=>A.ay 0 5 zY).bind fun nI=>
       (A.aj 1 rR).bind fun nJ=>
       (Bm [nI,nJ] sG).bind fun nG=>
       (A.ext 0 nG.1).bind fun nK=>
       (A.ext 1 nG.1).bind fun Az=>
       (A.cells 2 nK).bind fun mw=>
       (A.splice 0 mw [ah,AV.au]).bind fun Dz=>
       (A.aL (AV.op id 0)).bind fun x113=>
       (A.aA 0 x113).bind fun x114=>
       (A.aA 0 x114).bind fun x115=>
       ((A.deref x115 nG.2).bind fun tQ=>A.aj 0 tQ).bind fun pK=>
       (A.aj 0 rR).bind fun w8=>
       (A.aj 2 rR).bind fun AA=>
       (A.aj 1 Dz).bind fun AB=>
       ((((A.cell w8).bind fun v=>some [v]).bind fun pe=>(A.splice 3 pe [ah,ah,aM,ah,ah,AV.au,ah,ah,ah,AV.nm]).bind fun zZ=>((A.cell AA).bind fun v=>some [v]).bind fun nD=>(A.splice 4 nD zZ).bind fun Aa=>((A.cell AB).bind fun v=>some [v]).bind fun wI=>(A.splice 5 wI Aa).bind fun tT=>((A.cell (AV.int .i64 (-1))).bind fun v=>some [v]).bind fun qF=>(A.splice 6 qF tT).bind fun lP=>((A.cell (AV.int .i64 65535)).bind fun v=>some [v]).bind fun Ab=>(A.splice 7 Ab lP).bind fun Ac=>((A.cell (AV.int .i64 (-1))).bind fun v=>some [v]).bind fun Ad=>(A.splice 8 Ad Ac).bind fun Ae=>some Ae).bind fun cs=>some (AV.agg cs)).bind fun nL=>
       (((A.cells 10 nL).bind fun nE=>(A.splice 0 nE [ah,ah,aM,ah,ah,AV.au,ah,ah,ah,AV.nm]).bind fun Af=>some Af).bind fun cs=>some (AV.sl 10 (chunks 10 1 cs))).bind fun nM=>
       (A.append 10 (140737488355328 / 96) pK nM nG.2).bind fun wY=>
       (A.aL (AV.op id 0)).bind fun mC=>
       (A.aA 0 mC).bind fun AD=>
       (A.aA 0 AD).bind fun AE=>
       ((A.cell wY.1).bind fun v=>some [v]).bind fun DB=>
       (A.storeAt AE DB wY.2).bind fun Ah=>
       (A.add (jB.getD 1 AV.undef) aH).bind fun mD=>
       some (AX.normal,[(jB.getD 0 AV.undef),mD],Ah)) (
       some (AX.exit 6,[(jB.getD 0 AV.undef),(jB.getD 1 AV.undef)],sG)))) [.lbx (bA s),.int .i64 (i:Int)] w=some (.normal,[.lbx (bA s),.int .i64 ((i+1:Nat):Int)],w')∧Hs bK aC w' (blk id (.box (gh qZ aV .au (jY s)))*(Sl (fl aK) 10 qZ ((s.bF.take i).map (kY s)++[kY s x])*R)):=by
   have K1:=hs_eq (show _=Sl (fl aK) 10 vb ((s.bF.take i).map (kY s))*(blk id (.box (gh vb aV .au (jY s)))*R) by ac_rfl) K
   have cvb:=zP K1
   simp only[List.getD_cons_zero,List.getD_cons_succ]
   rw[jr hx,bS,cW,iQ hx,bS,nU,bS,show A.ay 0 3 (cz x)=some (.agg (cz x))from rfl,bS,show A.cells 3 (.agg (cz x))=some (cz x)from rfl,bS,show A.splice 0 (cz x) [ah,ah,ah]=some (cz x)from rfl,bS,ia,bS,show A.ay 0 5 (bA s)=some (.agg (bA s))from rfl,bS,show A.aj 1 (cz x)=some (.int .i64 x.list)from rfl,bS,Vx (ZH s Cz x.list),bS]
   simp only
   rw[kP,bS,ext1,bS,show A.cells 2 (.agg (dU (sN s.lists x.list).1))=some (dU (sN s.lists x.list).1)from rfl,bS,show A.splice 0 (dU (sN s.lists x.list).1) [ah,AV.au]=some (dU (sN s.lists x.list).1)from rfl,bS]
   simp only[show A.aL (.op id 0)=some (.op id 0)from rfl,bS,show A.aA 0 (.op id 0)=some (.op id 0)from rfl]
   rw[show((A.deref (.op id 0) w).bind fun tQ=>A.aj 0 tQ)=some vb from by simp only[A.deref,hb];exact cvb,bS,show A.aj 0 (cz x)=some (.int .i64 x.number)from rfl,bS,show A.aj 2 (cz x)=some (.int .i64 x.priority)from rfl,bS,Py,bS,akc,bS,akG,bS]
   obtain⟨qZ,w2,f1,f2⟩:=LX (most:=140737488355328 / 96) (E:=fl aK) (l:=(s.bF.take i).map (kY s)) (v:=vb) (e:=aK (kY s x)) (x:=kY s x) (R:=blk id (.box (gh vb aV .au (jY s)))*R) (by rw[List.length_map,List.length_take];omega) (hs_eq (by rw[show fl aK (aK (kY s x)) (kY s x)=pr (aK (kY s x)=aK (kY s x))from rfl];ac_rfl) (mW.2 ⟨(rfl:aK (kY s x)=aK (kY s x)),K1⟩))
   rw[f1,bS]
   simp only
   have f3:=hs_eq (show _=blk id (.box (gh vb aV .au (jY s)))*(Sl (fl aK) 10 qZ ((s.bF.take i).map (kY s)++[kY s x])*R) by ac_rfl) f2
   have yV:=(iz f3).2
   have f4:=zF (b':=.box (gh qZ aV .au (jY s))) f3 trivial
   rw[show((A.cell qZ).bind fun v=>some [v])=some [qZ]from by rw[zP f2];rfl,bS,show A.storeAt (.op id 0) [qZ] w2=some (w2.set id (.box (gh qZ aV .au (jY s))))from by simp only[A.storeAt,yV];rfl,bS,fU hx (by unfold aW;omega),bS]
   exact⟨qZ,_,rfl,f4⟩
  obtain⟨qZ,w',s1,s2⟩:=step
  refine .inl ⟨s.bF.length-(i+1),_,_,by omega,s1,i+1,qZ,h,rfl,rfl,?_⟩
  rw[List.take_add_one,hx,Option.toList_some,List.map_append,List.map_cons,List.map_nil]
  exact s2
 ·have:i=s.bF.length:=by omega
  subst this
  rw[List.take_length]at K
  refine .inr ⟨(.exit 6,[.lbx (bA s),.int .i64 (s.bF.length:Int)],w),?_,by simp,vb,w,rfl,K⟩
  simp only[List.getD_cons_zero,List.getD_cons_succ]
  rw[jq,bS,cD]
theorem Ze {eT:List Sh} {r:AV→Heap→Option (AV×Heap)} {x v:AV} {σ σ':Heap} (ho:A.own x=false) (e1:A.bV eT [x]=[x]) (e:r x σ=some (v,σ')):A.wrap true eT .k (A.cK r) [x] σ=some (v,σ'):=by
 have e2:A.cK r [x] σ=some (v,σ'):=e
 simp only[A.wrap,List.any_cons,ho,List.any_nil,Bool.or_self,Bool.and_false,cond_false,e1,e2,Option.map_some,iM]
theorem ak1 {s:gf} (hs:yw s) (h:¬zK s=0) (σ:Heap):CV [.agg (bA s)] σ=some (.aG [.np,.int .i64 (zK s)],σ):=by
 refine Ze rfl (iS (qH rfl) rfl) ?_
 unfold Ht
 rw[show A.cells 5 (.agg (bA s))=some (bA s)from rfl,bS,show A.ay 0 5 (bA s)=some (.agg (bA s))from rfl,bS,UA (U8 s hs),bS]
 simp only
 rw[fW,bS,decide_eq_true h,cW]
theorem Z8 {s:gf} (hs:yw s) (h:zK s=0) (H:Hs bK aC σ R):∃id σ',CV [.agg (bA s)] σ=some (.aG [.op id 0,.int .i64 0],σ')∧Hs bK aC σ' (iK (.op id 0) (jY s)*R):=by
 suffices hh:∃id σ',Ht (.agg (bA s)) σ=some (.aG [.op id 0,.int .i64 0],σ')∧Hs bK aC σ' (iK (.op id 0) (jY s)*R) by
  obtain⟨id,σ',e,K⟩:=hh
  exact⟨id,σ',Ze rfl (iS (qH rfl) rfl) e,K⟩
 have hO:=Ry hs h
 have hB:=hO.bd
 unfold Ht
 rw[show A.cells 5 (.agg (bA s))=some (bA s)from rfl,bS,show A.ay 0 5 (bA s)=some (.agg (bA s))from rfl,bS,UA (U8 s hs),bS]
 simp only
 rw[fW,bS,decide_eq_false (fun q=>q h),cD,bS,ahY hB,bS]
 simp only
 rw[show A.cells 5 (.agg (bA s))=some (bA s)from rfl,bS,show A.splice 0 (bA s) (bA s)=some (bA s)from rfl,bS,show A.ay 0 5 (bA s)=some (.agg (bA s))from rfl,bS]
 obtain⟨aV,aaW⟩:∃aV,aV=σ.length:=⟨_,rfl⟩
 obtain⟨id,hid⟩:∃id,id=(σ++[aJ.map []]).length:=⟨_,rfl⟩
 rw[←aaW,←hid]
 rw[show(((A.cells 5 (.agg (bA s))).bind fun dZ=>(A.splice 4 dZ [AV.au,ah,ah,aM,AV.au,AV.au,AV.au,AV.au,AV.au,AV.au,AV.nm,AV.au]).bind fun gm=>((A.cell (AV.om aV)).bind fun v=>some [v]).bind fun ep=>(A.splice 10 ep gm).bind fun gH=>some gH).bind fun cs=>some (AV.agg cs))=some (.agg [AV.au,ah,ah,aM,sl 3 cm s.aQ.aY,sl 4 bU s.aQ.units,sl 3 dN s.bH,sl 2 dU s.lists,sl 3 cz s.bF,AV.au,.om aV,AV.au])from rfl,bS]
 rw[show A.cells 12 (.agg [AV.au,ah,ah,aM,sl 3 cm s.aQ.aY,sl 4 bU s.aQ.units,sl 3 dN s.bH,sl 2 dU s.lists,sl 3 cz s.bF,AV.au,.om aV,AV.au])=some [AV.au,ah,ah,aM,sl 3 cm s.aQ.aY,sl 4 bU s.aQ.units,sl 3 dN s.bH,sl 2 dU s.lists,sl 3 cz s.bF,AV.au,.om aV,AV.au]from rfl,bS]
 have K0:=FM (b:=aJ.map (([]:List (aB×ew)).map gL)) H trivial
 rw[←aaW]at K0
 have K1:=FM (b:=aJ.box [AV.au,ah,ah,aM,sl 3 cm s.aQ.aY,sl 4 bU s.aQ.units,sl 3 dN s.bH,sl 2 dU s.lists,sl 3 cz s.bF,AV.au,.om aV,AV.au]) K0 trivial
 rw[show(σ++[aJ.map (([]:List (aB×ew)).map gL)]).length=id from hid.symm]at K1
 have hb1:=(iz K1).2
 have K2:=zF (b':=.box [AV.au,ah,(AV.int .i64 65535),aM,sl 3 cm s.aQ.aY,sl 4 bU s.aQ.units,sl 3 dN s.bH,sl 2 dU s.lists,sl 3 cz s.bF,AV.au,.om aV,AV.au]) K1 trivial
 rw[List.map_nil]at hb1 K2
 simp only[show A.aL (.op id 0)=some (.op id 0)from rfl,bS,show A.aA 0 (.op id 0)=some (.op id 0)from rfl,show A.aA 2 (.op id 0)=some (.op id 2)from by simp [A.aA],oR]
 rw[show A.storeAt (.op id 2) [.int .i64 65535] ((σ++[aJ.map []])++[aJ.box [AV.au,ah,ah,aM,sl 3 cm s.aQ.aY,sl 4 bU s.aQ.units,sl 3 dN s.bH,sl 2 dU s.lists,sl 3 cz s.bF,AV.au,.om aV,AV.au]])=some (((σ++[aJ.map []])++[aJ.box [AV.au,ah,ah,aM,sl 3 cm s.aQ.aY,sl 4 bU s.aQ.units,sl 3 dN s.bH,sl 2 dU s.lists,sl 3 cz s.bF,AV.au,.om aV,AV.au]]).set id (.box [AV.au,ah,(AV.int .i64 65535),aM,sl 3 cm s.aQ.aY,sl 4 bU s.aQ.units,sl 3 dN s.bH,sl 2 dU s.lists,sl 3 cz s.bF,AV.au,.om aV,AV.au]))from by simp only[A.storeAt,hb1];rfl,bS]
 generalize (((σ++[aJ.map []])++[aJ.box [AV.au,ah,ah,aM,sl 3 cm s.aQ.aY,sl 4 bU s.aQ.units,sl 3 dN s.bH,sl 2 dU s.lists,sl 3 cz s.bF,AV.au,.om aV,AV.au]]).set id (.box [AV.au,ah,(AV.int .i64 65535),aM,sl 3 cm s.aQ.aY,sl 4 bU s.aQ.units,sl 3 dN s.bH,sl 2 dU s.lists,sl 3 cz s.bF,AV.au,.om aV,AV.au]))=W2 at K2 ⊢
 rw[show A.ay 0 2 (bA s)=some (.agg (jM s.aQ))from rfl,bS,Qt s.aQ hs.1,bS,if_pos hO.aQ]
 simp only
 rw[kP,bS,ext1,bS]
 have yV:=(iz K2).2
 have K3:=zF (b':=.box (gh .au aV .au (jY s))) K2 trivial
 simp only[show A.aA 9 (.op id 0)=some (.op id 9)from by simp [A.aA],bS]
 rw[show((A.cell (sl 2 aN (mV s.aQ))).bind fun v=>some [v])=some [sl 2 aN (mV s.aQ)]from rfl,bS,show A.storeAt (.op id 9) [sl 2 aN (mV s.aQ)] W2=some (W2.set id (.box (gh .au aV .au (jY s))))from by simp only[A.storeAt,yV];rfl,bS]
 generalize W2.set id (.box (gh .au aV .au (jY s)))=W3 at K3 ⊢
 rw[VE,bS,fL,bS]
 obtain⟨me,an0⟩:∃me,me=W3.length:=⟨_,rfl⟩
 have K4:=FM (b:=aJ.map (([]:List (ByteArray×cV)).map vr)) K3 trivial
 rw[←an0]at K4 ⊢
 rw[List.map_nil]at K4
 obtain⟨W4,l1,K5⟩:=amx (s:=s) hB.gI K4
 refine F2 l1 ?_
 simp only[l9,List.getD_cons_zero,List.getD_cons_succ,ia,bS]
 rw[show A.aj (0+1) (bA s)=some (sl 4 bU s.aQ.units)from rfl,bS,fL,bS]
 obtain⟨W5,l2,K6⟩:=amy (s:=s) hB (id:=id) (aV:=aV) (me:=me) (cs:=gh .au aV .au (jY s)) (R:=R) rfl (hs_eq (by ac_rfl) K5)
 refine F2 l2 ?_
 simp only[l9,List.getD_cons_zero,List.getD_cons_succ,ia,bS]
 rw[show A.aj 4 (bA s)=some (sl 3 cz s.bF)from rfl,bS,fL,bS]
 obtain⟨vb,W6,l3,K7⟩:=amz (s:=s) hO (id:=id) (aV:=aV) (R:=blk aV (.map ((Au s.aQ).map gL))*(blk me (.map ((mY s.aQ.aY).map vr))*R)) (hs_eq (by ac_rfl) K6)
 refine F2 l3 ?_
 simp only[l9]
 refine⟨id,W6,rfl,C7 (vb:=vb) (aV:=aV) (va:=.au) rfl ?_⟩
 have K8:=wm (hs_eq (show _=blk me (.map ((mY s.aQ.aY).map vr))*(blk id (.box (gh vb aV .au (jY s)))*(Sl (fl aK) 10 vb (s.bF.map (kY s))*(blk aV (.map ((Au s.aQ).map gL))*R))) by ac_rfl) K7)
 have K9:=qY (v:=.au) (E:=fl bn) (sz:=5) K8 (.inl rfl)
 exact hs_eq (show _=iL id vb aV .au (jY s)*R by unfold iL;show _=blk id (.box (gh vb aV .au (jY s)))*(Sl (fl aK) 10 vb (s.bF.map (kY s))*(blk aV (.map ((Au s.aQ).map gL))*Sl (fl bn) 5 .au []))*R;ac_rfl) K9
def zN:bD→List dR→bD→Prop
 |d,[],e=>d=e
 |d,a::r,e=>(lB d a).2=0∧zN (lB d a).1 r e
theorem V1:∀{l:List dR} {d e:bD} {a:dR},zN d l e→(lB e a).2=0→zN d (l++[a]) (lB e a).1
 |[],d,e,a,h,h2=>by
  have h:d=e:=h
  subst h
  exact⟨h2,rfl⟩
 |b::l,d,e,a,h,h2=>⟨h.1,V1 h.2 h2⟩
noncomputable def qK (d:bD) (l:List dR):bD:=l.foldl (fun d a=>(lB d a).1) d
theorem akL {d:bD} (h:vn d) (l:List dR):vn (qK d l):=by
 unfold qK
 induction l generalizing d with
 |nil=>exact h
 |cons a l ih=>rw[List.foldl_cons];exact ih (Q2 h a)
theorem aik (d:bD) (a:dR):(lB d a).1.setup=d.setup∧(lB d a).1.keys=d.keys∧(lB d a).1.params=d.params:=by
 unfold lB
 split
 ·exact⟨rfl,rfl,rfl⟩
 split<;>exact⟨rfl,rfl,rfl⟩
theorem ajb (d:bD) (l:List dR):(qK d l).setup=d.setup∧(qK d l).keys=d.keys∧(qK d l).params=d.params:=by
 unfold qK
 induction l generalizing d with
 |nil=>exact⟨rfl,rfl,rfl⟩
 |cons a l ih=>
  rw[List.foldl_cons]
  obtain⟨h1,h2,h3⟩:=ih (lB d a).1
  obtain⟨k1,k2,k3⟩:=aik d a
  exact⟨h1.trans k1,h2.trans k2,h3.trans k3⟩
theorem aij (d:bD) (a:dR):((lB d a).2=0∧(lB d a).1.actions=d.actions++[a])∨(lB d a).1=d:=by
 unfold lB
 split
 ·exact .inr rfl
 split
 ·exact .inr rfl
 ·exact .inl ⟨rfl,rfl⟩
theorem ZV {d0:bD}:∀(l:List dR) {d:bD},zN d0 d.actions d→zN d0 (qK d l).actions (qK d l)
 |[],d,h=>h
 |a::l,d,h=>by
  show zN d0 (qK (lB d a).1 l).actions (qK (lB d a).1 l)
  refine ZV l ?_
  rcases aij d a with⟨h1,h2⟩|h1
  ·rw[h2];exact V1 h h1
  ·rw[h1];exact h
theorem aja {Q:HP} {va pd u:AV} {l:List dR} (hQ:∀{aC w:Heap} {R:HP},Hs bK aC w (Q*R)→∀{i:Nat} {x:dR},l[i]? =some x→∃p,A.aT 5 va (.int .i64 (i:Int))=some p∧A.deref p w=some (bn x)) (hl:l.length≤aW) {d:bD} (hK:vn d) (H:Hs bK aC σ (Q*(iK pd d*R))):∃W,A.loop ((fun bP gJ=>
    (A.lss (bP.getD 1 AV.undef) (AV.int .i64 (l.length:Int))).bind fun bM=>
    A.cond bM (
     (A.aT 5 va (bP.getD 1 AV.undef)).bind fun cC=>
     ((A.deref cC gJ).bind fun gO=>A.ay 0 5 gO).bind fun bO=>
     (A.cells 5 bO).bind fun fZ=>
     (A.splice 0 fZ [ah,ah,ah,ah,ah]).bind fun eu=>
     (A.ay 0 5 eu).bind fun x24=>
     (xY [pd,x24] gJ).bind fun jA=>
     (A.add (bP.getD 1 AV.undef) aH).bind fun fA=>
     some (AX.normal,[(bP.getD 0 AV.undef),fA],jA.2)) (
     some (AX.exit 0,[(bP.getD 0 AV.undef),(bP.getD 1 AV.undef)],gJ)))) [u,.int .i64 0] σ=some (.exit 0,[u,.int .i64 (l.length:Int)],W)∧Hs bK aC W (Q*(iK pd (qK d l)*R)):=by
 suffices h:∃q,A.loop ((fun bP gJ=>
    (A.lss (bP.getD 1 AV.undef) (AV.int .i64 (l.length:Int))).bind fun bM=>
    A.cond bM (
     (A.aT 5 va (bP.getD 1 AV.undef)).bind fun cC=>
     ((A.deref cC gJ).bind fun gO=>A.ay 0 5 gO).bind fun bO=>
     (A.cells 5 bO).bind fun fZ=>
     (A.splice 0 fZ [ah,ah,ah,ah,ah]).bind fun eu=>
     (A.ay 0 5 eu).bind fun x24=>
     (xY [pd,x24] gJ).bind fun jA=>
     (A.add (bP.getD 1 AV.undef) aH).bind fun fA=>
     some (AX.normal,[(bP.getD 0 AV.undef),fA],jA.2)) (
     some (AX.exit 0,[(bP.getD 0 AV.undef),(bP.getD 1 AV.undef)],gJ)))) [u,.int .i64 0] σ=some q∧∃W,q=(.exit 0,[u,.int .i64 (l.length:Int)],W)∧Hs bK aC W (Q*(iK pd (qK d l)*R)) by
  obtain⟨q,e,W,rfl,K⟩:=h
  exact⟨W,e,K⟩
 refine mm (fun z v w=>∃(i:Nat) (e:bD),i≤l.length∧v=[u,.int .i64 (i:Int)]∧z=l.length-i∧qK e (l.drop i)=qK d l∧vn e∧Hs bK aC w (Q*(iK pd e*R))) ?_ (n:=l.length) ⟨0,d,Nat.zero_le _,rfl,rfl,rfl,hK,H⟩
 rintro z v w ⟨i,e,hi,rfl,hz,hT,I5,K⟩
 by_cases h:i<l.length
 ·obtain⟨x,bZ⟩:∃x,x=l[i]:=⟨_,rfl⟩
  have hx:l[i]? =some x:=by rw[bZ];exact List.getElem?_eq_getElem h
  rw[List.drop_eq_getElem_cons h,←bZ]at hT
  obtain⟨p,p1,p2⟩:=hQ K hx
  obtain⟨w',d1,d2⟩:=aaK I5 x (R:=Q*R) (hs_eq (by ac_rfl) K)
  refine .inl ⟨l.length-(i+1),_,w',by omega,?_,i+1,(lB e x).1,h,rfl,rfl,hT,Q2 I5 x,hs_eq (by ac_rfl) d2⟩
  simp only[List.getD_cons_zero,List.getD_cons_succ]
  rw[jr hx,bS,cW,p1,bS,p2,bS,Fb,bS,show A.cells 5 (.agg (bn x))=some (bn x)from rfl,bS,Y6,bS,Fb,bS,d1,bS,fU hx hl,bS]
 ·have:i=l.length:=by omega
  subst this
  rw[List.drop_length]at hT
  have hT:e=qK d l:=hT
  rw[hT]at K
  refine .inr ⟨(.exit 0,[u,.int .i64 (l.length:Int)],w),?_,by simp,w,rfl,K⟩
  simp only[List.getD_cons_zero,List.getD_cons_succ]
  rw[jq,bS,cD]
theorem akO (l:List dR) {aC w:Heap} {R:HP} (_:Hs bK aC w (emp*R)) {i:Nat} {x:dR} (hx:l[i]? =some x):∃p,A.aT 5 (sl 5 bn l) (.int .i64 (i:Int))=some p∧A.deref p w=some (bn x):=⟨_,iQ hx,nU _ _⟩
theorem ahZ {va:AV} {s:gf} {l:List dR} {e:bD} (hs:yw s) (h0:zK s=0) (hok:zN (jY s) l e) (hl:l.length≤aW) (H:Hs bK aC σ (Sl (fl bn) 5 va l*R)):∃id σ',Kx [.agg (bA s),va] σ=some (.aG [.op id 0,.int .i64 0,.int .i64 0],σ')∧Hs bK aC σ' (iK (.op id 0) e*(Sl (fl bn) 5 va l*R)):=by
 suffices hh:∃id σ',Ky (.agg (bA s)) va σ=some (.aG [.op id 0,.int .i64 0,.int .i64 0],σ')∧Hs bK aC σ' (iK (.op id 0) e*(Sl (fl bn) 5 va l*R)) by
  obtain⟨id,σ',e,K⟩:=hh
  exact⟨id,σ',QW e,K⟩
 unfold Ky
 obtain⟨id,W,n1,K⟩:=Z8 hs h0 H
 rw[show A.cells 5 (.agg (bA s))=some (bA s)from rfl,bS,show A.ay 0 5 (bA s)=some (.agg (bA s))from rfl,bS,n1,bS]
 simp only
 rw[kP,bS,ext1,bS,fW,bS,decide_eq_false (fun q=>q rfl),cD,ZX H,bS]
 have hL:∃W',A.loop ((fun v8 s9=>
    (A.lss (v8.getD 3 AV.undef) (AV.int .i64 (l.length:Int))).bind fun bW=>
    A.cond bW (
     (A.aT 5 va (v8.getD 3 AV.undef)).bind fun ct=>
     ((A.deref ct s9).bind fun gH=>A.ay 0 5 gH).bind fun cE=>
     (A.cells 5 cE).bind fun jG=>
     (A.splice 0 jG [ah,ah,ah,ah,ah]).bind fun ku=>
     (A.ay 0 5 ku).bind fun cB=>
     (xY [(AV.op id 0),cB] s9).bind fun tu=>
     (A.neq .i tu.1 ah).bind fun cC=>
     A.cond cC (
      some (AX.ret,[AV.np,(v8.getD 3 AV.undef),tu.1,(v8.getD 3 AV.undef)],tu.2)) (
      (A.add (v8.getD 3 AV.undef) aH).bind fun cR=>
      some (AX.normal,[(v8.getD 0 AV.undef),(v8.getD 1 AV.undef),(v8.getD 2 AV.undef),cR],tu.2))) (
     some (AX.exit 0,[(v8.getD 0 AV.undef),(v8.getD 1 AV.undef),(v8.getD 2 AV.undef),(v8.getD 3 AV.undef)],s9)))) [AV.np,.int .i64 0,.int .i64 0,.int .i64 0] W=some (.exit 0,[AV.np,.int .i64 0,.int .i64 0,.int .i64 (l.length:Int)],W')∧Hs bK aC W' (Sl (fl bn) 5 va l*(iK (.op id 0) e*R)):=by
  suffices h:∃q,A.loop ((fun v8 s9=>
    (A.lss (v8.getD 3 AV.undef) (AV.int .i64 (l.length:Int))).bind fun bW=>
    A.cond bW (
     (A.aT 5 va (v8.getD 3 AV.undef)).bind fun ct=>
     ((A.deref ct s9).bind fun gH=>A.ay 0 5 gH).bind fun cE=>
     (A.cells 5 cE).bind fun jG=>
     (A.splice 0 jG [ah,ah,ah,ah,ah]).bind fun ku=>
     (A.ay 0 5 ku).bind fun cB=>
     (xY [(AV.op id 0),cB] s9).bind fun tu=>
     (A.neq .i tu.1 ah).bind fun cC=>
     A.cond cC (
      some (AX.ret,[AV.np,(v8.getD 3 AV.undef),tu.1,(v8.getD 3 AV.undef)],tu.2)) (
      (A.add (v8.getD 3 AV.undef) aH).bind fun cR=>
      some (AX.normal,[(v8.getD 0 AV.undef),(v8.getD 1 AV.undef),(v8.getD 2 AV.undef),cR],tu.2))) (
     some (AX.exit 0,[(v8.getD 0 AV.undef),(v8.getD 1 AV.undef),(v8.getD 2 AV.undef),(v8.getD 3 AV.undef)],s9)))) [AV.np,.int .i64 0,.int .i64 0,.int .i64 0] W=some q∧∃W',q=(.exit 0,[AV.np,.int .i64 0,.int .i64 0,.int .i64 (l.length:Int)],W')∧Hs bK aC W' (Sl (fl bn) 5 va l*(iK (.op id 0) e*R)) by
   obtain⟨q,e,W,rfl,K⟩:=h
   exact⟨W,e,K⟩
  refine mm (fun z v w=>∃(i:Nat) (d:bD),i≤l.length∧v=[AV.np,.int .i64 0,.int .i64 0,.int .i64 (i:Int)]∧z=l.length-i∧zN d (l.drop i) e∧vn d∧Hs bK aC w (Sl (fl bn) 5 va l*(iK (.op id 0) d*R))) ?_ (n:=l.length) ⟨0,jY s,Nat.zero_le _,rfl,rfl,hok,X3 (Ry hs h0),hs_eq (by ac_rfl) K⟩
  rintro z v w ⟨i,d,hi,rfl,hz,hT,I5,K⟩
  by_cases h:i<l.length
  ·obtain⟨x,bZ⟩:∃x,x=l[i]:=⟨_,rfl⟩
   have hx:l[i]? =some x:=by rw[bZ];exact List.getElem?_eq_getElem h
   rw[List.drop_eq_getElem_cons h,←bZ]at hT
   obtain⟨p,p1,p2⟩:=alM K hx
   obtain⟨w',d1,d2⟩:=aaK I5 x (R:=Sl (fl bn) 5 va l*R) (hs_eq (by ac_rfl) K)
   rw[hT.1]at d1
   refine .inl ⟨l.length-(i+1),_,w',by omega,?_,i+1,(lB d x).1,h,rfl,rfl,hT.2,Q2 I5 x,hs_eq (by ac_rfl) d2⟩
   simp only[List.getD_cons_zero,List.getD_cons_succ]
   rw[jr hx,bS,cW,p1,bS,p2,bS,Fb,bS,show A.cells 5 (.agg (bn x))=some (bn x)from rfl,bS,Y6,bS,Fb,bS,d1,bS]
   simp only
   rw[fW,bS,decide_eq_false (fun q=>q rfl),cD,fU hx hl,bS]
  ·have:i=l.length:=by omega
   subst this
   rw[List.drop_length]at hT
   have hT:d=e:=hT
   rw[hT]at K
   refine .inr ⟨(.exit 0,[AV.np,.int .i64 0,.int .i64 0,.int .i64 (l.length:Int)],w),?_,by simp,w,rfl,K⟩
   simp only[List.getD_cons_zero,List.getD_cons_succ]
   rw[jq,bS,cD]
 obtain⟨W',l1,K'⟩:=hL
 refine F2 l1 ?_
 simp only[l9]
 exact⟨id,W',rfl,hs_eq (by ac_rfl) K'⟩
end
end
section
set_option maxRecDepth 100000
noncomputable def HC (a0:(List lK)) (a1:(List lK)):Option Bool:=
 if ¬((a0.length:Int)=(a1.length:Int))then
  some false
 else
 kX a0 (fun(i8:Nat) e7 (s1:Unit)=>(show Option (Lr Unit Unit Unit)from
   (uH a1 (i8:Int)).bind fun x9=>
   if ¬(e7=x9)then
    some (.ret ())
   else
   some (.go ()))) (fun s1=>some ()) () (fun b2=>
  some true) (fun b2=>
  some false)
theorem aiB {a0:(List lK)} {a1:(List lK)} {σ:Heap} {r:Bool} (h:HC a0 a1=some r):GK [(sl 3 dM a0),(sl 3 dM a1)] σ=some ((AV.bool r),σ):=by
 refine uR (f:=NG) (y0:=(sl 3 dM a0)) (y1:=(sl 3 dM a1)) (enc:=fun r:Bool=>(AV.bool r)) (T:=HC a0 a1) rfl rfl ?_ r h
 unfold NG HC
 refine aq _ (fL _ _ _)<|aq _ (fL _ _ _)<|aq _ (fW _ _ _) ?_
 refine kZ (p:=¬((a0.length:Int)=(a1.length:Int))) (fun gm=>?_) (fun gm=>?_)
 ·exact eF _ (bC _ _) ⟨rfl,rfl⟩
 refine aq _ (fL _ _ _) ?_
 refine qv (B:=Unit) (R:=Unit) (fun(i8:Nat) (s1:Unit) v w3=>v=[aM,(AV.int .i64 (i8:Int))]∧σ=w3) (fun(b2:Unit) (q:LS)=>∃u4 xT,q=((AX.exit 0),([u4,xT]:List AV),σ)) (fun(b2:Unit) (q:LS)=>∃xT,q=(AX.ret,([aM,xT]:List AV),σ)) ?_ ?_ ⟨rfl,rfl⟩ ?_ ?_
 ·intro Aq i8 e7 s1 v w3 nW hI
  obtain⟨rfl,rfl⟩:=hI
  refine aq _ (jr nW)<|qA<|aq _ (iQ nW)<|aq _ rfl ?_
  refine lg (fun x9:lK=>(AV.rp (dM x9))) (fun x9 Jp=>BU Jp) (fun x9 Jp=>?_)
  refine aq _ rfl<|aq _ (af2 _ _) ?_
  refine kZ (p:=¬(e7=x9)) (fun dZ=>?_) (fun dZ=>?_)
  ·exact cg (iy (by simp) ⟨_,rfl⟩)
  refine aq _ (fU nW Aq) ?_
  exact cg (qw ⟨rfl,rfl⟩)
 ·intro hl s1 v w3 hI
  obtain⟨rfl,rfl⟩:=hI
  refine aq _ (jq _)<|qz ?_
  exact cg ⟨by simp,⟨_,_,rfl⟩⟩
 ·intro hl b2 q hq
  obtain⟨u4,xT,rfl⟩:=hq
  refine jW rfl ?_
  exact eF _ (bC _ _) ⟨rfl,rfl⟩
 ·intro hl b2 q hq
  obtain⟨xT,rfl⟩:=hq
  refine vg rfl<|jW rfl ?_
  exact eF _ (bC _ _) ⟨rfl,rfl⟩
end
section
set_option maxRecDepth 100000
open HP
theorem amF {α:Type} {l:List α} {body:Nat→α→Unit→Option (Lr Unit Unit Unit)} {K:Unit→Option Bool} (hl:l.length≤aW) (hb:∀i x,l[i]? =some x→body i x ()=some (.go ())):kX l body (fun s=>some ()) () (fun _=>some true) K=some true:=by
 rw[WH (p:=fun _=>false) (r:=fun _=>()) hl (fun i x hx=>by rw[hb i x hx];rfl)]
 have:l.find? (fun _=>false)=none:=by simp
 rw[this]
theorem agC (l:List lK) (hl:l.length≤aW):HC l l=some true:=by
 unfold HC
 simp only[not_true_eq_false,if_false]
 refine amF hl fun i x hx=>?_
 rw[QV (x:=x) (by omega) (by simpa using hx)]
 simp
section
variable {aC σ : Heap} {R R2 : HP}
theorem aaI {α:Type} {c:α→List AV} {sz:Nat} {B:aJ→Prop} {v:AV} {l:List α} (hc:∀x,iU (c x)) (H:Hs B aC σ (Sl (fl c) sz v l*R)):Lt σ (.s sz) v (sl sz c l):=by
 rcases uP H with⟨rfl,rfl|rfl,_⟩|⟨id,g,rfl,K⟩
 ·exact⟨⟨.au,by simp [A.bw],rfl,rfl⟩,rfl,fun _=>rfl⟩
 ·exact⟨⟨.ez,by simp [A.bw],rfl,rfl⟩,rfl,fun _=>rfl⟩
 ·exact⟨⟨sl sz c l,HU hc (iz K).2 (by omega) 7,rfl,rfl⟩,rfl,fun h=>by cases h⟩
theorem ahQ {B:aJ→Prop} {va vb:AV} {l:List lK} (hl:l.length≤aW) (H:Hs B aC σ (Sl (fl dM) 3 va l*R)) (H2:Hs B aC σ (Sl (fl dM) 3 vb l*R2)):GK [va,vb] σ=some (.bool true,σ):=
 Ar (cO:=[va,vb]) (ts:=[sl 3 dM l,sl 3 dM l]) ⟨aaI KF H,aaI KF H2,trivial⟩ (fun σ=>aiB (agC l hl)) rfl
end
theorem aaq (b:Bool) {aC σ:Heap} {R:HP} (H:Hs bK aC σ R):A.fin aC (.bool b) σ=some (.bool b,aC):=Mn H (by simp [A.bw]) (fun _=>rfl)
theorem aiH {d:bD} (hk:d.keys.length≤1000000) (t:Int):(sW d t).1.length≤aW:=by
 unfold sW
 split
 ·simp
 ·simp only[List.length_map];unfold aW;omega
theorem alU {s:List Sh} {r:AV→AV→AV→Heap→Option (AV×Heap)} {x y z v:AV} {σ:Heap} (h:[x,y,z].any A.own=false) (e1:A.bV s [x,y,z]=[x,y,z]) (e:r x y z σ=some (v,σ)):A.wrap true s .k (A.lp r) [x,y,z] σ=some (v,σ):=by
 refine wrap_eq h ?_ (iM _)
 rw[e1]
 exact e
theorem ab8 {s:gf} {l:List dR} {t:Int} {σ:Heap} (h:yw s∧eW LI l):Uj [.agg (bA s),sl 5 bn l,.int .i64 t] σ=some (.bool true,σ):=by
 obtain⟨hs,hl⟩:=h
 refine alU rfl (iS (qH rfl) rfl) ?_
 unfold NI
 rw[show A.cells 5 (.agg (bA s))=some (bA s)from rfl,bS,show A.ay 0 5 (bA s)=some (.agg (bA s))from rfl,bS]
 by_cases h0:zK s=0
 case neg=>
  rw[ak1 hs h0,bS]
  simp only
  rw[kP,bS,ext1,bS,fW,bS,decide_eq_true h0]
  simp only[xC,gU,gT,bS,lD,mg,cT,show A.eql .p .np .np=some (.bool true)from rfl]
  exact aaq true (HV (B:=bK) σ)
 obtain⟨id,W1,n1,K1⟩:=Z8 hs h0 (HV (B:=bK) σ)
 have hO:=Ry hs h0
 have hK0:=X3 hO
 have hK:=akL hK0 l
 rw[n1,bS]
 simp only
 rw[kP,bS,ext1,bS,fW,bS,decide_eq_false (fun q=>q rfl)]
 simp only[gF,uw,gU,bS,mg,lD,cF,show A.eql .p (.op id 0) .np=some (.bool false)from rfl,fL]
 obtain⟨W2,l1,K2⟩:=aja (Q:=emp) (va:=sl 5 bn l) (pd:=.op id 0) (u:=.lbx (bA s)) (l:=l) (fun H _ _ hx=>akO l H hx) hl.1 hK0 (hs_eq (ym _).symm K1)
 refine(congrArg (fun z=>Option.bind z _) l1).trans ?_
 rw[bS]
 simp only[l9,List.getD_cons_zero,List.getD_cons_succ,ia,bS,show A.ay 0 5 (bA s)=some (.agg (bA s))from rfl]
 obtain⟨d,hd⟩:∃d,d=qK (jY s) l:=⟨_,rfl⟩
 rw[←hd]at K2 hK
 have hdk:d.keys.length≤1000000:=by rw[hd,(ajb (jY s) l).2.1];exact ahv hO
 have hok:zN (jY s) d.actions d:=by rw[hd];exact ZV l (d:=jY s) rfl
 obtain⟨va,W3,a1,K3⟩:=agP hK.len (hs_eq (ym _) K2)
 rw[a1,bS]
 simp only
 obtain⟨yY,W4,r1,K4⟩:=ahZ hs h0 hok (by have:=hK.len;unfold aW;omega) K3
 rw[r1,bS]
 simp only
 rw[show A.ext 0 (.aG [.op yY 0,.int .i64 0,.int .i64 0])=some (.op yY 0)from rfl,bS,show A.ext 1 (.aG [.op yY 0,.int .i64 0,.int .i64 0])=some (.int .i64 0)from rfl,bS,show A.ext 2 (.aG [.op yY 0,.int .i64 0,.int .i64 0])=some (.int .i64 0)from rfl,bS,fW,bS,decide_eq_false (fun q=>q rfl)]
 simp only[gF,bS,fW,decide_eq_false (fun q:¬(0:Int)=0=>q rfl),mg,show A.eql .p (.op yY 0) .np=some (.bool false)from rfl,cF]
 obtain⟨v1,W5,e1,K5⟩:=Wu hK hdk t (hs_eq (show _=iK (.op id 0) d*(iK (.op yY 0) d*(Sl (fl bn) 5 va d.actions*emp)) by ac_rfl) K4)
 rw[e1,bS]
 simp only
 rw[kP,bS,ext1,bS]
 obtain⟨v2,W6,e2,K6⟩:=Wu hK hdk t (hs_eq (show _=iK (.op yY 0) d*(Sl (fl dM) 3 v1 (sW d t).1*(iK (.op id 0) d*(Sl (fl bn) 5 va d.actions*emp))) by ac_rfl) K5)
 rw[e2,bS]
 simp only
 rw[kP,bS,ext1,bS,iN,bS,decide_eq_true rfl]
 have q1:=ahQ (aiH hdk t) (hs_eq (show _=Sl (fl dM) 3 v1 (sW d t).1*(Sl (fl dM) 3 v2 (sW d t).1*(iK (.op yY 0) d*(iK (.op id 0) d*(Sl (fl bn) 5 va d.actions*emp)))) by ac_rfl) K6) K6
 have t1:=Zg hK.len (hs_eq (show _=iK (.op id 0) d*(Sl (fl dM) 3 v1 (sW d t).1*(Sl (fl dM) 3 v2 (sW d t).1*(iK (.op yY 0) d*(Sl (fl bn) 5 va d.actions*emp)))) by ac_rfl) K6)
 have t2:=Zg hK.len (hs_eq (show _=iK (.op yY 0) d*(Sl (fl dM) 3 v1 (sW d t).1*(Sl (fl dM) 3 v2 (sW d t).1*(iK (.op id 0) d*(Sl (fl bn) 5 va d.actions*emp)))) by ac_rfl) K6)
 simp only[gT,bS,quiet_of q1,lD,quiet_of t1,quiet_of t2,iN,decide_true]
 exact aaq true K6
theorem ab9 (s:gf) (l:List dR) (t:Int) (hs:yw s) (hl:eW LI l) (_:aP t):yw s∧eW LI l:=⟨hs,hl⟩
end
section
open Go.ChangeShapes Go.WideShapes Go.ChangeAt Go.RowKit
theorem own:ownKnob Tryz.prog.godebug=none:=by kernel_rfl
theorem laidOut:laidOutB Tryz.prog=true:=by kernel_rfl
theorem U7 {H:Type} {enc:TypeId×Value→H} {P:Program} (hl:laidOutB P=true) {W W':World} (hb:Below W.heap.size W W'):
  ∀{ts:List TypeId} {vs:List Value} {ds:List (DataW H)} {ps:List MemPlace},(ts.all fun t=>P.readableRec t&&decide (t<P.types.size))=true→
   DataW.TrodAll enc P W 0 (fun _=>true) true ts vs ds ps→(∀x∈ps,x.block<W.heap.size)→DataW.TrodAll enc P W' 0 (fun b=>decide (b<W.heap.size)) true ts vs ds ps
 |[],[],[],_,_,h,_=>h
 |t::ts,v::vs,d::ds,ps,hts,h,hlt=>by
  obtain⟨p,q,h1,h2,rfl⟩:=h
  simp only[List.all_cons,Bool.and_eq_true,decide_eq_true_eq]at hts
  exact⟨p,q,Below.trod hl hts.1.1 hts.1.2 h1 hb (fun x hx=>hlt x (List.mem_append_left _ hx)),
   U7 hl hb (by simpa using hts.2) h2 (fun x hx=>hlt x (List.mem_append_right _ hx)),rfl⟩
 |[],_::_,_,_,_,h,_=>h.elim
 |[],[],_::_,_,_,h,_=>h.elim
 |_::_,[],_,_,_,h,_=>h.elim
 |_::_,_::_,[],_,_,h,_=>h.elim
theorem aiG {H:Type} {enc:TypeId×Value→H} {f:Func} {s:ChangeSpec} {W W':World} {args:Array Value} {ds gs:List (DataW H)} {before:List MemPlace} {t:TypeId}
  (hts:(f.params.toList.all fun t=>Tryz.prog.readableRec t&&decide (t<Tryz.prog.types.size))=true) (A0:f.resultTypes=#[t]) (ht:Tryz.prog.underlying t=some .bool) (hvs:s.vars=[])
  (hW:DataW.Whole enc Tryz.prog f.params.toList s.vars false W args.toList ds gs before) (hb:Below W.heap.size W W')
  (Rs:s.fn H (ds++gs)={results:=[.lit (.bool true)],args:=ds}):
  s.post enc Tryz.prog f false true false false W args (.bool true) W':=by
 have Na:=hW
 obtain⟨p,q,hA,hV,rfl,hfz,hnd⟩:=hW
 have hlt:∀x∈p++q,x.block<W.heap.size:=fun x hx=>Na.lt x hx
 refine⟨ds,gs,p++q,[],p,[],Na,?_,?_,?_,hb.frame _,fun h=>by cases h⟩
 ·rw[Rs,A0]
  exact trodAll_cons_mk (shut_bool ht _) trodAll_mk0
 ·rw[Rs]
  exact U7 laidOut hb hts hA (fun x hx=>hlt x (List.mem_append_left _ hx))
 ·rw[Rs,hvs]
  exact rfl
end
section
open Go.RowKit
def Gr (w w':World):Prop:=Below w.heap.size w w'
theorem Gr.refl (w:World):Gr w w:=Below.refl _ _
theorem Gr.below {w w':World} (h:Gr w w'):Below w.heap.size w w':=h
theorem Gr.of {w w':World} (h:Below w.heap.size w w'):Gr w w':=h
theorem Gr.trans {a b c:World} (h:Gr a b) (k:Gr b c):Gr a c:=Below.trans h (Below.mono k (Below.size h))
theorem Gr.alloc {a b:World} (h:Gr a b) (o:Obj):Gr a (b.alloc o):=Below.alloc h (Below.size h) o
theorem Gr.drew {a b:World} (h:Gr a b):Gr a b.drew:=Below.drew h
theorem Gr.drewN {a b:World} (h:Gr a b) (n:Nat):Gr a (b.drewN n):=⟨h.os,h.tape,h.output,h.size,h.block⟩
theorem Gr.set {a b:World} (h:Gr a b) {k o:Nat} (hp:a.heap.size≤k) (u:Value):Gr a (b.setCell ⟨k,o,none⟩ u):=Below.setCell h hp u
theorem Gr.put {a b:World} {k o:Nat} (hp:a.heap.size≤k) (h:Gr a b) (u:Value):Gr a (b.setCell ⟨k,o,none⟩ u):=Below.setCell h hp u
theorem Gr.after {a b c:World} (k:Gr b c) (h:Gr a b):Gr a c:=h.trans k
theorem Gr.size {a b:World} (h:Gr a b):a.heap.size≤b.heap.size:=Below.size h
theorem Gr.cell {a b:World} (h:Gr a b) {p:Addr} {v:Value} (hc:a.cell? p=some v):b.cell? p=some v:=by
 by_cases hp:p.block<a.heap.size
 ·rw[Below.cell h hp];exact hc
 ·have:a.heap[p.block]? =none:=Array.getElem?_eq_none (by omega)
  simp [World.cell?,this]at hc
theorem Gr.free {a b:World} (h:Gr a b) {p:Addr} (hp:p.block<a.heap.size) {x:Bool} (hc:a.frozen? p=x):b.frozen? p=x:=by
 rw[Below.frozen h hp];exact hc
theorem Gr.lt {w w1:World} {o:Obj} (h:Gr (w.alloc o) w1):w.heap.size<w1.heap.size:=by have:=h.size;simp at this;omega
abbrev BZ (w:World) (b:Nat) (v0:Value):Prop:=(w.cell? ⟨b,0,none⟩=some v0)∧(w.frozen? ⟨b,0,none⟩=false)∧b<w.heap.size
theorem BZ.mono {w w1:World} {b:Nat} {v0:Value} (k:BZ w b v0) (h:Gr w w1):BZ w1 b v0:=by
 obtain⟨k0,f0,hlt⟩:=k
 exact⟨h.cell k0,h.free (by exact hlt) f0,Nat.lt_of_lt_of_le hlt h.size⟩
theorem BZ.of {w:World} {b:Nat} {v0:Value} {t:TypeId} (h:w.heap[b]? =some (.cells #[v0] t (0,0))):BZ w b v0:=by
 have hlt:b<w.heap.size:=(Array.getElem?_eq_some_iff.1 h).1
 refine⟨?_,?_,hlt⟩<;>simp [World.cell?,World.frozen?,h]
theorem BZ.at {w w1:World} {b:Nat} {v0:Value} {t:TypeId} (g:Gr w w1) (h:w.heap[b]? =some (.cells #[v0] t (0,0))):BZ w1 b v0:=(BZ.of h).mono g
abbrev B0 (w:World) (b:Nat) (v0 v1:Value):Prop:=(w.cell? ⟨b,0,none⟩=some v0∧w.cell? ⟨b,1,none⟩=some v1)∧(w.frozen? ⟨b,0,none⟩=false∧w.frozen? ⟨b,1,none⟩=false)∧b<w.heap.size
theorem B0.mono {w w1:World} {b:Nat} {v0 v1:Value} (k:B0 w b v0 v1) (h:Gr w w1):B0 w1 b v0 v1:=by
 obtain⟨⟨k0,k1⟩,⟨f0,f1⟩,hlt⟩:=k
 exact⟨⟨h.cell k0,h.cell k1⟩,⟨h.free (by exact hlt) f0,h.free (by exact hlt) f1⟩,Nat.lt_of_lt_of_le hlt h.size⟩
theorem B0.of {w:World} {b:Nat} {v0 v1:Value} {t:TypeId} (h:w.heap[b]? =some (.cells #[v0,v1] t (0,0))):B0 w b v0 v1:=by
 have hlt:b<w.heap.size:=(Array.getElem?_eq_some_iff.1 h).1
 refine⟨⟨?_,?_⟩,⟨?_,?_⟩,hlt⟩<;>simp [World.cell?,World.frozen?,h]
theorem B0.at {w w1:World} {b:Nat} {v0 v1:Value} {t:TypeId} (g:Gr w w1) (h:w.heap[b]? =some (.cells #[v0,v1] t (0,0))):B0 w1 b v0 v1:=(B0.of h).mono g
abbrev B3 (w:World) (b:Nat) (v0 v1 v2:Value):Prop:=(w.cell? ⟨b,0,none⟩=some v0∧w.cell? ⟨b,1,none⟩=some v1∧w.cell? ⟨b,2,none⟩=some v2)∧(w.frozen? ⟨b,0,none⟩=false∧w.frozen? ⟨b,1,none⟩=false∧w.frozen? ⟨b,2,none⟩=false)∧b<w.heap.size
theorem B3.mono {w w1:World} {b:Nat} {v0 v1 v2:Value} (k:B3 w b v0 v1 v2) (h:Gr w w1):B3 w1 b v0 v1 v2:=by
 obtain⟨⟨k0,k1,k2⟩,⟨f0,f1,f2⟩,hlt⟩:=k
 exact⟨⟨h.cell k0,h.cell k1,h.cell k2⟩,⟨h.free (by exact hlt) f0,h.free (by exact hlt) f1,h.free (by exact hlt) f2⟩,Nat.lt_of_lt_of_le hlt h.size⟩
theorem B3.of {w:World} {b:Nat} {v0 v1 v2:Value} {t:TypeId} (h:w.heap[b]? =some (.cells #[v0,v1,v2] t (0,0))):B3 w b v0 v1 v2:=by
 have hlt:b<w.heap.size:=(Array.getElem?_eq_some_iff.1 h).1
 refine⟨⟨?_,?_,?_⟩,⟨?_,?_,?_⟩,hlt⟩<;>simp [World.cell?,World.frozen?,h]
theorem B3.at {w w1:World} {b:Nat} {v0 v1 v2:Value} {t:TypeId} (g:Gr w w1) (h:w.heap[b]? =some (.cells #[v0,v1,v2] t (0,0))):B3 w1 b v0 v1 v2:=(B3.of h).mono g
abbrev B4 (w:World) (b:Nat) (v0 v1 v2 v3:Value):Prop:=(w.cell? ⟨b,0,none⟩=some v0∧w.cell? ⟨b,1,none⟩=some v1∧w.cell? ⟨b,2,none⟩=some v2∧w.cell? ⟨b,3,none⟩=some v3)∧(w.frozen? ⟨b,0,none⟩=false∧w.frozen? ⟨b,1,none⟩=false∧w.frozen? ⟨b,2,none⟩=false∧w.frozen? ⟨b,3,none⟩=false)∧b<w.heap.size
theorem B4.mono {w w1:World} {b:Nat} {v0 v1 v2 v3:Value} (k:B4 w b v0 v1 v2 v3) (h:Gr w w1):B4 w1 b v0 v1 v2 v3:=by
 obtain⟨⟨k0,k1,k2,k3⟩,⟨f0,f1,f2,f3⟩,hlt⟩:=k
 exact⟨⟨h.cell k0,h.cell k1,h.cell k2,h.cell k3⟩,⟨h.free (by exact hlt) f0,h.free (by exact hlt) f1,h.free (by exact hlt) f2,h.free (by exact hlt) f3⟩,Nat.lt_of_lt_of_le hlt h.size⟩
theorem B4.of {w:World} {b:Nat} {v0 v1 v2 v3:Value} {t:TypeId} (h:w.heap[b]? =some (.cells #[v0,v1,v2,v3] t (0,0))):B4 w b v0 v1 v2 v3:=by
 have hlt:b<w.heap.size:=(Array.getElem?_eq_some_iff.1 h).1
 refine⟨⟨?_,?_,?_,?_⟩,⟨?_,?_,?_,?_⟩,hlt⟩<;>simp [World.cell?,World.frozen?,h]
theorem B4.at {w w1:World} {b:Nat} {v0 v1 v2 v3:Value} {t:TypeId} (g:Gr w w1) (h:w.heap[b]? =some (.cells #[v0,v1,v2,v3] t (0,0))):B4 w1 b v0 v1 v2 v3:=(B4.of h).mono g
abbrev B5 (w:World) (b:Nat) (v0 v1 v2 v3 v4:Value):Prop:=(w.cell? ⟨b,0,none⟩=some v0∧w.cell? ⟨b,1,none⟩=some v1∧w.cell? ⟨b,2,none⟩=some v2∧w.cell? ⟨b,3,none⟩=some v3∧w.cell? ⟨b,4,none⟩=some v4)∧(w.frozen? ⟨b,0,none⟩=false∧w.frozen? ⟨b,1,none⟩=false∧w.frozen? ⟨b,2,none⟩=false∧w.frozen? ⟨b,3,none⟩=false∧w.frozen? ⟨b,4,none⟩=false)∧b<w.heap.size
theorem B5.mono {w w1:World} {b:Nat} {v0 v1 v2 v3 v4:Value} (k:B5 w b v0 v1 v2 v3 v4) (h:Gr w w1):B5 w1 b v0 v1 v2 v3 v4:=by
 obtain⟨⟨k0,k1,k2,k3,k4⟩,⟨f0,f1,f2,f3,f4⟩,hlt⟩:=k
 exact⟨⟨h.cell k0,h.cell k1,h.cell k2,h.cell k3,h.cell k4⟩,⟨h.free (by exact hlt) f0,h.free (by exact hlt) f1,h.free (by exact hlt) f2,h.free (by exact hlt) f3,h.free (by exact hlt) f4⟩,Nat.lt_of_lt_of_le hlt h.size⟩
theorem B5.of {w:World} {b:Nat} {v0 v1 v2 v3 v4:Value} {t:TypeId} (h:w.heap[b]? =some (.cells #[v0,v1,v2,v3,v4] t (0,0))):B5 w b v0 v1 v2 v3 v4:=by
 have hlt:b<w.heap.size:=(Array.getElem?_eq_some_iff.1 h).1
 refine⟨⟨?_,?_,?_,?_,?_⟩,⟨?_,?_,?_,?_,?_⟩,hlt⟩<;>simp [World.cell?,World.frozen?,h]
theorem B5.at {w w1:World} {b:Nat} {v0 v1 v2 v3 v4:Value} {t:TypeId} (g:Gr w w1) (h:w.heap[b]? =some (.cells #[v0,v1,v2,v3,v4] t (0,0))):B5 w1 b v0 v1 v2 v3 v4:=(B5.of h).mono g
abbrev B6 (w:World) (b:Nat) (v0 v1 v2 v3 v4 v5:Value):Prop:=(w.cell? ⟨b,0,none⟩=some v0∧w.cell? ⟨b,1,none⟩=some v1∧w.cell? ⟨b,2,none⟩=some v2∧w.cell? ⟨b,3,none⟩=some v3∧w.cell? ⟨b,4,none⟩=some v4∧w.cell? ⟨b,5,none⟩=some v5)∧(w.frozen? ⟨b,0,none⟩=false∧w.frozen? ⟨b,1,none⟩=false∧w.frozen? ⟨b,2,none⟩=false∧w.frozen? ⟨b,3,none⟩=false∧w.frozen? ⟨b,4,none⟩=false∧w.frozen? ⟨b,5,none⟩=false)∧b<w.heap.size
theorem B6.mono {w w1:World} {b:Nat} {v0 v1 v2 v3 v4 v5:Value} (k:B6 w b v0 v1 v2 v3 v4 v5) (h:Gr w w1):B6 w1 b v0 v1 v2 v3 v4 v5:=by
 obtain⟨⟨k0,k1,k2,k3,k4,k5⟩,⟨f0,f1,f2,f3,f4,f5⟩,hlt⟩:=k
 exact⟨⟨h.cell k0,h.cell k1,h.cell k2,h.cell k3,h.cell k4,h.cell k5⟩,⟨h.free (by exact hlt) f0,h.free (by exact hlt) f1,h.free (by exact hlt) f2,h.free (by exact hlt) f3,h.free (by exact hlt) f4,h.free (by exact hlt) f5⟩,Nat.lt_of_lt_of_le hlt h.size⟩
theorem B6.of {w:World} {b:Nat} {v0 v1 v2 v3 v4 v5:Value} {t:TypeId} (h:w.heap[b]? =some (.cells #[v0,v1,v2,v3,v4,v5] t (0,0))):B6 w b v0 v1 v2 v3 v4 v5:=by
 have hlt:b<w.heap.size:=(Array.getElem?_eq_some_iff.1 h).1
 refine⟨⟨?_,?_,?_,?_,?_,?_⟩,⟨?_,?_,?_,?_,?_,?_⟩,hlt⟩<;>simp [World.cell?,World.frozen?,h]
theorem B6.at {w w1:World} {b:Nat} {v0 v1 v2 v3 v4 v5:Value} {t:TypeId} (g:Gr w w1) (h:w.heap[b]? =some (.cells #[v0,v1,v2,v3,v4,v5] t (0,0))):B6 w1 b v0 v1 v2 v3 v4 v5:=(B6.of h).mono g
abbrev B7 (w:World) (b:Nat) (v0 v1 v2 v3 v4 v5 v6:Value):Prop:=(w.cell? ⟨b,0,none⟩=some v0∧w.cell? ⟨b,1,none⟩=some v1∧w.cell? ⟨b,2,none⟩=some v2∧w.cell? ⟨b,3,none⟩=some v3∧w.cell? ⟨b,4,none⟩=some v4∧w.cell? ⟨b,5,none⟩=some v5∧w.cell? ⟨b,6,none⟩=some v6)∧(w.frozen? ⟨b,0,none⟩=false∧w.frozen? ⟨b,1,none⟩=false∧w.frozen? ⟨b,2,none⟩=false∧w.frozen? ⟨b,3,none⟩=false∧w.frozen? ⟨b,4,none⟩=false∧w.frozen? ⟨b,5,none⟩=false∧w.frozen? ⟨b,6,none⟩=false)∧b<w.heap.size
theorem B7.mono {w w1:World} {b:Nat} {v0 v1 v2 v3 v4 v5 v6:Value} (k:B7 w b v0 v1 v2 v3 v4 v5 v6) (h:Gr w w1):B7 w1 b v0 v1 v2 v3 v4 v5 v6:=by
 obtain⟨⟨k0,k1,k2,k3,k4,k5,k6⟩,⟨f0,f1,f2,f3,f4,f5,f6⟩,hlt⟩:=k
 exact⟨⟨h.cell k0,h.cell k1,h.cell k2,h.cell k3,h.cell k4,h.cell k5,h.cell k6⟩,⟨h.free (by exact hlt) f0,h.free (by exact hlt) f1,h.free (by exact hlt) f2,h.free (by exact hlt) f3,h.free (by exact hlt) f4,h.free (by exact hlt) f5,h.free (by exact hlt) f6⟩,Nat.lt_of_lt_of_le hlt h.size⟩
theorem B7.of {w:World} {b:Nat} {v0 v1 v2 v3 v4 v5 v6:Value} {t:TypeId} (h:w.heap[b]? =some (.cells #[v0,v1,v2,v3,v4,v5,v6] t (0,0))):B7 w b v0 v1 v2 v3 v4 v5 v6:=by
 have hlt:b<w.heap.size:=(Array.getElem?_eq_some_iff.1 h).1
 refine⟨⟨?_,?_,?_,?_,?_,?_,?_⟩,⟨?_,?_,?_,?_,?_,?_,?_⟩,hlt⟩<;>simp [World.cell?,World.frozen?,h]
theorem B7.at {w w1:World} {b:Nat} {v0 v1 v2 v3 v4 v5 v6:Value} {t:TypeId} (g:Gr w w1) (h:w.heap[b]? =some (.cells #[v0,v1,v2,v3,v4,v5,v6] t (0,0))):B7 w1 b v0 v1 v2 v3 v4 v5 v6:=(B7.of h).mono g
abbrev B8 (w:World) (b:Nat) (v0 v1 v2 v3 v4 v5 v6 v7:Value):Prop:=(w.cell? ⟨b,0,none⟩=some v0∧w.cell? ⟨b,1,none⟩=some v1∧w.cell? ⟨b,2,none⟩=some v2∧w.cell? ⟨b,3,none⟩=some v3∧w.cell? ⟨b,4,none⟩=some v4∧w.cell? ⟨b,5,none⟩=some v5∧w.cell? ⟨b,6,none⟩=some v6∧w.cell? ⟨b,7,none⟩=some v7)∧(w.frozen? ⟨b,0,none⟩=false∧w.frozen? ⟨b,1,none⟩=false∧w.frozen? ⟨b,2,none⟩=false∧w.frozen? ⟨b,3,none⟩=false∧w.frozen? ⟨b,4,none⟩=false∧w.frozen? ⟨b,5,none⟩=false∧w.frozen? ⟨b,6,none⟩=false∧w.frozen? ⟨b,7,none⟩=false)∧b<w.heap.size
theorem B8.mono {w w1:World} {b:Nat} {v0 v1 v2 v3 v4 v5 v6 v7:Value} (k:B8 w b v0 v1 v2 v3 v4 v5 v6 v7) (h:Gr w w1):B8 w1 b v0 v1 v2 v3 v4 v5 v6 v7:=by
 obtain⟨⟨k0,k1,k2,k3,k4,k5,k6,k7⟩,⟨f0,f1,f2,f3,f4,f5,f6,f7⟩,hlt⟩:=k
 exact⟨⟨h.cell k0,h.cell k1,h.cell k2,h.cell k3,h.cell k4,h.cell k5,h.cell k6,h.cell k7⟩,⟨h.free (by exact hlt) f0,h.free (by exact hlt) f1,h.free (by exact hlt) f2,h.free (by exact hlt) f3,h.free (by exact hlt) f4,h.free (by exact hlt) f5,h.free (by exact hlt) f6,h.free (by exact hlt) f7⟩,Nat.lt_of_lt_of_le hlt h.size⟩
theorem B8.of {w:World} {b:Nat} {v0 v1 v2 v3 v4 v5 v6 v7:Value} {t:TypeId} (h:w.heap[b]? =some (.cells #[v0,v1,v2,v3,v4,v5,v6,v7] t (0,0))):B8 w b v0 v1 v2 v3 v4 v5 v6 v7:=by
 have hlt:b<w.heap.size:=(Array.getElem?_eq_some_iff.1 h).1
 refine⟨⟨?_,?_,?_,?_,?_,?_,?_,?_⟩,⟨?_,?_,?_,?_,?_,?_,?_,?_⟩,hlt⟩<;>simp [World.cell?,World.frozen?,h]
theorem B8.at {w w1:World} {b:Nat} {v0 v1 v2 v3 v4 v5 v6 v7:Value} {t:TypeId} (g:Gr w w1) (h:w.heap[b]? =some (.cells #[v0,v1,v2,v3,v4,v5,v6,v7] t (0,0))):B8 w1 b v0 v1 v2 v3 v4 v5 v6 v7:=(B8.of h).mono g
abbrev B9 (w:World) (b:Nat) (v0 v1 v2 v3 v4 v5 v6 v7 v8:Value):Prop:=(w.cell? ⟨b,0,none⟩=some v0∧w.cell? ⟨b,1,none⟩=some v1∧w.cell? ⟨b,2,none⟩=some v2∧w.cell? ⟨b,3,none⟩=some v3∧w.cell? ⟨b,4,none⟩=some v4∧w.cell? ⟨b,5,none⟩=some v5∧w.cell? ⟨b,6,none⟩=some v6∧w.cell? ⟨b,7,none⟩=some v7∧w.cell? ⟨b,8,none⟩=some v8)∧(w.frozen? ⟨b,0,none⟩=false∧w.frozen? ⟨b,1,none⟩=false∧w.frozen? ⟨b,2,none⟩=false∧w.frozen? ⟨b,3,none⟩=false∧w.frozen? ⟨b,4,none⟩=false∧w.frozen? ⟨b,5,none⟩=false∧w.frozen? ⟨b,6,none⟩=false∧w.frozen? ⟨b,7,none⟩=false∧w.frozen? ⟨b,8,none⟩=false)∧b<w.heap.size
theorem B9.mono {w w1:World} {b:Nat} {v0 v1 v2 v3 v4 v5 v6 v7 v8:Value} (k:B9 w b v0 v1 v2 v3 v4 v5 v6 v7 v8) (h:Gr w w1):B9 w1 b v0 v1 v2 v3 v4 v5 v6 v7 v8:=by
 obtain⟨⟨k0,k1,k2,k3,k4,k5,k6,k7,k8⟩,⟨f0,f1,f2,f3,f4,f5,f6,f7,f8⟩,hlt⟩:=k
 exact⟨⟨h.cell k0,h.cell k1,h.cell k2,h.cell k3,h.cell k4,h.cell k5,h.cell k6,h.cell k7,h.cell k8⟩,⟨h.free (by exact hlt) f0,h.free (by exact hlt) f1,h.free (by exact hlt) f2,h.free (by exact hlt) f3,h.free (by exact hlt) f4,h.free (by exact hlt) f5,h.free (by exact hlt) f6,h.free (by exact hlt) f7,h.free (by exact hlt) f8⟩,Nat.lt_of_lt_of_le hlt h.size⟩
theorem B9.of {w:World} {b:Nat} {v0 v1 v2 v3 v4 v5 v6 v7 v8:Value} {t:TypeId} (h:w.heap[b]? =some (.cells #[v0,v1,v2,v3,v4,v5,v6,v7,v8] t (0,0))):B9 w b v0 v1 v2 v3 v4 v5 v6 v7 v8:=by
 have hlt:b<w.heap.size:=(Array.getElem?_eq_some_iff.1 h).1
 refine⟨⟨?_,?_,?_,?_,?_,?_,?_,?_,?_⟩,⟨?_,?_,?_,?_,?_,?_,?_,?_,?_⟩,hlt⟩<;>simp [World.cell?,World.frozen?,h]
theorem B9.at {w w1:World} {b:Nat} {v0 v1 v2 v3 v4 v5 v6 v7 v8:Value} {t:TypeId} (g:Gr w w1) (h:w.heap[b]? =some (.cells #[v0,v1,v2,v3,v4,v5,v6,v7,v8] t (0,0))):B9 w1 b v0 v1 v2 v3 v4 v5 v6 v7 v8:=(B9.of h).mono g
abbrev BK (w:World) (b:Nat) (v0 v1 v2 v3 v4 v5 v6 v7 v8 v9:Value):Prop:=(w.cell? ⟨b,0,none⟩=some v0∧w.cell? ⟨b,1,none⟩=some v1∧w.cell? ⟨b,2,none⟩=some v2∧w.cell? ⟨b,3,none⟩=some v3∧w.cell? ⟨b,4,none⟩=some v4∧w.cell? ⟨b,5,none⟩=some v5∧w.cell? ⟨b,6,none⟩=some v6∧w.cell? ⟨b,7,none⟩=some v7∧w.cell? ⟨b,8,none⟩=some v8∧w.cell? ⟨b,9,none⟩=some v9)∧(w.frozen? ⟨b,0,none⟩=false∧w.frozen? ⟨b,1,none⟩=false∧w.frozen? ⟨b,2,none⟩=false∧w.frozen? ⟨b,3,none⟩=false∧w.frozen? ⟨b,4,none⟩=false∧w.frozen? ⟨b,5,none⟩=false∧w.frozen? ⟨b,6,none⟩=false∧w.frozen? ⟨b,7,none⟩=false∧w.frozen? ⟨b,8,none⟩=false∧w.frozen? ⟨b,9,none⟩=false)∧b<w.heap.size
theorem BK.mono {w w1:World} {b:Nat} {v0 v1 v2 v3 v4 v5 v6 v7 v8 v9:Value} (k:BK w b v0 v1 v2 v3 v4 v5 v6 v7 v8 v9) (h:Gr w w1):BK w1 b v0 v1 v2 v3 v4 v5 v6 v7 v8 v9:=by
 obtain⟨⟨k0,k1,k2,k3,k4,k5,k6,k7,k8,k9⟩,⟨f0,f1,f2,f3,f4,f5,f6,f7,f8,f9⟩,hlt⟩:=k
 exact⟨⟨h.cell k0,h.cell k1,h.cell k2,h.cell k3,h.cell k4,h.cell k5,h.cell k6,h.cell k7,h.cell k8,h.cell k9⟩,⟨h.free (by exact hlt) f0,h.free (by exact hlt) f1,h.free (by exact hlt) f2,h.free (by exact hlt) f3,h.free (by exact hlt) f4,h.free (by exact hlt) f5,h.free (by exact hlt) f6,h.free (by exact hlt) f7,h.free (by exact hlt) f8,h.free (by exact hlt) f9⟩,Nat.lt_of_lt_of_le hlt h.size⟩
theorem BK.of {w:World} {b:Nat} {v0 v1 v2 v3 v4 v5 v6 v7 v8 v9:Value} {t:TypeId} (h:w.heap[b]? =some (.cells #[v0,v1,v2,v3,v4,v5,v6,v7,v8,v9] t (0,0))):BK w b v0 v1 v2 v3 v4 v5 v6 v7 v8 v9:=by
 have hlt:b<w.heap.size:=(Array.getElem?_eq_some_iff.1 h).1
 refine⟨⟨?_,?_,?_,?_,?_,?_,?_,?_,?_,?_⟩,⟨?_,?_,?_,?_,?_,?_,?_,?_,?_,?_⟩,hlt⟩<;>simp [World.cell?,World.frozen?,h]
theorem BK.at {w w1:World} {b:Nat} {v0 v1 v2 v3 v4 v5 v6 v7 v8 v9:Value} {t:TypeId} (g:Gr w w1) (h:w.heap[b]? =some (.cells #[v0,v1,v2,v3,v4,v5,v6,v7,v8,v9] t (0,0))):BK w1 b v0 v1 v2 v3 v4 v5 v6 v7 v8 v9:=(BK.of h).mono g
abbrev BL (w:World) (b:Nat) (v0 v1 v2 v3 v4 v5 v6 v7 v8 v9 v10:Value):Prop:=(w.cell? ⟨b,0,none⟩=some v0∧w.cell? ⟨b,1,none⟩=some v1∧w.cell? ⟨b,2,none⟩=some v2∧w.cell? ⟨b,3,none⟩=some v3∧w.cell? ⟨b,4,none⟩=some v4∧w.cell? ⟨b,5,none⟩=some v5∧w.cell? ⟨b,6,none⟩=some v6∧w.cell? ⟨b,7,none⟩=some v7∧w.cell? ⟨b,8,none⟩=some v8∧w.cell? ⟨b,9,none⟩=some v9∧w.cell? ⟨b,10,none⟩=some v10)∧(w.frozen? ⟨b,0,none⟩=false∧w.frozen? ⟨b,1,none⟩=false∧w.frozen? ⟨b,2,none⟩=false∧w.frozen? ⟨b,3,none⟩=false∧w.frozen? ⟨b,4,none⟩=false∧w.frozen? ⟨b,5,none⟩=false∧w.frozen? ⟨b,6,none⟩=false∧w.frozen? ⟨b,7,none⟩=false∧w.frozen? ⟨b,8,none⟩=false∧w.frozen? ⟨b,9,none⟩=false∧w.frozen? ⟨b,10,none⟩=false)∧b<w.heap.size
theorem BL.mono {w w1:World} {b:Nat} {v0 v1 v2 v3 v4 v5 v6 v7 v8 v9 v10:Value} (k:BL w b v0 v1 v2 v3 v4 v5 v6 v7 v8 v9 v10) (h:Gr w w1):BL w1 b v0 v1 v2 v3 v4 v5 v6 v7 v8 v9 v10:=by
 obtain⟨⟨k0,k1,k2,k3,k4,k5,k6,k7,k8,k9,Ek⟩,⟨f0,f1,f2,f3,f4,f5,f6,f7,f8,f9,f10⟩,hlt⟩:=k
 exact⟨⟨h.cell k0,h.cell k1,h.cell k2,h.cell k3,h.cell k4,h.cell k5,h.cell k6,h.cell k7,h.cell k8,h.cell k9,h.cell Ek⟩,⟨h.free (by exact hlt) f0,h.free (by exact hlt) f1,h.free (by exact hlt) f2,h.free (by exact hlt) f3,h.free (by exact hlt) f4,h.free (by exact hlt) f5,h.free (by exact hlt) f6,h.free (by exact hlt) f7,h.free (by exact hlt) f8,h.free (by exact hlt) f9,h.free (by exact hlt) f10⟩,Nat.lt_of_lt_of_le hlt h.size⟩
theorem BL.of {w:World} {b:Nat} {v0 v1 v2 v3 v4 v5 v6 v7 v8 v9 v10:Value} {t:TypeId} (h:w.heap[b]? =some (.cells #[v0,v1,v2,v3,v4,v5,v6,v7,v8,v9,v10] t (0,0))):BL w b v0 v1 v2 v3 v4 v5 v6 v7 v8 v9 v10:=by
 have hlt:b<w.heap.size:=(Array.getElem?_eq_some_iff.1 h).1
 refine⟨⟨?_,?_,?_,?_,?_,?_,?_,?_,?_,?_,?_⟩,⟨?_,?_,?_,?_,?_,?_,?_,?_,?_,?_,?_⟩,hlt⟩<;>simp [World.cell?,World.frozen?,h]
theorem BL.at {w w1:World} {b:Nat} {v0 v1 v2 v3 v4 v5 v6 v7 v8 v9 v10:Value} {t:TypeId} (g:Gr w w1) (h:w.heap[b]? =some (.cells #[v0,v1,v2,v3,v4,v5,v6,v7,v8,v9,v10] t (0,0))):BL w1 b v0 v1 v2 v3 v4 v5 v6 v7 v8 v9 v10:=(BL.of h).mono g
abbrev BM (w:World) (b:Nat) (v0 v1 v2 v3 v4 v5 v6 v7 v8 v9 v10 v11:Value):Prop:=(w.cell? ⟨b,0,none⟩=some v0∧w.cell? ⟨b,1,none⟩=some v1∧w.cell? ⟨b,2,none⟩=some v2∧w.cell? ⟨b,3,none⟩=some v3∧w.cell? ⟨b,4,none⟩=some v4∧w.cell? ⟨b,5,none⟩=some v5∧w.cell? ⟨b,6,none⟩=some v6∧w.cell? ⟨b,7,none⟩=some v7∧w.cell? ⟨b,8,none⟩=some v8∧w.cell? ⟨b,9,none⟩=some v9∧w.cell? ⟨b,10,none⟩=some v10∧w.cell? ⟨b,11,none⟩=some v11)∧(w.frozen? ⟨b,0,none⟩=false∧w.frozen? ⟨b,1,none⟩=false∧w.frozen? ⟨b,2,none⟩=false∧w.frozen? ⟨b,3,none⟩=false∧w.frozen? ⟨b,4,none⟩=false∧w.frozen? ⟨b,5,none⟩=false∧w.frozen? ⟨b,6,none⟩=false∧w.frozen? ⟨b,7,none⟩=false∧w.frozen? ⟨b,8,none⟩=false∧w.frozen? ⟨b,9,none⟩=false∧w.frozen? ⟨b,10,none⟩=false∧w.frozen? ⟨b,11,none⟩=false)∧b<w.heap.size
theorem BM.mono {w w1:World} {b:Nat} {v0 v1 v2 v3 v4 v5 v6 v7 v8 v9 v10 v11:Value} (k:BM w b v0 v1 v2 v3 v4 v5 v6 v7 v8 v9 v10 v11) (h:Gr w w1):BM w1 b v0 v1 v2 v3 v4 v5 v6 v7 v8 v9 v10 v11:=by
 obtain⟨⟨k0,k1,k2,k3,k4,k5,k6,k7,k8,k9,Ek,Jt⟩,⟨f0,f1,f2,f3,f4,f5,f6,f7,f8,f9,f10,f11⟩,hlt⟩:=k
 exact⟨⟨h.cell k0,h.cell k1,h.cell k2,h.cell k3,h.cell k4,h.cell k5,h.cell k6,h.cell k7,h.cell k8,h.cell k9,h.cell Ek,h.cell Jt⟩,⟨h.free (by exact hlt) f0,h.free (by exact hlt) f1,h.free (by exact hlt) f2,h.free (by exact hlt) f3,h.free (by exact hlt) f4,h.free (by exact hlt) f5,h.free (by exact hlt) f6,h.free (by exact hlt) f7,h.free (by exact hlt) f8,h.free (by exact hlt) f9,h.free (by exact hlt) f10,h.free (by exact hlt) f11⟩,Nat.lt_of_lt_of_le hlt h.size⟩
theorem BM.of {w:World} {b:Nat} {v0 v1 v2 v3 v4 v5 v6 v7 v8 v9 v10 v11:Value} {t:TypeId} (h:w.heap[b]? =some (.cells #[v0,v1,v2,v3,v4,v5,v6,v7,v8,v9,v10,v11] t (0,0))):BM w b v0 v1 v2 v3 v4 v5 v6 v7 v8 v9 v10 v11:=by
 have hlt:b<w.heap.size:=(Array.getElem?_eq_some_iff.1 h).1
 refine⟨⟨?_,?_,?_,?_,?_,?_,?_,?_,?_,?_,?_,?_⟩,⟨?_,?_,?_,?_,?_,?_,?_,?_,?_,?_,?_,?_⟩,hlt⟩<;>simp [World.cell?,World.frozen?,h]
theorem BM.at {w w1:World} {b:Nat} {v0 v1 v2 v3 v4 v5 v6 v7 v8 v9 v10 v11:Value} {t:TypeId} (g:Gr w w1) (h:w.heap[b]? =some (.cells #[v0,v1,v2,v3,v4,v5,v6,v7,v8,v9,v10,v11] t (0,0))):BM w1 b v0 v1 v2 v3 v4 v5 v6 v7 v8 v9 v10 v11:=(BM.of h).mono g
abbrev BN (w:World) (b:Nat) (v0 v1 v2 v3 v4 v5 v6 v7 v8 v9 v10 v11 v12:Value):Prop:=(w.cell? ⟨b,0,none⟩=some v0∧w.cell? ⟨b,1,none⟩=some v1∧w.cell? ⟨b,2,none⟩=some v2∧w.cell? ⟨b,3,none⟩=some v3∧w.cell? ⟨b,4,none⟩=some v4∧w.cell? ⟨b,5,none⟩=some v5∧w.cell? ⟨b,6,none⟩=some v6∧w.cell? ⟨b,7,none⟩=some v7∧w.cell? ⟨b,8,none⟩=some v8∧w.cell? ⟨b,9,none⟩=some v9∧w.cell? ⟨b,10,none⟩=some v10∧w.cell? ⟨b,11,none⟩=some v11∧w.cell? ⟨b,12,none⟩=some v12)∧(w.frozen? ⟨b,0,none⟩=false∧w.frozen? ⟨b,1,none⟩=false∧w.frozen? ⟨b,2,none⟩=false∧w.frozen? ⟨b,3,none⟩=false∧w.frozen? ⟨b,4,none⟩=false∧w.frozen? ⟨b,5,none⟩=false∧w.frozen? ⟨b,6,none⟩=false∧w.frozen? ⟨b,7,none⟩=false∧w.frozen? ⟨b,8,none⟩=false∧w.frozen? ⟨b,9,none⟩=false∧w.frozen? ⟨b,10,none⟩=false∧w.frozen? ⟨b,11,none⟩=false∧w.frozen? ⟨b,12,none⟩=false)∧b<w.heap.size
theorem BN.mono {w w1:World} {b:Nat} {v0 v1 v2 v3 v4 v5 v6 v7 v8 v9 v10 v11 v12:Value} (k:BN w b v0 v1 v2 v3 v4 v5 v6 v7 v8 v9 v10 v11 v12) (h:Gr w w1):BN w1 b v0 v1 v2 v3 v4 v5 v6 v7 v8 v9 v10 v11 v12:=by
 obtain⟨⟨k0,k1,k2,k3,k4,k5,k6,k7,k8,k9,Ek,Jt,TT⟩,⟨f0,f1,f2,f3,f4,f5,f6,f7,f8,f9,f10,f11,f12⟩,hlt⟩:=k
 exact⟨⟨h.cell k0,h.cell k1,h.cell k2,h.cell k3,h.cell k4,h.cell k5,h.cell k6,h.cell k7,h.cell k8,h.cell k9,h.cell Ek,h.cell Jt,h.cell TT⟩,⟨h.free (by exact hlt) f0,h.free (by exact hlt) f1,h.free (by exact hlt) f2,h.free (by exact hlt) f3,h.free (by exact hlt) f4,h.free (by exact hlt) f5,h.free (by exact hlt) f6,h.free (by exact hlt) f7,h.free (by exact hlt) f8,h.free (by exact hlt) f9,h.free (by exact hlt) f10,h.free (by exact hlt) f11,h.free (by exact hlt) f12⟩,Nat.lt_of_lt_of_le hlt h.size⟩
theorem BN.of {w:World} {b:Nat} {v0 v1 v2 v3 v4 v5 v6 v7 v8 v9 v10 v11 v12:Value} {t:TypeId} (h:w.heap[b]? =some (.cells #[v0,v1,v2,v3,v4,v5,v6,v7,v8,v9,v10,v11,v12] t (0,0))):BN w b v0 v1 v2 v3 v4 v5 v6 v7 v8 v9 v10 v11 v12:=by
 have hlt:b<w.heap.size:=(Array.getElem?_eq_some_iff.1 h).1
 refine⟨⟨?_,?_,?_,?_,?_,?_,?_,?_,?_,?_,?_,?_,?_⟩,⟨?_,?_,?_,?_,?_,?_,?_,?_,?_,?_,?_,?_,?_⟩,hlt⟩<;>simp [World.cell?,World.frozen?,h]
theorem BN.at {w w1:World} {b:Nat} {v0 v1 v2 v3 v4 v5 v6 v7 v8 v9 v10 v11 v12:Value} {t:TypeId} (g:Gr w w1) (h:w.heap[b]? =some (.cells #[v0,v1,v2,v3,v4,v5,v6,v7,v8,v9,v10,v11,v12] t (0,0))):BN w1 b v0 v1 v2 v3 v4 v5 v6 v7 v8 v9 v10 v11 v12:=(BN.of h).mono g
abbrev BO (w:World) (b:Nat) (v0 v1 v2 v3 v4 v5 v6 v7 v8 v9 v10 v11 v12 kT:Value):Prop:=(w.cell? ⟨b,0,none⟩=some v0∧w.cell? ⟨b,1,none⟩=some v1∧w.cell? ⟨b,2,none⟩=some v2∧w.cell? ⟨b,3,none⟩=some v3∧w.cell? ⟨b,4,none⟩=some v4∧w.cell? ⟨b,5,none⟩=some v5∧w.cell? ⟨b,6,none⟩=some v6∧w.cell? ⟨b,7,none⟩=some v7∧w.cell? ⟨b,8,none⟩=some v8∧w.cell? ⟨b,9,none⟩=some v9∧w.cell? ⟨b,10,none⟩=some v10∧w.cell? ⟨b,11,none⟩=some v11∧w.cell? ⟨b,12,none⟩=some v12∧w.cell? ⟨b,13,none⟩=some kT)∧(w.frozen? ⟨b,0,none⟩=false∧w.frozen? ⟨b,1,none⟩=false∧w.frozen? ⟨b,2,none⟩=false∧w.frozen? ⟨b,3,none⟩=false∧w.frozen? ⟨b,4,none⟩=false∧w.frozen? ⟨b,5,none⟩=false∧w.frozen? ⟨b,6,none⟩=false∧w.frozen? ⟨b,7,none⟩=false∧w.frozen? ⟨b,8,none⟩=false∧w.frozen? ⟨b,9,none⟩=false∧w.frozen? ⟨b,10,none⟩=false∧w.frozen? ⟨b,11,none⟩=false∧w.frozen? ⟨b,12,none⟩=false∧w.frozen? ⟨b,13,none⟩=false)∧b<w.heap.size
theorem BO.mono {w w1:World} {b:Nat} {v0 v1 v2 v3 v4 v5 v6 v7 v8 v9 v10 v11 v12 kT:Value} (k:BO w b v0 v1 v2 v3 v4 v5 v6 v7 v8 v9 v10 v11 v12 kT) (h:Gr w w1):BO w1 b v0 v1 v2 v3 v4 v5 v6 v7 v8 v9 v10 v11 v12 kT:=by
 obtain⟨⟨k0,k1,k2,k3,k4,k5,k6,k7,k8,k9,Ek,Jt,TT,Nn⟩,⟨f0,f1,f2,f3,f4,f5,f6,f7,f8,f9,f10,f11,f12,f13⟩,hlt⟩:=k
 exact⟨⟨h.cell k0,h.cell k1,h.cell k2,h.cell k3,h.cell k4,h.cell k5,h.cell k6,h.cell k7,h.cell k8,h.cell k9,h.cell Ek,h.cell Jt,h.cell TT,h.cell Nn⟩,⟨h.free (by exact hlt) f0,h.free (by exact hlt) f1,h.free (by exact hlt) f2,h.free (by exact hlt) f3,h.free (by exact hlt) f4,h.free (by exact hlt) f5,h.free (by exact hlt) f6,h.free (by exact hlt) f7,h.free (by exact hlt) f8,h.free (by exact hlt) f9,h.free (by exact hlt) f10,h.free (by exact hlt) f11,h.free (by exact hlt) f12,h.free (by exact hlt) f13⟩,Nat.lt_of_lt_of_le hlt h.size⟩
theorem BO.of {w:World} {b:Nat} {v0 v1 v2 v3 v4 v5 v6 v7 v8 v9 v10 v11 v12 kT:Value} {t:TypeId} (h:w.heap[b]? =some (.cells #[v0,v1,v2,v3,v4,v5,v6,v7,v8,v9,v10,v11,v12,kT] t (0,0))):BO w b v0 v1 v2 v3 v4 v5 v6 v7 v8 v9 v10 v11 v12 kT:=by
 have hlt:b<w.heap.size:=(Array.getElem?_eq_some_iff.1 h).1
 refine⟨⟨?_,?_,?_,?_,?_,?_,?_,?_,?_,?_,?_,?_,?_,?_⟩,⟨?_,?_,?_,?_,?_,?_,?_,?_,?_,?_,?_,?_,?_,?_⟩,hlt⟩<;>simp [World.cell?,World.frozen?,h]
theorem BO.at {w w1:World} {b:Nat} {v0 v1 v2 v3 v4 v5 v6 v7 v8 v9 v10 v11 v12 kT:Value} {t:TypeId} (g:Gr w w1) (h:w.heap[b]? =some (.cells #[v0,v1,v2,v3,v4,v5,v6,v7,v8,v9,v10,v11,v12,kT] t (0,0))):BO w1 b v0 v1 v2 v3 v4 v5 v6 v7 v8 v9 v10 v11 v12 kT:=(BO.of h).mono g
end
section
open Go.RowKit Go.Deep
theorem Gr.cells {w w':World} (g:Gr w w') {a:Addr} {n:Nat} {cs:List Value} (h:∀i,i<n→w.cell? (a.add i)=cs[i]?) (hl:cs.length=n):∀i,i<n→w'.cell? (a.add i)=cs[i]? :=by
 intro i hi
 have h1:=h i hi
 rw[List.getElem?_eq_getElem (by omega)]at h1 ⊢
 exact g.cell h1
structure bY (α : Type) where
 size:Nat
 is:World→List Value→α→Prop
 len:∀{w cs a},is w cs a→cs.length=size
 mono:∀{w w' cs a},is w cs a→Gr w w'→is w' cs a
 bI:α→Nat
def cS:bY Int where
 size:=1
 is:=fun _ cs n=>cs=[.int .i64 n]∧-9223372036854775808≤n∧n≤9223372036854775807
 len:=fun h=>by rw[h.1];rfl
 mono:=fun h _=>h
 bI:=fun _=>1
def tJ:bY Bool where
 size:=1
 is:=fun _ cs b=>cs=[.bool b]
 len:=fun h=>by rw[h];rfl
 mono:=fun h _=>h
 bI:=fun _=>1
def qM:bY ByteArray where
 size:=1
 is:=fun _ cs s=>cs=[.string s]∧s.size≤maxLen
 len:=fun h=>by rw[h.1];rfl
 mono:=fun h _=>h
 bI:=fun s=>s.size+1
def bY.pair {α β:Type} (c:bY α) (d:bY β):bY (α×β) where
 size:=c.size+d.size
 is:=fun w cs x=>c.is w (cs.take c.size) x.1∧d.is w (cs.drop c.size) x.2
 len:=fun{w cs a} h=>by
  have h1:=c.len h.1
  have h2:=d.len h.2
  simp at h1 h2
  omega
 mono:=fun h g=>⟨c.mono h.1 g,d.mono h.2 g⟩
 bI:=fun x=>c.bI x.1+d.bI x.2
def cq {α:Type} (c:bY α):bY (List α) where
 size:=1
 is:=fun w cs l=>(cs=[.slice none 0 0]∧l=[])∨∃(b off:Nat) (sp:Option Nat) (cap:Nat),cs=[.slice (some ⟨b,off,sp⟩) l.length cap]∧l.length≤cap∧cap≤maxLen∧
  ∀i (h:i<l.length),sp=none∧∃cs',(∀j,j<c.size→w.cell? ⟨b,off+(i*c.size+j),none⟩=cs'[j]?)∧c.is w cs' l[i]
 len:=fun h=>by
  rcases h with⟨rfl,_⟩|⟨b,off,sp,cap,rfl,_⟩<;>rfl
 mono:=fun{w w' cs l} h g=>by
  rcases h with h|⟨b,off,sp,cap,h1,h2,h3,h4⟩
  ·exact .inl h
  ·refine .inr ⟨b,off,sp,cap,h1,h2,h3,fun i hi=>?_⟩
   obtain⟨e,cs',h5,h6⟩:=h4 i hi
   refine⟨e,cs',fun j hj=>?_,c.mono h6 g⟩
   have h7:=h5 j hj
   have hl:=c.len h6
   rw[List.getElem?_eq_getElem (by omega)]at h7 ⊢
   exact g.cell h7
 bI:=fun l=>(l.map c.bI).sum+1
def ey {α:Type} (F:Nat→Prop) (P:Program) (c:bY α) (t:TypeId):Prop:=
 ∀⦃H:Type⦄ ⦃enc:TypeId×Value→H⦄ ⦃w:World⦄ ⦃base:Nat⦄ ⦃spare:Nat→Bool⦄ ⦃held:Bool⦄ ⦃fuel:Nat⦄ ⦃cs:List Value⦄ ⦃x:DataW H×List MemPlace⦄,F fuel→
  DataW.trod enc P w base spare held fuel t cs=some x→∃a,c.is w cs a∧c.bI a≤Rows.uptoBulk x.1
abbrev Reads {α:Type} (P:Program) (c:bY α) (t:TypeId):Prop:=ey (fun _=>True) P c t
theorem Bl {H:Type} (l:List (DataW H)):Rows.uptoBulkAll l=(l.map Rows.uptoBulk).sum:=by
 induction l with
 |nil=>rfl
 |cons x r ih=>simp only[Rows.uptoBulkAll,List.map_cons,List.sum_cons,ih]
theorem Vl {α:Type} (f:α→Nat) (D:Nat→Nat):∀(l:List α) (o:Nat),(∀i (h:i<l.length),f l[i]≤D (o+i))→(l.map f).sum≤((List.range' o l.length).map D).sum
 |[],_,_=>by simp
 |x::r,o,h=>by
  simp only[List.length_cons,List.range'_succ,List.map_cons,List.sum_cons]
  have h0:=h 0 (by simp)
  have:=Vl f D r (o+1) (fun i hi=>by have:=h (i+1) (by simp;omega);simp only[List.getElem_cons_succ]at this;rw[show o+1+i=o+(i+1) by omega];exact this)
  simp at h0
  omega
theorem wf_i64 {n:Int} (h:(Lit.int .i64 n).wf=true):-9223372036854775808≤n∧n≤9223372036854775807:=by
 simpa [Lit.wf,IntKind.min,IntKind.max,IntKind.signed,IntKind.bits]using h
theorem Xz {H:Type} (d:DataW H):1≤Rows.uptoBulk d:=by
 cases d with
 |lit l=>cases l<;>simp [Rows.uptoBulk]
 |_=>simp [Rows.uptoBulk]
theorem iD {F:Nat→Prop} {P:Program} {t:TypeId} (ht:P.underlying t=some (.int .i64)):ey F P cS t:=by
 intro H enc w base spare held fuel cs x _ h
 obtain⟨n,rfl,_,hw⟩:=DataW.trod_int ht h
 exact⟨n,⟨rfl,wf_i64 hw⟩,Xz _⟩
theorem KY {F:Nat→Prop} {P:Program} {t:TypeId} (ht:P.underlying t=some .bool):ey F P tJ t:=by
 intro H enc w base spare held fuel cs x _ h
 obtain⟨n,rfl,_⟩:=DataW.trod_bool ht h
 exact⟨n,rfl,Xz _⟩
theorem C2 {F:Nat→Prop} {P:Program} {t:TypeId} (ht:P.underlying t=some .string):ey F P qM t:=by
 intro H enc w base spare held fuel cs x _ h
 obtain⟨n,rfl,hx,hw⟩:=DataW.trod_string ht h
 refine⟨n,⟨rfl,hw⟩,?_⟩
 subst hx
 simp only[Rows.uptoBulk,qM]
 first|(simp;done)|omega
theorem uM {F:Nat→Prop} {P:Program} {α:Type} {c:bY α} {t e:TypeId} (ht:P.underlying t=some (.slice e)) (hz:P.cellsOf e=c.size) (hp:0<c.size) (hr:ey (fun m=>F (m+1)) P c e):ey F P (cq c) t:=by
 intro H enc w base spare held fuel cs x hF h
 rcases DataW.trod_slice ht h with⟨rfl,rfl⟩|⟨a,len,cap,elems,rest,n,fN,rfl,hxe,hb,hl,hm,hlen,hel,h8,h9⟩
 ·exact⟨[],.inl ⟨rfl,rfl⟩,by simp [cq,Rows.uptoBulk]⟩
 ·obtain⟨D,hD⟩:∃D:Nat→DataW H,D=fun i=>(elems.getD i (.nil,[])).1:=⟨_,rfl⟩
  have key:∀i,i<len→∃(y:α) (cs':List Value),(∀j,j<c.size→w.cell? (a.add (i*c.size+j))=cs'[j]?)∧c.is w cs' y∧c.bI y≤Rows.uptoBulk (D i):=by
   intro i hi
   have hk:=hel i hi
   rw[List.getElem?_eq_getElem (by omega)]at hk
   obtain⟨cs',h1,h2⟩:=Option.bind_eq_some_iff.1 hk
   obtain⟨y,hy,Jr⟩:=hr (by subst fN;exact hF) h2
   have Jr:c.bI y≤Rows.uptoBulk (D i):=by
    rw[hD]
    simpa [List.getD,List.getElem?_eq_getElem (show i<elems.length by omega)]using Jr
   obtain⟨_,h3,h4⟩:=World.cells?_some h1
   refine⟨y,cs',fun j hj=>?_,hy,Jr⟩
   have:=h4 j (by rw[hz];exact hj)
   rw[hz]at this
   rw[←this,add_add]
  obtain⟨ys,hys⟩:∃ys:List α,ys.length=len∧∀i (h:i<ys.length),c.bI ys[i]≤Rows.uptoBulk (D i)∧∃cs',(∀j,j<c.size→w.cell? (a.add (i*c.size+j))=cs'[j]?)∧c.is w cs' ys[i]:=by
   clear hel hlen h hl hxe h8 h9
   induction len with
   |zero=>exact⟨[],rfl,fun i h=>by simp at h⟩
   |succ k ih=>
    obtain⟨ys,h1,h2⟩:=ih (fun i hi=>key i (by omega))
    obtain⟨y,cs',h3,h4,h4b⟩:=key k (by omega)
    refine⟨ys++[y],by simp [h1],fun i hi=>?_⟩
    by_cases hk:i<ys.length
    ·rw[List.getElem_append_left hk];exact h2 i hk
    ·have:i=k:=by simp at hi;omega
     subst this
     rw[List.getElem_append_right (by omega)]
     simp only[h1,Nat.sub_self,List.getElem_cons_zero]
     exact⟨h4b,cs',h3,h4⟩
  obtain⟨h1,h2⟩:=hys
  obtain⟨b,off,sp⟩:=a
  refine⟨ys,.inr ⟨b,off,sp,cap,by rw[h1],by omega,hm,fun i hi=>?_⟩,?_⟩
  ·have hs:sp=none:=by
    cases sp with
    |none=>rfl
    |some q=>
     exfalso
     obtain⟨_,cs',h3,h4⟩:=h2 0 (by omega)
     have h5:=h3 0 hp
     have hl:=c.len h4
     rw[List.getElem?_eq_getElem (by omega)]at h5
     simp only[Nat.zero_mul,Nat.zero_add,World.cell?,Addr.add]at h5
     split at h5<;>simp at h5
   obtain⟨_,cs',h3,h4⟩:=h2 i hi
   subst hs
   refine⟨rfl,cs',fun j hj=>?_,h4⟩
   have h6:=h3 j hj
   rw[←h6]
   congr 1
   simp only[Addr.add]
   split
   ·rename_i h7;simp only[h7,Nat.add_zero]
   ·rfl
  ·subst hxe
   simp only[cq,Rows.uptoBulk,Bl,List.map_map]
   have:=Vl c.bI (fun i=>Rows.uptoBulk (D i)) ys 0 (fun i hi=>by simpa using(h2 i hi).1)
   rw[h1,←List.range_eq_range']at this
   have e:List.map (Rows.uptoBulk∘fun x=>x.1) elems=List.map (fun i=>Rows.uptoBulk (D i)) (List.range len):=by
    rw[←hlen,hD]
    apply List.ext_getElem (by simp)
    intro i h3 h4
    simp at h3
    simp [List.getD,List.getElem?_eq_getElem h3]
   rw[e]
   omega
theorem CS {α:Type} (l:List α) (o n:Nat) (h:l.length=o+n):(l.drop o).take n=l.drop o:=List.take_of_length_le (by simp;omega)
theorem aep {α:Type} (l:List α) (h:l.length=2):∃x0 x1,l=[x0,x1]:=by
 match l,h with
 |[x0,x1],_=>exact⟨x0,x1,rfl⟩
theorem CR {F:Nat→Prop} {P:Program} {uI oa:Type} {t:TypeId} {f0 f1:Field} {c0:bY uI} {c1:bY oa} (ht:P.underlying t=some (.struct #[f0,f1])) (hz:P.cellsOf t=c0.size+c1.size) (o0:f0.offset=0) (o1:f1.offset=c0.size) (z0:P.cellsOf f0.type=c0.size) (z1:P.cellsOf f1.type=c1.size) (r0:ey (fun m=>F (m+1)) P c0 f0.type) (r1:ey (fun m=>F (m+1)) P c1 f1.type):ey F P (c0.pair c1) t:=by
 intro H enc w base spare held fuel cs x hF h
 obtain⟨xs,m,fN,bZ,hlen,hxl,hf⟩:=DataW.trod_struct ht h
 rw[hz]at hlen
 have hxl:xs.length=2:=hxl
 have h0:=hf 0 f0 rfl
 rw[o0,z0,List.getElem?_eq_getElem (show 0<xs.length by omega)]at h0
 obtain⟨a0,k0,b0⟩:=r0 (by subst fN;exact hF) h0
 have h1:=hf 1 f1 rfl
 rw[o1,z1,List.getElem?_eq_getElem (show 1<xs.length by omega)]at h1
 obtain⟨a1,k1,b1⟩:=r1 (by subst fN;exact hF) h1
 rw[CS cs (c0.size) c1.size (by omega)]at k1
 refine⟨(a0,a1),?_,?_⟩
 ·exact⟨by simpa using k0,(by simpa [List.drop_drop,Nat.add_assoc]using k1)⟩
 ·subst bZ
  simp only[Rows.uptoBulk,Bl,bY.pair]
  have hs:(List.map Rows.uptoBulk (xs.map (·.1))).sum=Rows.uptoBulk xs[0].1+(Rows.uptoBulk xs[1].1):=by
   obtain⟨x0,x1,rfl⟩:=aep xs hxl
   simp
  rw[hs]
  exact Nat.le_succ_of_le (Nat.add_le_add b0 b1)
theorem aer {α:Type} (l:List α) (h:l.length=3):∃x0 x1 x2,l=[x0,x1,x2]:=by
 match l,h with
 |[x0,x1,x2],_=>exact⟨x0,x1,x2,rfl⟩
theorem Kz {F:Nat→Prop} {P:Program} {uI oa ru:Type} {t:TypeId} {f0 f1 f2:Field} {c0:bY uI} {c1:bY oa} {c2:bY ru} (ht:P.underlying t=some (.struct #[f0,f1,f2])) (hz:P.cellsOf t=c0.size+c1.size+c2.size) (o0:f0.offset=0) (o1:f1.offset=c0.size) (o2:f2.offset=c0.size+c1.size) (z0:P.cellsOf f0.type=c0.size) (z1:P.cellsOf f1.type=c1.size) (z2:P.cellsOf f2.type=c2.size) (r0:ey (fun m=>F (m+1)) P c0 f0.type) (r1:ey (fun m=>F (m+1)) P c1 f1.type) (r2:ey (fun m=>F (m+1)) P c2 f2.type):ey F P (c0.pair (c1.pair c2)) t:=by
 intro H enc w base spare held fuel cs x hF h
 obtain⟨xs,m,fN,bZ,hlen,hxl,hf⟩:=DataW.trod_struct ht h
 rw[hz]at hlen
 have hxl:xs.length=3:=hxl
 have h0:=hf 0 f0 rfl
 rw[o0,z0,List.getElem?_eq_getElem (show 0<xs.length by omega)]at h0
 obtain⟨a0,k0,b0⟩:=r0 (by subst fN;exact hF) h0
 have h1:=hf 1 f1 rfl
 rw[o1,z1,List.getElem?_eq_getElem (show 1<xs.length by omega)]at h1
 obtain⟨a1,k1,b1⟩:=r1 (by subst fN;exact hF) h1
 have h2:=hf 2 f2 rfl
 rw[o2,z2,List.getElem?_eq_getElem (show 2<xs.length by omega)]at h2
 obtain⟨a2,k2,b2⟩:=r2 (by subst fN;exact hF) h2
 rw[CS cs (c0.size+c1.size) c2.size (by omega)]at k2
 refine⟨(a0,(a1,a2)),?_,?_⟩
 ·exact⟨by simpa using k0,⟨by simpa [List.drop_drop,Nat.add_assoc]using k1,(by simpa [List.drop_drop,Nat.add_assoc]using k2)⟩⟩
 ·subst bZ
  simp only[Rows.uptoBulk,Bl,bY.pair]
  have hs:(List.map Rows.uptoBulk (xs.map (·.1))).sum=Rows.uptoBulk xs[0].1+(Rows.uptoBulk xs[1].1+(Rows.uptoBulk xs[2].1)):=by
   obtain⟨x0,x1,x2,rfl⟩:=aer xs hxl
   simp
  rw[hs]
  exact Nat.le_succ_of_le (Nat.add_le_add b0 (Nat.add_le_add b1 b2))
theorem aes {α:Type} (l:List α) (h:l.length=4):∃x0 x1 x2 x3,l=[x0,x1,x2,x3]:=by
 match l,h with
 |[x0,x1,x2,x3],_=>exact⟨x0,x1,x2,x3,rfl⟩
theorem U3 {F:Nat→Prop} {P:Program} {uI oa ru uJ:Type} {t:TypeId} {f0 f1 f2 f3:Field} {c0:bY uI} {c1:bY oa} {c2:bY ru} {c3:bY uJ} (ht:P.underlying t=some (.struct #[f0,f1,f2,f3])) (hz:P.cellsOf t=c0.size+c1.size+c2.size+c3.size) (o0:f0.offset=0) (o1:f1.offset=c0.size) (o2:f2.offset=c0.size+c1.size) (o3:f3.offset=c0.size+c1.size+c2.size) (z0:P.cellsOf f0.type=c0.size) (z1:P.cellsOf f1.type=c1.size) (z2:P.cellsOf f2.type=c2.size) (z3:P.cellsOf f3.type=c3.size) (r0:ey (fun m=>F (m+1)) P c0 f0.type) (r1:ey (fun m=>F (m+1)) P c1 f1.type) (r2:ey (fun m=>F (m+1)) P c2 f2.type) (r3:ey (fun m=>F (m+1)) P c3 f3.type):ey F P (c0.pair (c1.pair (c2.pair c3))) t:=by
 intro H enc w base spare held fuel cs x hF h
 obtain⟨xs,m,fN,bZ,hlen,hxl,hf⟩:=DataW.trod_struct ht h
 rw[hz]at hlen
 have hxl:xs.length=4:=hxl
 have h0:=hf 0 f0 rfl
 rw[o0,z0,List.getElem?_eq_getElem (show 0<xs.length by omega)]at h0
 obtain⟨a0,k0,b0⟩:=r0 (by subst fN;exact hF) h0
 have h1:=hf 1 f1 rfl
 rw[o1,z1,List.getElem?_eq_getElem (show 1<xs.length by omega)]at h1
 obtain⟨a1,k1,b1⟩:=r1 (by subst fN;exact hF) h1
 have h2:=hf 2 f2 rfl
 rw[o2,z2,List.getElem?_eq_getElem (show 2<xs.length by omega)]at h2
 obtain⟨a2,k2,b2⟩:=r2 (by subst fN;exact hF) h2
 have h3:=hf 3 f3 rfl
 rw[o3,z3,List.getElem?_eq_getElem (show 3<xs.length by omega)]at h3
 obtain⟨a3,k3,b3⟩:=r3 (by subst fN;exact hF) h3
 rw[CS cs (c0.size+c1.size+c2.size) c3.size (by omega)]at k3
 refine⟨(a0,(a1,(a2,a3))),?_,?_⟩
 ·exact⟨by simpa using k0,⟨by simpa [List.drop_drop,Nat.add_assoc]using k1,⟨by simpa [List.drop_drop,Nat.add_assoc]using k2,(by simpa [List.drop_drop,Nat.add_assoc]using k3)⟩⟩⟩
 ·subst bZ
  simp only[Rows.uptoBulk,Bl,bY.pair]
  have hs:(List.map Rows.uptoBulk (xs.map (·.1))).sum=Rows.uptoBulk xs[0].1+(Rows.uptoBulk xs[1].1+(Rows.uptoBulk xs[2].1+(Rows.uptoBulk xs[3].1))):=by
   obtain⟨x0,x1,x2,x3,rfl⟩:=aes xs hxl
   simp
  rw[hs]
  exact Nat.le_succ_of_le (Nat.add_le_add b0 (Nat.add_le_add b1 (Nat.add_le_add b2 b3)))
theorem aet {α:Type} (l:List α) (h:l.length=5):∃x0 x1 x2 x3 x4,l=[x0,x1,x2,x3,x4]:=by
 match l,h with
 |[x0,x1,x2,x3,x4],_=>exact⟨x0,x1,x2,x3,x4,rfl⟩
theorem ad6 {F:Nat→Prop} {P:Program} {uI oa ru uJ vS:Type} {t:TypeId} {f0 f1 f2 f3 f4:Field} {c0:bY uI} {c1:bY oa} {c2:bY ru} {c3:bY uJ} {c4:bY vS} (ht:P.underlying t=some (.struct #[f0,f1,f2,f3,f4])) (hz:P.cellsOf t=c0.size+c1.size+c2.size+c3.size+c4.size) (o0:f0.offset=0) (o1:f1.offset=c0.size) (o2:f2.offset=c0.size+c1.size) (o3:f3.offset=c0.size+c1.size+c2.size) (o4:f4.offset=c0.size+c1.size+c2.size+c3.size) (z0:P.cellsOf f0.type=c0.size) (z1:P.cellsOf f1.type=c1.size) (z2:P.cellsOf f2.type=c2.size) (z3:P.cellsOf f3.type=c3.size) (z4:P.cellsOf f4.type=c4.size) (r0:ey (fun m=>F (m+1)) P c0 f0.type) (r1:ey (fun m=>F (m+1)) P c1 f1.type) (r2:ey (fun m=>F (m+1)) P c2 f2.type) (r3:ey (fun m=>F (m+1)) P c3 f3.type) (r4:ey (fun m=>F (m+1)) P c4 f4.type):ey F P (c0.pair (c1.pair (c2.pair (c3.pair c4)))) t:=by
 intro H enc w base spare held fuel cs x hF h
 obtain⟨xs,m,fN,bZ,hlen,hxl,hf⟩:=DataW.trod_struct ht h
 rw[hz]at hlen
 have hxl:xs.length=5:=hxl
 have h0:=hf 0 f0 rfl
 rw[o0,z0,List.getElem?_eq_getElem (show 0<xs.length by omega)]at h0
 obtain⟨a0,k0,b0⟩:=r0 (by subst fN;exact hF) h0
 have h1:=hf 1 f1 rfl
 rw[o1,z1,List.getElem?_eq_getElem (show 1<xs.length by omega)]at h1
 obtain⟨a1,k1,b1⟩:=r1 (by subst fN;exact hF) h1
 have h2:=hf 2 f2 rfl
 rw[o2,z2,List.getElem?_eq_getElem (show 2<xs.length by omega)]at h2
 obtain⟨a2,k2,b2⟩:=r2 (by subst fN;exact hF) h2
 have h3:=hf 3 f3 rfl
 rw[o3,z3,List.getElem?_eq_getElem (show 3<xs.length by omega)]at h3
 obtain⟨a3,k3,b3⟩:=r3 (by subst fN;exact hF) h3
 have h4:=hf 4 f4 rfl
 rw[o4,z4,List.getElem?_eq_getElem (show 4<xs.length by omega)]at h4
 obtain⟨a4,k4,b4⟩:=r4 (by subst fN;exact hF) h4
 rw[CS cs (c0.size+c1.size+c2.size+c3.size) c4.size (by omega)]at k4
 refine⟨(a0,(a1,(a2,(a3,a4)))),?_,?_⟩
 ·exact⟨by simpa using k0,⟨by simpa [List.drop_drop,Nat.add_assoc]using k1,⟨by simpa [List.drop_drop,Nat.add_assoc]using k2,⟨by simpa [List.drop_drop,Nat.add_assoc]using k3,(by simpa [List.drop_drop,Nat.add_assoc]using k4)⟩⟩⟩⟩
 ·subst bZ
  simp only[Rows.uptoBulk,Bl,bY.pair]
  have hs:(List.map Rows.uptoBulk (xs.map (·.1))).sum=Rows.uptoBulk xs[0].1+(Rows.uptoBulk xs[1].1+(Rows.uptoBulk xs[2].1+(Rows.uptoBulk xs[3].1+(Rows.uptoBulk xs[4].1)))):=by
   obtain⟨x0,x1,x2,x3,x4,rfl⟩:=aet xs hxl
   simp
  rw[hs]
  exact Nat.le_succ_of_le (Nat.add_le_add b0 (Nat.add_le_add b1 (Nat.add_le_add b2 (Nat.add_le_add b3 b4))))
theorem aeu {α:Type} (l:List α) (h:l.length=6):∃x0 x1 x2 x3 x4 x5,l=[x0,x1,x2,x3,x4,x5]:=by
 match l,h with
 |[x0,x1,x2,x3,x4,x5],_=>exact⟨x0,x1,x2,x3,x4,x5,rfl⟩
theorem ad7 {F:Nat→Prop} {P:Program} {uI oa ru uJ vS JR:Type} {t:TypeId} {f0 f1 f2 f3 f4 f5:Field} {c0:bY uI} {c1:bY oa} {c2:bY ru} {c3:bY uJ} {c4:bY vS} {c5:bY JR} (ht:P.underlying t=some (.struct #[f0,f1,f2,f3,f4,f5])) (hz:P.cellsOf t=c0.size+c1.size+c2.size+c3.size+c4.size+c5.size) (o0:f0.offset=0) (o1:f1.offset=c0.size) (o2:f2.offset=c0.size+c1.size) (o3:f3.offset=c0.size+c1.size+c2.size) (o4:f4.offset=c0.size+c1.size+c2.size+c3.size) (o5:f5.offset=c0.size+c1.size+c2.size+c3.size+c4.size) (z0:P.cellsOf f0.type=c0.size) (z1:P.cellsOf f1.type=c1.size) (z2:P.cellsOf f2.type=c2.size) (z3:P.cellsOf f3.type=c3.size) (z4:P.cellsOf f4.type=c4.size) (z5:P.cellsOf f5.type=c5.size) (r0:ey (fun m=>F (m+1)) P c0 f0.type) (r1:ey (fun m=>F (m+1)) P c1 f1.type) (r2:ey (fun m=>F (m+1)) P c2 f2.type) (r3:ey (fun m=>F (m+1)) P c3 f3.type) (r4:ey (fun m=>F (m+1)) P c4 f4.type) (r5:ey (fun m=>F (m+1)) P c5 f5.type):ey F P (c0.pair (c1.pair (c2.pair (c3.pair (c4.pair c5))))) t:=by
 intro H enc w base spare held fuel cs x hF h
 obtain⟨xs,m,fN,bZ,hlen,hxl,hf⟩:=DataW.trod_struct ht h
 rw[hz]at hlen
 have hxl:xs.length=6:=hxl
 have h0:=hf 0 f0 rfl
 rw[o0,z0,List.getElem?_eq_getElem (show 0<xs.length by omega)]at h0
 obtain⟨a0,k0,b0⟩:=r0 (by subst fN;exact hF) h0
 have h1:=hf 1 f1 rfl
 rw[o1,z1,List.getElem?_eq_getElem (show 1<xs.length by omega)]at h1
 obtain⟨a1,k1,b1⟩:=r1 (by subst fN;exact hF) h1
 have h2:=hf 2 f2 rfl
 rw[o2,z2,List.getElem?_eq_getElem (show 2<xs.length by omega)]at h2
 obtain⟨a2,k2,b2⟩:=r2 (by subst fN;exact hF) h2
 have h3:=hf 3 f3 rfl
 rw[o3,z3,List.getElem?_eq_getElem (show 3<xs.length by omega)]at h3
 obtain⟨a3,k3,b3⟩:=r3 (by subst fN;exact hF) h3
 have h4:=hf 4 f4 rfl
 rw[o4,z4,List.getElem?_eq_getElem (show 4<xs.length by omega)]at h4
 obtain⟨a4,k4,b4⟩:=r4 (by subst fN;exact hF) h4
 have h5:=hf 5 f5 rfl
 rw[o5,z5,List.getElem?_eq_getElem (show 5<xs.length by omega)]at h5
 obtain⟨a5,k5,b5⟩:=r5 (by subst fN;exact hF) h5
 rw[CS cs (c0.size+c1.size+c2.size+c3.size+c4.size) c5.size (by omega)]at k5
 refine⟨(a0,(a1,(a2,(a3,(a4,a5))))),?_,?_⟩
 ·exact⟨by simpa using k0,⟨by simpa [List.drop_drop,Nat.add_assoc]using k1,⟨by simpa [List.drop_drop,Nat.add_assoc]using k2,⟨by simpa [List.drop_drop,Nat.add_assoc]using k3,⟨by simpa [List.drop_drop,Nat.add_assoc]using k4,(by simpa [List.drop_drop,Nat.add_assoc]using k5)⟩⟩⟩⟩⟩
 ·subst bZ
  simp only[Rows.uptoBulk,Bl,bY.pair]
  have hs:(List.map Rows.uptoBulk (xs.map (·.1))).sum=Rows.uptoBulk xs[0].1+(Rows.uptoBulk xs[1].1+(Rows.uptoBulk xs[2].1+(Rows.uptoBulk xs[3].1+(Rows.uptoBulk xs[4].1+(Rows.uptoBulk xs[5].1))))):=by
   obtain⟨x0,x1,x2,x3,x4,x5,rfl⟩:=aeu xs hxl
   simp
  rw[hs]
  exact Nat.le_succ_of_le (Nat.add_le_add b0 (Nat.add_le_add b1 (Nat.add_le_add b2 (Nat.add_le_add b3 (Nat.add_le_add b4 b5)))))
theorem aev {α:Type} (l:List α) (h:l.length=7):∃x0 x1 x2 x3 x4 x5 x6,l=[x0,x1,x2,x3,x4,x5,x6]:=by
 match l,h with
 |[x0,x1,x2,x3,x4,x5,x6],_=>exact⟨x0,x1,x2,x3,x4,x5,x6,rfl⟩
theorem ad8 {F:Nat→Prop} {P:Program} {uI oa ru uJ vS JR Ui:Type} {t:TypeId} {f0 f1 f2 f3 f4 f5 f6:Field} {c0:bY uI} {c1:bY oa} {c2:bY ru} {c3:bY uJ} {c4:bY vS} {c5:bY JR} {c6:bY Ui} (ht:P.underlying t=some (.struct #[f0,f1,f2,f3,f4,f5,f6])) (hz:P.cellsOf t=c0.size+c1.size+c2.size+c3.size+c4.size+c5.size+c6.size) (o0:f0.offset=0) (o1:f1.offset=c0.size) (o2:f2.offset=c0.size+c1.size) (o3:f3.offset=c0.size+c1.size+c2.size) (o4:f4.offset=c0.size+c1.size+c2.size+c3.size) (o5:f5.offset=c0.size+c1.size+c2.size+c3.size+c4.size) (o6:f6.offset=c0.size+c1.size+c2.size+c3.size+c4.size+c5.size) (z0:P.cellsOf f0.type=c0.size) (z1:P.cellsOf f1.type=c1.size) (z2:P.cellsOf f2.type=c2.size) (z3:P.cellsOf f3.type=c3.size) (z4:P.cellsOf f4.type=c4.size) (z5:P.cellsOf f5.type=c5.size) (z6:P.cellsOf f6.type=c6.size) (r0:ey (fun m=>F (m+1)) P c0 f0.type) (r1:ey (fun m=>F (m+1)) P c1 f1.type) (r2:ey (fun m=>F (m+1)) P c2 f2.type) (r3:ey (fun m=>F (m+1)) P c3 f3.type) (r4:ey (fun m=>F (m+1)) P c4 f4.type) (r5:ey (fun m=>F (m+1)) P c5 f5.type) (r6:ey (fun m=>F (m+1)) P c6 f6.type):ey F P (c0.pair (c1.pair (c2.pair (c3.pair (c4.pair (c5.pair c6)))))) t:=by
 intro H enc w base spare held fuel cs x hF h
 obtain⟨xs,m,fN,bZ,hlen,hxl,hf⟩:=DataW.trod_struct ht h
 rw[hz]at hlen
 have hxl:xs.length=7:=hxl
 have h0:=hf 0 f0 rfl
 rw[o0,z0,List.getElem?_eq_getElem (show 0<xs.length by omega)]at h0
 obtain⟨a0,k0,b0⟩:=r0 (by subst fN;exact hF) h0
 have h1:=hf 1 f1 rfl
 rw[o1,z1,List.getElem?_eq_getElem (show 1<xs.length by omega)]at h1
 obtain⟨a1,k1,b1⟩:=r1 (by subst fN;exact hF) h1
 have h2:=hf 2 f2 rfl
 rw[o2,z2,List.getElem?_eq_getElem (show 2<xs.length by omega)]at h2
 obtain⟨a2,k2,b2⟩:=r2 (by subst fN;exact hF) h2
 have h3:=hf 3 f3 rfl
 rw[o3,z3,List.getElem?_eq_getElem (show 3<xs.length by omega)]at h3
 obtain⟨a3,k3,b3⟩:=r3 (by subst fN;exact hF) h3
 have h4:=hf 4 f4 rfl
 rw[o4,z4,List.getElem?_eq_getElem (show 4<xs.length by omega)]at h4
 obtain⟨a4,k4,b4⟩:=r4 (by subst fN;exact hF) h4
 have h5:=hf 5 f5 rfl
 rw[o5,z5,List.getElem?_eq_getElem (show 5<xs.length by omega)]at h5
 obtain⟨a5,k5,b5⟩:=r5 (by subst fN;exact hF) h5
 have h6:=hf 6 f6 rfl
 rw[o6,z6,List.getElem?_eq_getElem (show 6<xs.length by omega)]at h6
 obtain⟨a6,k6,b6⟩:=r6 (by subst fN;exact hF) h6
 rw[CS cs (c0.size+c1.size+c2.size+c3.size+c4.size+c5.size) c6.size (by omega)]at k6
 refine⟨(a0,(a1,(a2,(a3,(a4,(a5,a6)))))),?_,?_⟩
 ·exact⟨by simpa using k0,⟨by simpa [List.drop_drop,Nat.add_assoc]using k1,⟨by simpa [List.drop_drop,Nat.add_assoc]using k2,⟨by simpa [List.drop_drop,Nat.add_assoc]using k3,⟨by simpa [List.drop_drop,Nat.add_assoc]using k4,⟨by simpa [List.drop_drop,Nat.add_assoc]using k5,(by simpa [List.drop_drop,Nat.add_assoc]using k6)⟩⟩⟩⟩⟩⟩
 ·subst bZ
  simp only[Rows.uptoBulk,Bl,bY.pair]
  have hs:(List.map Rows.uptoBulk (xs.map (·.1))).sum=Rows.uptoBulk xs[0].1+(Rows.uptoBulk xs[1].1+(Rows.uptoBulk xs[2].1+(Rows.uptoBulk xs[3].1+(Rows.uptoBulk xs[4].1+(Rows.uptoBulk xs[5].1+(Rows.uptoBulk xs[6].1)))))):=by
   obtain⟨x0,x1,x2,x3,x4,x5,x6,rfl⟩:=aev xs hxl
   simp
  rw[hs]
  exact Nat.le_succ_of_le (Nat.add_le_add b0 (Nat.add_le_add b1 (Nat.add_le_add b2 (Nat.add_le_add b3 (Nat.add_le_add b4 (Nat.add_le_add b5 b6))))))
theorem adZ {α:Type} (l:List α) (h:l.length=10):∃x0 x1 x2 x3 x4 x5 x6 x7 x8 x9,l=[x0,x1,x2,x3,x4,x5,x6,x7,x8,x9]:=by
 match l,h with
 |[x0,x1,x2,x3,x4,x5,x6,x7,x8,x9],_=>exact⟨x0,x1,x2,x3,x4,x5,x6,x7,x8,x9,rfl⟩
theorem adJ {F:Nat→Prop} {P:Program} {uI oa ru uJ vS JR Ui α7 α8 α9:Type} {t:TypeId} {f0 f1 f2 f3 f4 f5 f6 f7 f8 f9:Field} {c0:bY uI} {c1:bY oa} {c2:bY ru} {c3:bY uJ} {c4:bY vS} {c5:bY JR} {c6:bY Ui} {c7:bY α7} {c8:bY α8} {c9:bY α9} (ht:P.underlying t=some (.struct #[f0,f1,f2,f3,f4,f5,f6,f7,f8,f9])) (hz:P.cellsOf t=c0.size+c1.size+c2.size+c3.size+c4.size+c5.size+c6.size+c7.size+c8.size+c9.size) (o0:f0.offset=0) (o1:f1.offset=c0.size) (o2:f2.offset=c0.size+c1.size) (o3:f3.offset=c0.size+c1.size+c2.size) (o4:f4.offset=c0.size+c1.size+c2.size+c3.size) (o5:f5.offset=c0.size+c1.size+c2.size+c3.size+c4.size) (o6:f6.offset=c0.size+c1.size+c2.size+c3.size+c4.size+c5.size) (o7:f7.offset=c0.size+c1.size+c2.size+c3.size+c4.size+c5.size+c6.size) (o8:f8.offset=c0.size+c1.size+c2.size+c3.size+c4.size+c5.size+c6.size+c7.size) (o9:f9.offset=c0.size+c1.size+c2.size+c3.size+c4.size+c5.size+c6.size+c7.size+c8.size) (z0:P.cellsOf f0.type=c0.size) (z1:P.cellsOf f1.type=c1.size) (z2:P.cellsOf f2.type=c2.size) (z3:P.cellsOf f3.type=c3.size) (z4:P.cellsOf f4.type=c4.size) (z5:P.cellsOf f5.type=c5.size) (z6:P.cellsOf f6.type=c6.size) (z7:P.cellsOf f7.type=c7.size) (z8:P.cellsOf f8.type=c8.size) (z9:P.cellsOf f9.type=c9.size) (r0:ey (fun m=>F (m+1)) P c0 f0.type) (r1:ey (fun m=>F (m+1)) P c1 f1.type) (r2:ey (fun m=>F (m+1)) P c2 f2.type) (r3:ey (fun m=>F (m+1)) P c3 f3.type) (r4:ey (fun m=>F (m+1)) P c4 f4.type) (r5:ey (fun m=>F (m+1)) P c5 f5.type) (r6:ey (fun m=>F (m+1)) P c6 f6.type) (r7:ey (fun m=>F (m+1)) P c7 f7.type) (r8:ey (fun m=>F (m+1)) P c8 f8.type) (r9:ey (fun m=>F (m+1)) P c9 f9.type):ey F P (c0.pair (c1.pair (c2.pair (c3.pair (c4.pair (c5.pair (c6.pair (c7.pair (c8.pair c9))))))))) t:=by
 intro H enc w base spare held fuel cs x hF h
 obtain⟨xs,m,fN,bZ,hlen,hxl,hf⟩:=DataW.trod_struct ht h
 rw[hz]at hlen
 have hxl:xs.length=10:=hxl
 have h0:=hf 0 f0 rfl
 rw[o0,z0,List.getElem?_eq_getElem (show 0<xs.length by omega)]at h0
 obtain⟨a0,k0,b0⟩:=r0 (by subst fN;exact hF) h0
 have h1:=hf 1 f1 rfl
 rw[o1,z1,List.getElem?_eq_getElem (show 1<xs.length by omega)]at h1
 obtain⟨a1,k1,b1⟩:=r1 (by subst fN;exact hF) h1
 have h2:=hf 2 f2 rfl
 rw[o2,z2,List.getElem?_eq_getElem (show 2<xs.length by omega)]at h2
 obtain⟨a2,k2,b2⟩:=r2 (by subst fN;exact hF) h2
 have h3:=hf 3 f3 rfl
 rw[o3,z3,List.getElem?_eq_getElem (show 3<xs.length by omega)]at h3
 obtain⟨a3,k3,b3⟩:=r3 (by subst fN;exact hF) h3
 have h4:=hf 4 f4 rfl
 rw[o4,z4,List.getElem?_eq_getElem (show 4<xs.length by omega)]at h4
 obtain⟨a4,k4,b4⟩:=r4 (by subst fN;exact hF) h4
 have h5:=hf 5 f5 rfl
 rw[o5,z5,List.getElem?_eq_getElem (show 5<xs.length by omega)]at h5
 obtain⟨a5,k5,b5⟩:=r5 (by subst fN;exact hF) h5
 have h6:=hf 6 f6 rfl
 rw[o6,z6,List.getElem?_eq_getElem (show 6<xs.length by omega)]at h6
 obtain⟨a6,k6,b6⟩:=r6 (by subst fN;exact hF) h6
 have h7:=hf 7 f7 rfl
 rw[o7,z7,List.getElem?_eq_getElem (show 7<xs.length by omega)]at h7
 obtain⟨a7,k7,b7⟩:=r7 (by subst fN;exact hF) h7
 have h8:=hf 8 f8 rfl
 rw[o8,z8,List.getElem?_eq_getElem (show 8<xs.length by omega)]at h8
 obtain⟨a8,k8,b8⟩:=r8 (by subst fN;exact hF) h8
 have h9:=hf 9 f9 rfl
 rw[o9,z9,List.getElem?_eq_getElem (show 9<xs.length by omega)]at h9
 obtain⟨a9,k9,b9⟩:=r9 (by subst fN;exact hF) h9
 rw[CS cs (c0.size+c1.size+c2.size+c3.size+c4.size+c5.size+c6.size+c7.size+c8.size) c9.size (by omega)]at k9
 refine⟨(a0,(a1,(a2,(a3,(a4,(a5,(a6,(a7,(a8,a9))))))))),?_,?_⟩
 ·exact⟨by simpa using k0,⟨by simpa [List.drop_drop,Nat.add_assoc]using k1,⟨by simpa [List.drop_drop,Nat.add_assoc]using k2,⟨by simpa [List.drop_drop,Nat.add_assoc]using k3,⟨by simpa [List.drop_drop,Nat.add_assoc]using k4,⟨by simpa [List.drop_drop,Nat.add_assoc]using k5,⟨by simpa [List.drop_drop,Nat.add_assoc]using k6,⟨by simpa [List.drop_drop,Nat.add_assoc]using k7,⟨by simpa [List.drop_drop,Nat.add_assoc]using k8,(by simpa [List.drop_drop,Nat.add_assoc]using k9)⟩⟩⟩⟩⟩⟩⟩⟩⟩
 ·subst bZ
  simp only[Rows.uptoBulk,Bl,bY.pair]
  have hs:(List.map Rows.uptoBulk (xs.map (·.1))).sum=Rows.uptoBulk xs[0].1+(Rows.uptoBulk xs[1].1+(Rows.uptoBulk xs[2].1+(Rows.uptoBulk xs[3].1+(Rows.uptoBulk xs[4].1+(Rows.uptoBulk xs[5].1+(Rows.uptoBulk xs[6].1+(Rows.uptoBulk xs[7].1+(Rows.uptoBulk xs[8].1+(Rows.uptoBulk xs[9].1))))))))):=by
   obtain⟨x0,x1,x2,x3,x4,x5,x6,x7,x8,x9,rfl⟩:=adZ xs hxl
   simp
  rw[hs]
  exact Nat.le_succ_of_le (Nat.add_le_add b0 (Nat.add_le_add b1 (Nat.add_le_add b2 (Nat.add_le_add b3 (Nat.add_le_add b4 (Nat.add_le_add b5 (Nat.add_le_add b6 (Nat.add_le_add b7 (Nat.add_le_add b8 b9)))))))))
end
section
open Go.RowKit Go.Deep
theorem ey.imp {F:Nat→Prop} {P:Program} {α β:Type} {c:bY α} {d:bY β} {t:TypeId} (h:ey F P c t) (k:∀w cs a,c.is w cs a→∃b,d.is w cs b∧d.bI b≤c.bI a):ey F P d t:=by
 intro H enc w base spare held fuel cs x hF h1
 obtain⟨a,ha,hb⟩:=h hF h1
 obtain⟨b,h2,h3⟩:=k _ _ _ ha
 exact⟨b,h2,Nat.le_trans h3 hb⟩
theorem fK {α:Type} {cs a b:List α} {n:Nat} (h1:cs.take n=a) (h2:cs.drop n=b):cs=a++b:=by rw[←h1,←h2,List.take_append_drop]
def wv:bY lE where
 size:=2
 is:=fun w cs x=>cs=[.int .i64 x.time,.int .i64 x.way]∧aP x.time∧aP x.way
 len:=fun h=>by obtain⟨rfl,_⟩:=h;rfl
 mono:=fun h _=>h
 bI:=fun x=>cS.bI x.time+(cS.bI x.way)
theorem afg:Reads Tryz.prog wv 151:=
 (CR (F:=fun _=>True) Tryz.underlying151 (c0:=cS) (c1:=cS) (by kernel_rfl) rfl rfl (by kernel_rfl) (by kernel_rfl) (iD Tryz.underlying3) (iD Tryz.underlying3)).imp fun w cs a h=>by
  obtain⟨a0,a1⟩:=a
  obtain⟨h0,h1⟩:=h
  obtain⟨e0,b0⟩:=h0
  obtain⟨e1,b1⟩:=h1
  have iT:=fK e0 e1
  exact⟨⟨a0,a1⟩,⟨by rw[iT];rfl,b0,b1⟩,Nat.le_refl _⟩
theorem aeC:Reads Tryz.prog (cq wv) 130:=uM Tryz.underlying130 (c:=wv) (by kernel_rfl) (by decide) afg
def Q1:bY oM where
 size:=2
 is:=fun w cs x=>∃v0:Value,cs=[.int .i64 x.kind,v0]∧aP x.kind∧(cq wv).is w [v0] x.points
 len:=fun h=>by obtain⟨v0,rfl,_⟩:=h;rfl
 mono:=fun{w w' cs x} h g=>by obtain⟨v0,e,h0,h1⟩:=h;exact⟨v0,e,h0,((cq wv)).mono h1 g⟩
 bI:=fun x=>cS.bI x.kind+((cq wv).bI x.points)
theorem afc:Reads Tryz.prog Q1 132:=
 (CR (F:=fun _=>True) Tryz.underlying132 (c0:=cS) (c1:=(cq wv)) (by kernel_rfl) rfl rfl (by kernel_rfl) (by kernel_rfl) (iD Tryz.underlying3) aeC).imp fun w cs a h=>by
  obtain⟨a0,a1⟩:=a
  obtain⟨h0,h1⟩:=h
  obtain⟨e0,b0⟩:=h0
  obtain⟨s1,e1⟩:=List.length_eq_one_iff.1 (((cq wv)).len h1);rw[e1]at h1
  have iT:=fK e0 e1
  exact⟨⟨a0,a1⟩,⟨s1,by rw[iT];rfl,b0,h1⟩,Nat.le_refl _⟩
def zJ:bY oq where
 size:=3
 is:=fun w cs x=>cs=[.int .i64 x.low,.int .i64 x.high,.string x.name]∧aP x.low∧aP x.high∧x.name.size≤maxLen
 len:=fun h=>by obtain⟨rfl,_⟩:=h;rfl
 mono:=fun h _=>h
 bI:=fun x=>cS.bI x.low+(cS.bI x.high+(qM.bI x.name))
theorem afh:Reads Tryz.prog zJ 185:=
 (Kz (F:=fun _=>True) Tryz.underlying185 (c0:=cS) (c1:=cS) (c2:=qM) (by kernel_rfl) rfl rfl rfl (by kernel_rfl) (by kernel_rfl) (by kernel_rfl) (iD Tryz.underlying3) (iD Tryz.underlying3) (C2 Tryz.underlying9)).imp fun w cs a h=>by
  obtain⟨a0,a1,a2⟩:=a
  obtain⟨h0,h1,h2⟩:=h
  obtain⟨e0,b0⟩:=h0
  obtain⟨e1,b1⟩:=h1
  obtain⟨e2,b2⟩:=h2
  have nF:=fK e1 e2
  have iT:=fK e0 nF
  exact⟨⟨a0,a1,a2⟩,⟨by rw[iT];rfl,b0,b1,b2⟩,Nat.le_refl _⟩
theorem aeE:Reads Tryz.prog (cq zJ) 48:=uM Tryz.underlying48 (c:=zJ) (by kernel_rfl) (by decide) afh
def zI:bY ew where
 size:=7
 is:=fun w cs x=>∃v0:Value,cs=[.string x.name,.int .i64 x.group,.int .i64 x.nh,.int .i64 x.lY,.int .i64 x.default,.bool x.snap,v0]∧x.name.size≤maxLen∧aP x.group∧aP x.nh∧aP x.lY∧aP x.default∧(cq zJ).is w [v0] x.ranges
 len:=fun h=>by obtain⟨v0,rfl,_⟩:=h;rfl
 mono:=fun{w w' cs x} h g=>by obtain⟨v0,e,h0,h1,h2,h3,h4,h5⟩:=h;exact⟨v0,e,h0,h1,h2,h3,h4,((cq zJ)).mono h5 g⟩
 bI:=fun x=>qM.bI x.name+(cS.bI x.group+(cS.bI x.nh+(cS.bI x.lY+(cS.bI x.default+(tJ.bI x.snap+((cq zJ).bI x.ranges))))))
theorem aff:Reads Tryz.prog zI 50:=
 (ad8 (F:=fun _=>True) Tryz.underlying50 (c0:=qM) (c1:=cS) (c2:=cS) (c3:=cS) (c4:=cS) (c5:=tJ) (c6:=(cq zJ)) (by kernel_rfl) rfl rfl rfl rfl rfl rfl rfl (by kernel_rfl) (by kernel_rfl) (by kernel_rfl) (by kernel_rfl) (by kernel_rfl) (by kernel_rfl) (by kernel_rfl) (C2 Tryz.underlying9) (iD Tryz.underlying3) (iD Tryz.underlying3) (iD Tryz.underlying3) (iD Tryz.underlying3) (KY Tryz.underlying4) aeE).imp fun w cs a h=>by
  obtain⟨a0,a1,a2,a3,a4,a5,a6⟩:=a
  obtain⟨h0,h1,h2,h3,h4,h5,h6⟩:=h
  obtain⟨e0,b0⟩:=h0
  obtain⟨e1,b1⟩:=h1
  obtain⟨e2,b2⟩:=h2
  obtain⟨e3,b3⟩:=h3
  obtain⟨e4,b4⟩:=h4
  have e5:=h5;simp only[tJ]at e5
  obtain⟨s6,e6⟩:=List.length_eq_one_iff.1 (((cq zJ)).len h6);rw[e6]at h6
  have R4:=fK e5 e6
  have Iw:=fK e4 R4
  have DH:=fK e3 Iw
  have wQ:=fK e2 DH
  have nF:=fK e1 wQ
  have iT:=fK e0 nF
  exact⟨⟨a0,a1,a2,a3,a4,a5,a6⟩,⟨s6,by rw[iT];rfl,b0,b1,b2,b3,b4,h6⟩,Nat.le_refl _⟩
theorem aeB:Reads Tryz.prog (cq zI) 99:=uM Tryz.underlying99 (c:=zI) (by kernel_rfl) (by decide) aff
def wk:bY cV where
 size:=3
 is:=fun w cs x=>∃v0:Value,cs=[.string x.name,.int .i64 x.size,v0]∧x.name.size≤maxLen∧aP x.size∧(cq zI).is w [v0] x.params
 len:=fun h=>by obtain⟨v0,rfl,_⟩:=h;rfl
 mono:=fun{w w' cs x} h g=>by obtain⟨v0,e,h0,h1,h2⟩:=h;exact⟨v0,e,h0,h1,((cq zI)).mono h2 g⟩
 bI:=fun x=>qM.bI x.name+(cS.bI x.size+((cq zI).bI x.params))
theorem ad4:Reads Tryz.prog wk 101:=
 (Kz (F:=fun _=>True) Tryz.underlying101 (c0:=qM) (c1:=cS) (c2:=(cq zI)) (by kernel_rfl) rfl rfl rfl (by kernel_rfl) (by kernel_rfl) (by kernel_rfl) (C2 Tryz.underlying9) (iD Tryz.underlying3) aeB).imp fun w cs a h=>by
  obtain⟨a0,a1,a2⟩:=a
  obtain⟨h0,h1,h2⟩:=h
  obtain⟨e0,b0⟩:=h0
  obtain⟨e1,b1⟩:=h1
  obtain⟨s2,e2⟩:=List.length_eq_one_iff.1 (((cq zI)).len h2);rw[e2]at h2
  have nF:=fK e1 e2
  have iT:=fK e0 nF
  exact⟨⟨a0,a1,a2⟩,⟨s2,by rw[iT];rfl,b0,b1,h2⟩,Nat.le_refl _⟩
theorem adH:Reads Tryz.prog (cq wk) 22:=uM Tryz.underlying22 (c:=wk) (by kernel_rfl) (by decide) ad4
def wD:bY gY where
 size:=4
 is:=fun w cs x=>cs=[.int .i64 x.number,.string x.profile,.int .i64 x.univ,.int .i64 x.address]∧aP x.number∧x.profile.size≤maxLen∧aP x.univ∧aP x.address
 len:=fun h=>by obtain⟨rfl,_⟩:=h;rfl
 mono:=fun h _=>h
 bI:=fun x=>cS.bI x.number+(qM.bI x.profile+(cS.bI x.univ+(cS.bI x.address)))
theorem agr:Reads Tryz.prog wD 103:=
 (U3 (F:=fun _=>True) Tryz.underlying103 (c0:=cS) (c1:=qM) (c2:=cS) (c3:=cS) (by kernel_rfl) rfl rfl rfl rfl (by kernel_rfl) (by kernel_rfl) (by kernel_rfl) (by kernel_rfl) (iD Tryz.underlying3) (C2 Tryz.underlying9) (iD Tryz.underlying3) (iD Tryz.underlying3)).imp fun w cs a h=>by
  obtain⟨a0,a1,a2,a3⟩:=a
  obtain⟨h0,h1,h2,h3⟩:=h
  obtain⟨e0,b0⟩:=h0
  obtain⟨e1,b1⟩:=h1
  obtain⟨e2,b2⟩:=h2
  obtain⟨e3,b3⟩:=h3
  have wQ:=fK e2 e3
  have nF:=fK e1 wQ
  have iT:=fK e0 nF
  exact⟨⟨a0,a1,a2,a3⟩,⟨by rw[iT];rfl,b0,b1,b2,b3⟩,Nat.le_refl _⟩
theorem afj:Reads Tryz.prog (cq wD) 23:=uM Tryz.underlying23 (c:=wD) (by kernel_rfl) (by decide) agr
def SH:bY gr where
 size:=2
 is:=fun w cs x=>∃v0 v1:Value,cs=[v0,v1]∧(cq wk).is w [v0] x.aY∧(cq wD).is w [v1] x.units
 len:=fun h=>by obtain⟨v0,v1,rfl,_⟩:=h;rfl
 mono:=fun{w w' cs x} h g=>by obtain⟨v0,v1,e,h0,h1⟩:=h;exact⟨v0,v1,e,((cq wk)).mono h0 g,((cq wD)).mono h1 g⟩
 bI:=fun x=>(cq wk).bI x.aY+((cq wD).bI x.units)
theorem ahI:Reads Tryz.prog SH 25:=
 (CR (F:=fun _=>True) Tryz.underlying25 (c0:=(cq wk)) (c1:=(cq wD)) (by kernel_rfl) rfl rfl (by kernel_rfl) (by kernel_rfl) adH afj).imp fun w cs a h=>by
  obtain⟨a0,a1⟩:=a
  obtain⟨h0,h1⟩:=h
  obtain⟨s0,e0⟩:=List.length_eq_one_iff.1 (((cq wk)).len h0);rw[e0]at h0
  obtain⟨s1,e1⟩:=List.length_eq_one_iff.1 (((cq wD)).len h1);rw[e1]at h1
  have iT:=fK e0 e1
  exact⟨⟨a0,a1⟩,⟨s0,s1,by rw[iT];rfl,h0,h1⟩,Nat.le_refl _⟩
def IG:bY aB where
 size:=2
 is:=fun w cs x=>cs=[.int .i64 x.unit,.string x.param]∧aP x.unit∧x.param.size≤maxLen
 len:=fun h=>by obtain⟨rfl,_⟩:=h;rfl
 mono:=fun h _=>h
 bI:=fun x=>cS.bI x.unit+(qM.bI x.param)
theorem Xc:Reads Tryz.prog IG 45:=
 (CR (F:=fun _=>True) Tryz.underlying45 (c0:=cS) (c1:=qM) (by kernel_rfl) rfl rfl (by kernel_rfl) (by kernel_rfl) (iD Tryz.underlying3) (C2 Tryz.underlying9)).imp fun w cs a h=>by
  obtain⟨a0,a1⟩:=a
  obtain⟨h0,h1⟩:=h
  obtain⟨e0,b0⟩:=h0
  obtain⟨e1,b1⟩:=h1
  have iT:=fK e0 e1
  exact⟨⟨a0,a1⟩,⟨by rw[iT];rfl,b0,b1⟩,Nat.le_refl _⟩
def zo:bY lK where
 size:=3
 is:=fun w cs x=>cs=[.int .i64 x.key.unit,.string x.key.param,.int .i64 x.level]∧aP x.key.unit∧x.key.param.size≤maxLen∧aP x.level
 len:=fun h=>by obtain⟨rfl,_⟩:=h;rfl
 mono:=fun h _=>h
 bI:=fun x=>IG.bI x.key+(cS.bI x.level)
theorem ad5:Reads Tryz.prog zo 47:=
 (CR (F:=fun _=>True) Tryz.underlying47 (c0:=IG) (c1:=cS) (by kernel_rfl) rfl rfl (by kernel_rfl) (by kernel_rfl) Xc (iD Tryz.underlying3)).imp fun w cs a h=>by
  obtain⟨a0,a1⟩:=a
  obtain⟨h0,h1⟩:=h
  obtain⟨e0,b0⟩:=h0
  obtain⟨Ih,Ii⟩:=b0
  obtain⟨e1,b1⟩:=h1
  have iT:=fK e0 e1
  exact⟨⟨a0,a1⟩,⟨by rw[iT];rfl,Ih,Ii,b1⟩,Nat.le_refl _⟩
theorem adI:Reads Tryz.prog (cq zo) 40:=uM Tryz.underlying40 (c:=zo) (by kernel_rfl) (by decide) ad5
def zy:bY jU where
 size:=3
 is:=fun w cs x=>∃v0:Value,cs=[.int .i64 x.number,.string x.title,v0]∧aP x.number∧x.title.size≤maxLen∧(cq zo).is w [v0] x.jL
 len:=fun h=>by obtain⟨v0,rfl,_⟩:=h;rfl
 mono:=fun{w w' cs x} h g=>by obtain⟨v0,e,h0,h1,h2⟩:=h;exact⟨v0,e,h0,h1,((cq zo)).mono h2 g⟩
 bI:=fun x=>cS.bI x.number+(qM.bI x.title+((cq zo).bI x.jL))
theorem aeD:Reads Tryz.prog zy 187:=
 (Kz (F:=fun _=>True) Tryz.underlying187 (c0:=cS) (c1:=qM) (c2:=(cq zo)) (by kernel_rfl) rfl rfl rfl (by kernel_rfl) (by kernel_rfl) (by kernel_rfl) (iD Tryz.underlying3) (C2 Tryz.underlying9) adI).imp fun w cs a h=>by
  obtain⟨a0,a1,a2⟩:=a
  obtain⟨h0,h1,h2⟩:=h
  obtain⟨e0,b0⟩:=h0
  obtain⟨e1,b1⟩:=h1
  obtain⟨s2,e2⟩:=List.length_eq_one_iff.1 (((cq zo)).len h2);rw[e2]at h2
  have nF:=fK e1 e2
  have iT:=fK e0 nF
  exact⟨⟨a0,a1,a2⟩,⟨s2,by rw[iT];rfl,b0,b1,h2⟩,Nat.le_refl _⟩
theorem ad3:Reads Tryz.prog (cq zy) 26:=uM Tryz.underlying26 (c:=zy) (by kernel_rfl) (by decide) aeD
def Rh:bY lW where
 size:=2
 is:=fun w cs x=>cs=[.int .i64 x.level,.int .i64 x.gj]∧aP x.level∧aP x.gj
 len:=fun h=>by obtain⟨rfl,_⟩:=h;rfl
 mono:=fun h _=>h
 bI:=fun x=>cS.bI x.level+(cS.bI x.gj)
theorem afk:Reads Tryz.prog Rh 193:=
 (CR (F:=fun _=>True) Tryz.underlying193 (c0:=cS) (c1:=cS) (by kernel_rfl) rfl rfl (by kernel_rfl) (by kernel_rfl) (iD Tryz.underlying3) (iD Tryz.underlying3)).imp fun w cs a h=>by
  obtain⟨a0,a1⟩:=a
  obtain⟨h0,h1⟩:=h
  obtain⟨e0,b0⟩:=h0
  obtain⟨e1,b1⟩:=h1
  have iT:=fK e0 e1
  exact⟨⟨a0,a1⟩,⟨by rw[iT];rfl,b0,b1⟩,Nat.le_refl _⟩
def zT:bY fE where
 size:=8
 is:=fun w cs x=>cs=[.int .i64 x.key.unit,.string x.key.param,.int .i64 x.value.level,.int .i64 x.value.gj,.bool x.release,.bool x.yK,.int .i64 x.delay,.int .i64 x.time]∧aP x.key.unit∧x.key.param.size≤maxLen∧aP x.value.level∧aP x.value.gj∧aP x.delay∧aP x.time
 len:=fun h=>by obtain⟨rfl,_⟩:=h;rfl
 mono:=fun h _=>h
 bI:=fun x=>IG.bI x.key+(Rh.bI x.value+(tJ.bI x.release+(tJ.bI x.yK+(cS.bI x.delay+(cS.bI x.time)))))
theorem agq:Reads Tryz.prog zT 195:=
 (ad7 (F:=fun _=>True) Tryz.underlying195 (c0:=IG) (c1:=Rh) (c2:=tJ) (c3:=tJ) (c4:=cS) (c5:=cS) (by kernel_rfl) rfl rfl rfl rfl rfl rfl (by kernel_rfl) (by kernel_rfl) (by kernel_rfl) (by kernel_rfl) (by kernel_rfl) (by kernel_rfl) Xc afk (KY Tryz.underlying4) (KY Tryz.underlying4) (iD Tryz.underlying3) (iD Tryz.underlying3)).imp fun w cs a h=>by
  obtain⟨a0,a1,a2,a3,a4,a5⟩:=a
  obtain⟨h0,h1,h2,h3,h4,h5⟩:=h
  obtain⟨e0,b0⟩:=h0
  obtain⟨Ih,Ii⟩:=b0
  obtain⟨e1,b1⟩:=h1
  obtain⟨amM,amN⟩:=b1
  have e2:=h2;simp only[tJ]at e2
  have e3:=h3;simp only[tJ]at e3
  obtain⟨e4,b4⟩:=h4
  obtain⟨e5,b5⟩:=h5
  have Iw:=fK e4 e5
  have DH:=fK e3 Iw
  have wQ:=fK e2 DH
  have nF:=fK e1 wQ
  have iT:=fK e0 nF
  exact⟨⟨a0,a1,a2,a3,a4,a5⟩,⟨by rw[iT];rfl,Ih,Ii,amM,amN,b4,b5⟩,Nat.le_refl _⟩
theorem afe:Reads Tryz.prog (cq zT) 133:=uM Tryz.underlying133 (c:=zT) (by kernel_rfl) (by decide) agq
def Am:bY bf where
 size:=11
 is:=fun w cs x=>∃v0 v1:Value,cs=[.int .i64 x.number,.string x.title,.int .i64 x.delay,.int .i64 x.up,.int .i64 x.down,.int .i64 x.other,.int .i64 x.fq.kind,v0,.bool x.block,.int .i64 x.follow,v1]∧aP x.number∧x.title.size≤maxLen∧aP x.delay∧aP x.up∧aP x.down∧aP x.other∧aP x.fq.kind∧(cq wv).is w [v0] x.fq.points∧aP x.follow∧(cq zT).is w [v1] x.dm
 len:=fun h=>by obtain⟨v0,v1,rfl,_⟩:=h;rfl
 mono:=fun{w w' cs x} h g=>by obtain⟨v0,v1,e,h0,h1,h2,h3,h4,h5,h6,h7,h8,h9⟩:=h;exact⟨v0,v1,e,h0,h1,h2,h3,h4,h5,h6,((cq wv)).mono h7 g,h8,((cq zT)).mono h9 g⟩
 bI:=fun x=>cS.bI x.number+(qM.bI x.title+(cS.bI x.delay+(cS.bI x.up+(cS.bI x.down+(cS.bI x.other+(Q1.bI x.fq+(tJ.bI x.block+(cS.bI x.follow+((cq zT).bI x.dm)))))))))
theorem ahH:Reads Tryz.prog Am 135:=
 (adJ (F:=fun _=>True) Tryz.underlying135 (c0:=cS) (c1:=qM) (c2:=cS) (c3:=cS) (c4:=cS) (c5:=cS) (c6:=Q1) (c7:=tJ) (c8:=cS) (c9:=(cq zT)) (by kernel_rfl) rfl rfl rfl rfl rfl rfl rfl rfl rfl rfl (by kernel_rfl) (by kernel_rfl) (by kernel_rfl) (by kernel_rfl) (by kernel_rfl) (by kernel_rfl) (by kernel_rfl) (by kernel_rfl) (by kernel_rfl) (by kernel_rfl) (iD Tryz.underlying3) (C2 Tryz.underlying9) (iD Tryz.underlying3) (iD Tryz.underlying3) (iD Tryz.underlying3) (iD Tryz.underlying3) afc (KY Tryz.underlying4) (iD Tryz.underlying3) afe).imp fun w cs a h=>by
  obtain⟨a0,a1,a2,a3,a4,a5,a6,a7,a8,a9⟩:=a
  obtain⟨h0,h1,h2,h3,h4,h5,h6,h7,h8,h9⟩:=h
  obtain⟨e0,b0⟩:=h0
  obtain⟨e1,b1⟩:=h1
  obtain⟨e2,b2⟩:=h2
  obtain⟨e3,b3⟩:=h3
  obtain⟨e4,b4⟩:=h4
  obtain⟨e5,b5⟩:=h5
  obtain⟨aoD,e6,b6⟩:=h6
  obtain⟨amO,amP⟩:=b6
  have e7:=h7;simp only[tJ]at e7
  obtain⟨e8,b8⟩:=h8
  obtain⟨s9,e9⟩:=List.length_eq_one_iff.1 (((cq zT)).len h9);rw[e9]at h9
  have anI:=fK e8 e9
  have anH:=fK e7 anI
  have anG:=fK e6 anH
  have R4:=fK e5 anG
  have Iw:=fK e4 R4
  have DH:=fK e3 Iw
  have wQ:=fK e2 DH
  have nF:=fK e1 wQ
  have iT:=fK e0 nF
  exact⟨⟨a0,a1,a2,a3,a4,a5,a6,a7,a8,a9⟩,⟨aoD,s9,by rw[iT];rfl,b0,b1,b2,b3,b4,b5,amO,amP,b8,h9⟩,Nat.le_refl _⟩
theorem ago:Reads Tryz.prog (cq Am) 68:=uM Tryz.underlying68 (c:=Am) (by kernel_rfl) (by decide) ahH
def zR:bY iR where
 size:=2
 is:=fun w cs x=>∃v0:Value,cs=[.int .i64 x.number,v0]∧aP x.number∧(cq Am).is w [v0] x.bE
 len:=fun h=>by obtain⟨v0,rfl,_⟩:=h;rfl
 mono:=fun{w w' cs x} h g=>by obtain⟨v0,e,h0,h1⟩:=h;exact⟨v0,e,h0,((cq Am)).mono h1 g⟩
 bI:=fun x=>cS.bI x.number+((cq Am).bI x.bE)
theorem agp:Reads Tryz.prog zR 70:=
 (CR (F:=fun _=>True) Tryz.underlying70 (c0:=cS) (c1:=(cq Am)) (by kernel_rfl) rfl rfl (by kernel_rfl) (by kernel_rfl) (iD Tryz.underlying3) ago).imp fun w cs a h=>by
  obtain⟨a0,a1⟩:=a
  obtain⟨h0,h1⟩:=h
  obtain⟨e0,b0⟩:=h0
  obtain⟨s1,e1⟩:=List.length_eq_one_iff.1 (((cq Am)).len h1);rw[e1]at h1
  have iT:=fK e0 e1
  exact⟨⟨a0,a1⟩,⟨s1,by rw[iT];rfl,b0,h1⟩,Nat.le_refl _⟩
theorem afd:Reads Tryz.prog (cq zR) 27:=uM Tryz.underlying27 (c:=zR) (by kernel_rfl) (by decide) agp
def zl:bY lJ where
 size:=3
 is:=fun w cs x=>cs=[.int .i64 x.number,.int .i64 x.list,.int .i64 x.priority]∧aP x.number∧aP x.list∧aP x.priority
 len:=fun h=>by obtain⟨rfl,_⟩:=h;rfl
 mono:=fun h _=>h
 bI:=fun x=>cS.bI x.number+(cS.bI x.list+(cS.bI x.priority))
theorem adG:Reads Tryz.prog zl 57:=
 (Kz (F:=fun _=>True) Tryz.underlying57 (c0:=cS) (c1:=cS) (c2:=cS) (by kernel_rfl) rfl rfl rfl (by kernel_rfl) (by kernel_rfl) (by kernel_rfl) (iD Tryz.underlying3) (iD Tryz.underlying3) (iD Tryz.underlying3)).imp fun w cs a h=>by
  obtain⟨a0,a1,a2⟩:=a
  obtain⟨h0,h1,h2⟩:=h
  obtain⟨e0,b0⟩:=h0
  obtain⟨e1,b1⟩:=h1
  obtain⟨e2,b2⟩:=h2
  have nF:=fK e1 e2
  have iT:=fK e0 nF
  exact⟨⟨a0,a1,a2⟩,⟨by rw[iT];rfl,b0,b1,b2⟩,Nat.le_refl _⟩
theorem ado:Reads Tryz.prog (cq zl) 28:=uM Tryz.underlying28 (c:=zl) (by kernel_rfl) (by decide) adG
def ZW:bY gf where
 size:=5
 is:=fun w cs x=>∃v0 v1 v2 v3 v4:Value,cs=[v0,v1,v2,v3,v4]∧(cq wk).is w [v0] x.aQ.aY∧(cq wD).is w [v1] x.aQ.units∧(cq zy).is w [v2] x.bH∧(cq zR).is w [v3] x.lists∧(cq zl).is w [v4] x.bF
 len:=fun h=>by obtain⟨v0,v1,v2,v3,v4,rfl,_⟩:=h;rfl
 mono:=fun{w w' cs x} h g=>by obtain⟨v0,v1,v2,v3,v4,e,h0,h1,h2,h3,h4⟩:=h;exact⟨v0,v1,v2,v3,v4,e,((cq wk)).mono h0 g,((cq wD)).mono h1 g,((cq zy)).mono h2 g,((cq zR)).mono h3 g,((cq zl)).mono h4 g⟩
 bI:=fun x=>SH.bI x.aQ+((cq zy).bI x.bH+((cq zR).bI x.lists+((cq zl).bI x.bF)))
theorem afi:Reads Tryz.prog ZW 30:=
 (U3 (F:=fun _=>True) Tryz.underlying30 (c0:=SH) (c1:=(cq zy)) (c2:=(cq zR)) (c3:=(cq zl)) (by kernel_rfl) rfl rfl rfl rfl (by kernel_rfl) (by kernel_rfl) (by kernel_rfl) (by kernel_rfl) ahI ad3 afd ado).imp fun w cs a h=>by
  obtain⟨a0,a1,a2,a3⟩:=a
  obtain⟨h0,h1,h2,h3⟩:=h
  obtain⟨aoA,aoB,e0,b0⟩:=h0
  obtain⟨Ih,Ii⟩:=b0
  obtain⟨s1,e1⟩:=List.length_eq_one_iff.1 (((cq zy)).len h1);rw[e1]at h1
  obtain⟨s2,e2⟩:=List.length_eq_one_iff.1 (((cq zR)).len h2);rw[e2]at h2
  obtain⟨s3,e3⟩:=List.length_eq_one_iff.1 (((cq zl)).len h3);rw[e3]at h3
  have wQ:=fK e2 e3
  have nF:=fK e1 wQ
  have iT:=fK e0 nF
  exact⟨⟨a0,a1,a2,a3⟩,⟨aoA,aoB,s1,s2,s3,by rw[iT];rfl,Ih,Ii,h1,h2,h3⟩,Nat.le_refl _⟩
def LW:bY dR where
 size:=5
 is:=fun w cs x=>cs=[.int .i64 x.time,.int .i64 x.kind,.int .i64 x.jf,.int .i64 x.bT,.int .i64 x.level]∧aP x.time∧aP x.kind∧aP x.jf∧aP x.bT∧aP x.level
 len:=fun h=>by obtain⟨rfl,_⟩:=h;rfl
 mono:=fun h _=>h
 bI:=fun x=>cS.bI x.time+(cS.bI x.kind+(cS.bI x.jf+(cS.bI x.bT+(cS.bI x.level))))
theorem aeA:Reads Tryz.prog LW 37:=
 (ad6 (F:=fun _=>True) Tryz.underlying37 (c0:=cS) (c1:=cS) (c2:=cS) (c3:=cS) (c4:=cS) (by kernel_rfl) rfl rfl rfl rfl rfl (by kernel_rfl) (by kernel_rfl) (by kernel_rfl) (by kernel_rfl) (by kernel_rfl) (iD Tryz.underlying3) (iD Tryz.underlying3) (iD Tryz.underlying3) (iD Tryz.underlying3) (iD Tryz.underlying3)).imp fun w cs a h=>by
  obtain⟨a0,a1,a2,a3,a4⟩:=a
  obtain⟨h0,h1,h2,h3,h4⟩:=h
  obtain⟨e0,b0⟩:=h0
  obtain⟨e1,b1⟩:=h1
  obtain⟨e2,b2⟩:=h2
  obtain⟨e3,b3⟩:=h3
  obtain⟨e4,b4⟩:=h4
  have DH:=fK e3 e4
  have wQ:=fK e2 DH
  have nF:=fK e1 wQ
  have iT:=fK e0 nF
  exact⟨⟨a0,a1,a2,a3,a4⟩,⟨by rw[iT];rfl,b0,b1,b2,b3,b4⟩,Nat.le_refl _⟩
theorem ad2:Reads Tryz.prog (cq LW) 31:=uM Tryz.underlying31 (c:=LW) (by kernel_rfl) (by decide) aeA
end
section
open Go.RowKit Go.Deep
section
variable {c : RC}
theorem sI:aI c [] []:=by simp [aI]
theorem dH {a:AV} {v:Value} {l:List AV} {vs:List Value} (h:ak c a v) (k:aI c l vs):aI c (a::l) (v::vs):=by
 simp only[aI];exact⟨v,vs,rfl,h,k⟩
theorem gW (k:IntKind) (n:Int):ak c (.int k n) (.int k n):=by simp [ak]
theorem LK (b:Bool):ak c (.bool b) (.bool b):=by simp [ak]
theorem BC (s:ByteArray):ak c (.str s) (.string s):=by simp [ak]
def RP {α:Type} (c:RC) (d:bY α) (e:α→List AV) (ok:α→Prop):Prop:=∀cs x,d.is c.w cs x→aI c (e x) cs∧ok x∧(∀v∈cs,dK v=true)
theorem Yd:∀{l:List AV} {vs:List Value},aI c l vs→l.length=vs.length
 |[],vs,h=>by simp only[aI]at h;subst h;rfl
 |a::l,vs,h=>by
  simp only[aI]at h
  obtain⟨v,vs',rfl,_,h⟩:=h
  simp [Yd h]
theorem Yb {b:Nat}:∀{l:List AV} {vs:List Value} {off:Nat},aI c l vs→(∀v∈vs,dK v=true)→(∀j,j<vs.length→c.w.cell? ⟨b,off+j,none⟩=vs[j]?)→bu c b off l
 |[],vs,off,h,_,_=>by simp [bu]
 |a::l,vs,off,h,ho,hc=>by
  simp only[aI]at h
  obtain⟨v,vs',rfl,h1,h2⟩:=h
  simp only[bu]
  refine⟨⟨v,by simpa using hc 0 (by simp),ho v (by simp),h1⟩,Yb h2 (fun v hv=>ho v (by simp [hv])) fun j hj=>?_⟩
  have:=hc (j+1) (by simpa using hj)
  rw[show off+1+j=off+(j+1) by omega]
  simpa using this
theorem Yc {α:Type} {d:bY α} {e:α→List AV} {ok:α→Prop} (H:RP c d e ok) {b sz:Nat} (hsz:d.size=sz):∀{l:List α} {off:Nat},(∀(i:Nat) (x:α),l[i]? =some x→∃cs',(∀j,j<d.size→c.w.cell? ⟨b,off+(i*d.size+j),none⟩=cs'[j]?)∧d.is c.w cs' x)→bB c sz b off (l.map e)∧∀x∈l,ok x
 |[],off,h=>by simp [bB]
 |x::l,off,h=>by
  obtain⟨cs,h1,h2⟩:=h 0 x rfl
  obtain⟨k1,k2,k3⟩:=H cs x h2
  have hl:cs.length=d.size:=d.len h2
  obtain⟨r1,r2⟩:=Yc H hsz (l:=l) (off:=off+sz) (fun i y hy=>by
   obtain⟨cs',q1,q2⟩:=h (i+1) y (by simpa using hy)
   refine⟨cs',fun j hj=>?_,q2⟩
   have:=q1 j hj
   rw[←hsz]
   rwa[show off+d.size+(i*d.size+j)=off+((i+1)*d.size+j) by rw[Nat.succ_mul];omega])
  refine⟨?_,fun y hy=>?_⟩
  ·simp only[List.map_cons,bB]
   refine⟨by rw[Yd k1,hl,hsz],Yb k1 k3 fun j hj=>?_,r1⟩
   have:=h1 j (by rw[←hl];exact hj)
   simpa using this
  ·rcases List.mem_cons.1 hy with rfl|hy
   ·exact k2
   ·exact r2 y hy
theorem ajA {w:World} {b off:Nat} {v:Value} (h:w.cell? ⟨b,off,none⟩=some v):b<w.heap.size:=by
 rcases Nat.lt_or_ge b w.heap.size with k|k
 ·exact k
 ·simp [World.cell?,Array.getElem?_eq_none k]at h
theorem uS {α:Type} {d:bY α} {e:α→List AV} {ok:α→Prop} (hX:∀b,¬c.X b) (H:RP c d e ok) {sz:Nat} (hsz:d.size=sz) (h0:0<sz) {v:Value} {l:List α} (h:(cq d).is c.w [v] l):ak c (sl sz e l) v∧eW ok l∧dK v=true:=by
 rcases h with⟨h1,rfl⟩|⟨b,off,sp,cap,h1,h2,h3,h4⟩
 ·simp only[List.cons.injEq,and_true]at h1
  subst h1
  exact⟨by simp [sl,ak,h0],⟨by simp,by simp⟩,rfl⟩
 ·simp only[List.cons.injEq,and_true]at h1
  subst h1
  have xF:sp=none∨l=[]:=by
   cases l with
   |nil=>exact .inr rfl
   |cons x l=>exact .inl (h4 0 (by simp)).1
  have hh:∀(i:Nat) (x:α),l[i]? =some x→∃cs',(∀j,j<d.size→c.w.cell? ⟨b,off+(i*d.size+j),none⟩=cs'[j]?)∧d.is c.w cs' x:=by
   intro i x hx
   obtain⟨hi,hx⟩:=List.getElem?_eq_some_iff.1 hx
   subst hx
   exact(h4 i hi).2
  obtain⟨r1,r2⟩:=Yc H hsz hh
  refine⟨?_,⟨by unfold maxLen at h3;unfold aW;omega,r2⟩,rfl⟩
  simp only[sl,ak]
  refine⟨some ⟨b,off,sp⟩,cap,by simp,by simpa using h2,h0,?_⟩
  rcases xF with rfl|rfl
  ·cases l with
   |nil=>exact .inl rfl
   |cons x l=>
    refine .inr ⟨b,off,rfl,?_,hX b,r1⟩
    obtain⟨cs,q1,q2⟩:=hh 0 x rfl
    have hl:cs.length=d.size:=d.len q2
    have:=q1 0 (by omega)
    obtain⟨y,hy⟩:∃y,cs[0]? =some y:=⟨cs[0],List.getElem?_eq_getElem (by omega)⟩
    rw[hy]at this
    exact ajA this
  ·exact .inl rfl
theorem tH:∀v∈([]:List Value),dK v=true:=by simp
theorem dQ {v:Value} {vs:List Value} (h:dK v=true) (k:∀x∈vs,dK x=true):∀x∈v::vs,dK x=true:=by
 intro x hx
 rcases List.mem_cons.1 hx with rfl|hx
 ·exact h
 ·exact k x hx
theorem ai7:RP c wv gX YR:=by
 rintro cs x ⟨rfl,h0,h1⟩
 exact⟨(dH (gW _ _) (dH (gW _ _) sI)),⟨h0,h1⟩,(dQ rfl (dQ rfl tH))⟩
theorem ai8:RP c zJ mq QN:=by
 rintro cs x ⟨rfl,h0,h1,h2⟩
 exact⟨(dH (gW _ _) (dH (gW _ _) (dH (BC _) sI))),⟨h0,h1,(show iZ _ by unfold iZ aW;have:=h2;unfold maxLen at this;omega)⟩,(dQ rfl (dQ rfl (dQ rfl tH)))⟩
theorem ai6 (hX:∀b,¬c.X b):RP c zI eR YQ:=by
 rintro cs x ⟨v0,rfl,h0,h1,h2,h3,h4,h6⟩
 obtain⟨r6,o6,n6⟩:=uS hX ai8 (sz:=3) rfl (by decide) h6
 exact⟨(dH (BC _) (dH (gW _ _) (dH (gW _ _) (dH (gW _ _) (dH (gW _ _) (dH (LK _) (dH r6 sI))))))),⟨(show iZ _ by unfold iZ aW;have:=h0;unfold maxLen at this;omega),h1,h2,h3,h4,o6⟩,(dQ rfl (dQ rfl (dQ rfl (dQ rfl (dQ rfl (dQ rfl (dQ n6 tH)))))))⟩
theorem agu (hX:∀b,¬c.X b):RP c wk cm Li:=by
 rintro cs x ⟨v0,rfl,h0,h1,h2⟩
 obtain⟨r2,o2,n2⟩:=uS hX (ai6 hX) (sz:=7) rfl (by decide) h2
 exact⟨(dH (BC _) (dH (gW _ _) (dH r2 sI))),⟨(show iZ _ by unfold iZ aW;have:=h0;unfold maxLen at this;omega),h1,o2⟩,(dQ rfl (dQ rfl (dQ n2 tH)))⟩
theorem akK:RP c wD bU ZN:=by
 rintro cs x ⟨rfl,h0,h1,h2,h3⟩
 exact⟨(dH (gW _ _) (dH (BC _) (dH (gW _ _) (dH (gW _ _) sI)))),⟨h0,(show iZ _ by unfold iZ aW;have:=h1;unfold maxLen at this;omega),h2,h3⟩,(dQ rfl (dQ rfl (dQ rfl (dQ rfl tH))))⟩
theorem agv:RP c zo dM WX:=by
 rintro cs x ⟨rfl,h0,h1,h2⟩
 exact⟨(dH (gW _ _) (dH (BC _) (dH (gW _ _) sI))),⟨⟨h0,(show iZ _ by unfold iZ aW;have:=h1;unfold maxLen at this;omega)⟩,h2⟩,(dQ rfl (dQ rfl (dQ rfl tH)))⟩
theorem ahN (hX:∀b,¬c.X b):RP c zy dN zn:=by
 rintro cs x ⟨v0,rfl,h0,h1,h2⟩
 obtain⟨r2,o2,n2⟩:=uS hX agv (sz:=3) rfl (by decide) h2
 exact⟨(dH (gW _ _) (dH (BC _) (dH r2 sI))),⟨h0,(show iZ _ by unfold iZ aW;have:=h1;unfold maxLen at this;omega),o2⟩,(dQ rfl (dQ rfl (dQ n2 tH)))⟩
theorem akJ:RP c zT fG Mq:=by
 rintro cs x ⟨rfl,h0,h1,h2,h3,h6,h7⟩
 exact⟨(dH (gW _ _) (dH (BC _) (dH (gW _ _) (dH (gW _ _) (dH (LK _) (dH (LK _) (dH (gW _ _) (dH (gW _ _) sI)))))))),⟨⟨h0,(show iZ _ by unfold iZ aW;have:=h1;unfold maxLen at this;omega)⟩,⟨h2,h3⟩,h6,h7⟩,(dQ rfl (dQ rfl (dQ rfl (dQ rfl (dQ rfl (dQ rfl (dQ rfl (dQ rfl tH))))))))⟩
theorem alI (hX:∀b,¬c.X b):RP c Am aZ BW:=by
 rintro cs x ⟨v0,v1,rfl,h0,h1,h2,h3,h4,h5,h6,h7,h9,Ts⟩
 obtain⟨r7,o7,n7⟩:=uS hX ai7 (sz:=2) rfl (by decide) h7
 obtain⟨kH,o10,n10⟩:=uS hX akJ (sz:=8) rfl (by decide) Ts
 exact⟨(dH (gW _ _) (dH (BC _) (dH (gW _ _) (dH (gW _ _) (dH (gW _ _) (dH (gW _ _) (dH (gW _ _) (dH r7 (dH (LK _) (dH (gW _ _) (dH kH sI))))))))))),⟨h0,(show iZ _ by unfold iZ aW;have:=h1;unfold maxLen at this;omega),h2,h3,h4,h5,⟨h6,o7⟩,h9,o10⟩,(dQ rfl (dQ rfl (dQ rfl (dQ rfl (dQ rfl (dQ rfl (dQ rfl (dQ n7 (dQ rfl (dQ rfl (dQ n10 tH)))))))))))⟩
theorem akI (hX:∀b,¬c.X b):RP c zR dU ZM:=by
 rintro cs x ⟨v0,rfl,h0,h1⟩
 obtain⟨r1,o1,n1⟩:=uS hX (alI hX) (sz:=11) rfl (by decide) h1
 exact⟨(dH (gW _ _) (dH r1 sI)),⟨h0,o1⟩,(dQ rfl (dQ n1 tH))⟩
theorem afn:RP c zl cz V0:=by
 rintro cs x ⟨rfl,h0,h1,h2⟩
 exact⟨(dH (gW _ _) (dH (gW _ _) (dH (gW _ _) sI))),⟨h0,h1,h2⟩,(dQ rfl (dQ rfl (dQ rfl tH)))⟩
theorem ai9 (hX:∀b,¬c.X b):RP c ZW bA yw:=by
 rintro cs x ⟨v0,v1,v2,v3,v4,rfl,h0,h1,h2,h3,h4⟩
 obtain⟨r0,o0,n0⟩:=uS hX (agu hX) (sz:=3) rfl (by decide) h0
 obtain⟨r1,o1,n1⟩:=uS hX akK (sz:=4) rfl (by decide) h1
 obtain⟨r2,o2,n2⟩:=uS hX (ahN hX) (sz:=3) rfl (by decide) h2
 obtain⟨r3,o3,n3⟩:=uS hX (akI hX) (sz:=2) rfl (by decide) h3
 obtain⟨r4,o4,n4⟩:=uS hX afn (sz:=3) rfl (by decide) h4
 exact⟨(dH r0 (dH r1 (dH r2 (dH r3 (dH r4 sI))))),⟨⟨o0,o1⟩,o2,o3,o4⟩,(dQ n0 (dQ n1 (dQ n2 (dQ n3 (dQ n4 tH)))))⟩
theorem ahM:RP c LW bn LI:=by
 rintro cs x ⟨rfl,h0,h1,h2,h3,h4⟩
 exact⟨(dH (gW _ _) (dH (gW _ _) (dH (gW _ _) (dH (gW _ _) (dH (gW _ _) sI))))),⟨h0,h1,h2,h3,h4⟩,(dQ rfl (dQ rfl (dQ rfl (dQ rfl (dQ rfl tH)))))⟩
theorem alJ {α:Type} {d:bY α} {e:α→List AV} {ok:α→Prop} (H:RP c d e ok) {cs:Array Value} {x:α} (h:d.is c.w cs.toList x):ak c (.agg (e x)) (.agg cs)∧ok x:=by
 obtain⟨h1,h2,h3⟩:=H _ _ h
 simp only[ak]
 exact⟨⟨cs,rfl,h1,h3⟩,h2⟩
end
end
section
open Go.RowKit
noncomputable def base (W:World):RC:=ctx ⟨W,[],fun _=>False,aF⟩ W [] cN
theorem Zl (W:World):∀b,¬(base W).X b:=by
 rintro b (k|⟨p,hp,_⟩|⟨i,k⟩)
 ·exact k
 ·cases hp
 ·cases k
theorem aka {n:FuncId} {m:List AV→Heap→Option (AV×Heap)} {nj:List AV} (hs:Sound Tryz.prog aF n m) (hc:∀us w,(callFunc n us).run Tryz.prog w=.ok (.enter n us) w) (W:World) (vs:Array Value) (hr:aI (base W) nj vs.toList) (hm:m nj []=some (.bool true,[])):
  Calls Tryz.prog n vs W fun e W'=>e=.returned (.bool true)∧Below W.heap.size W W':=by
 have hh0:iw (ctx ⟨W,[],fun _=>False,aF⟩ W [] cN) []:=by
  refine⟨rfl,fun i j p q hp=>?_,fun i p x hp=>?_⟩
  ·simp [ctx]at hp
  ·simp [ctx]at hp
 rcases hs _ _ _ _ hm with⟨g,h1,h2⟩|hv
 case inr=>
  obtain⟨v,w',E',k1,_⟩:=hv ⟨W,[],fun _=>False,aF⟩ vs rfl (fun b k=>k.elim) hh0 hr
  rw[hc]at k1
  injection k1 with k1
  cases k1
 have hg:g=n:=by
  have e1:=h1 #[] W
  rw[hc #[] W]at e1
  injection e1 with e1
  injection e1 with e1
  exact e1.symm
 subst hg
 have hh:iw (ctx ⟨W,[],fun _=>False,aF⟩ W [] cN) []:=by
  refine⟨rfl,fun i j p q hp=>?_,fun i p x hp=>?_⟩
  ·simp [ctx]at hp
  ·simp [ctx]at hp
 refine(h2 ⟨W,[],fun _=>False,aF⟩ vs rfl (fun b k=>k.elim) hh hr).mono ?_
 rintro e w' ⟨v,E',rfl,ho,_,hv⟩
 simp only[ak]at hv
 subst hv
 exact⟨rfl,ho.os,ho.tape,ho.output,ho.size,fun k hk=>ho.stay k hk (fun p hp=>by cases hp)⟩
end
end Go.Proofs.YtooknfkholjpbaaGreat
