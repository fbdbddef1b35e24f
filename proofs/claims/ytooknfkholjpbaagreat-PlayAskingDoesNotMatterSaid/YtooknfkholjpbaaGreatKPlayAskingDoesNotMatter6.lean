/- Parts of the proof of PlayAskingDoesNotMatter, in order. -/
import Derived.Orders
import Derived.Below
import Derived.WalkKit
import Derived.Laws.StructEq
import Derived.Laws.Append
import Derived.Laws.AppendOwn
import Derived.Test.YtooknfkholjpbaaGreatRows
import Derived.KernelRfl
import Derived.Lib.Bytealg
import Derived.Sort.Defs
import Derived.Lib.BitFns
import Derived.Test.YtooknfkholjpbaaGreatShelf
import Derived.RangeFuncGives
import Derived.RangeFuncBound
import Derived.RangeFuncIn
import Derived.RangeFuncLeaves
import Derived.RangeFuncRecord
import Derived.Sort.MapsRangeIn
import Derived.TacticsInMore
import Derived.OwnWalkIn
import Derived.RegionIn
import Derived.LoopNIn
import Derived.LoopIn
import Derived.Shelf.AbstractIn
import Derived.BigFrameIn
import Derived.Lib.Overlaps
import Derived.IntWalk
import Derived.Sort.Statements
import Derived.Shelf.SlSortCmp.WholeK
import Derived.Shelf.SlSortCmp.NoneTotal
import Derived.Sort.AssemblyPlain
import Derived.Lib.Strings
import Derived.Laws.Externs
import Derived.WalkSpells
import Derived.ProofKit
import Derived.OpenShut
import Derived.Lib.Hide
import Derived.Lib.SmallJoins
import Derived.Deep.QuietTactic
import Derived.BigQuiet
import Derived.Deep.RegionHeld3
import Derived.Deep.Slices
import Derived.Test.YtooknfkholjpbaaGreatKPlayAskingDoesNotMatter5
namespace Go.Proofs.YtooknfkholjpbaaGreat
set_option linter.unusedVariables false
set_option linter.unusedSimpArgs false
set_option linter.unusedSectionVars false
section
open Go.RowKit Go.Deep
structure cU (α : Type) where
 size:Nat
 is:World→List Value→α→Prop
 len:∀{w cs a},is w cs a→cs.length=size
 mono:∀{w w' cs a},is w cs a→Gr w w'→is w' cs a
 cr:α→Nat
def dF:cU Int where
 size:=1
 is:=λ_ cs n=>cs=[.int .i64 n]∧-9223372036854775808≤n∧n≤9223372036854775807
 len:=λh=>by rw[h.1];rfl
 mono:=λh _=>h
 cr:=λ_=>1
def wX:cU Bool where
 size:=1
 is:=λ_ cs b=>cs=[.bool b]
 len:=λh=>by rw[h];rfl
 mono:=λh _=>h
 cr:=λ_=>1
def uk:cU ByteArray where
 size:=1
 is:=λ_ cs s=>cs=[.string s]∧s.size≤maxLen
 len:=λh=>by rw[h.1];rfl
 mono:=λh _=>h
 cr:=λs=>s.size+1
def cU.pair{α β:Type}(c:cU α)(d:cU β):cU (α×β) where
 size:=c.size+d.size
 is:=λw cs x=>c.is w (cs.take c.size) x.1∧d.is w (cs.drop c.size) x.2
 len:=λ{w cs a}h=>by have h1:=c.len h.1;have h2:=d.len h.2;simp at h1 h2;omega
 mono:=λh g=>⟨c.mono h.1 g,d.mono h.2 g⟩
 cr:=λx=>c.cr x.1+d.cr x.2
def cW{α:Type}(c:cU α):cU (List α) where
 size:=1
 is:=λw cs l=>(cs=[.slice none 0 0]∧l=[])∨∃(b off:Nat)(sp:Option Nat)(cap:Nat),cs=[.slice (some ⟨b,off,sp⟩) l.length cap]∧l.length≤cap∧cap≤maxLen∧
  ∀i(h:i<l.length),sp=none∧∃cs',(∀j,j<c.size→w.cell? ⟨b,off+(i*c.size+j),none⟩=cs'[j]?)∧c.is w cs' l[i]
 len:=λh=>by rcases h with⟨rfl,_⟩|⟨b,off,sp,cap,rfl,_⟩<;>rfl
 mono:=λ{w w' cs l}h g=>by
  rcases h with h|⟨b,off,sp,cap,h1,h2,h3,h4⟩
  ·exact .inl h
  ·refine .inr ⟨b,off,sp,cap,h1,h2,h3,λi hi=>?_⟩;obtain⟨e,cs',h5,h6⟩:=h4 i hi;refine⟨e,cs',λj hj=>?_,c.mono h6 g⟩;have h7:=h5 j hj;have hl:=c.len h6;rw[bT (by omega)]at h7 ⊢;exact g.cell h7
 cr:=λl=>(l.map c.cr).sum+1
def fT{α:Type}(F:Nat→Prop)(P:Program)(c:cU α)(t:TypeId):Prop:=∀⦃H:Type⦄ ⦃enc:TypeId×Value→H⦄ ⦃w:World⦄ ⦃base:Nat⦄ ⦃spare:Nat→Bool⦄ ⦃held:Bool⦄ ⦃fuel:Nat⦄ ⦃cs:List Value⦄ ⦃x:DataW H×List MemPlace⦄,F fuel→DataW.trod enc P w base spare held fuel t cs=some x→∃a,c.is w cs a∧c.cr a≤Rows.uptoBulk x.1
abbrev Reads{α:Type}(P:Program)(c:cU α)(t:TypeId):Prop:=fT (λ_=>True) P c t
theorem DB{H:Type}(l:List (DataW H)):Rows.uptoBulkAll l=(l.map Rows.uptoBulk).sum:=by
 induction l with
 |nil=>rfl
 |cons x r ih=>simp only[Rows.uptoBulkAll,ef,List.sum_cons,ih]
theorem Yh{α:Type}(f:α→Nat)(D:Nat→Nat):∀(l:List α)(o:Nat),(∀i(h:i<l.length),f l[i]≤D (o+i))→(l.map f).sum≤((List.range' o l.length).map D).sum
 |[],_,_=>by simp
 |x::r,o,h=>by simp only[List.length_cons,List.range'_succ,ef,List.sum_cons];have h0:=h 0 (by simp);have:=Yh f D r (o+1) (λi hi=>by have:=h (i+1) (by simp;omega);simp only[List.getElem_cons_succ]at this;rw[show o+1+i=o+(i+1) by omega];exact this);simp at h0;omega
theorem wf_i64{n:Int}(h:(Lit.int .i64 n).wf=true):-9223372036854775808≤n∧n≤9223372036854775807:=by simpa [Lit.wf,IntKind.min,IntKind.max,IntKind.signed,IntKind.bits]using h
theorem aan{H:Type}(d:DataW H):1≤Rows.uptoBulk d:=by
 cases d with
 |lit l=>cases l<;>simp [Rows.uptoBulk]
 |_=>simp [Rows.uptoBulk]
theorem jM{F:Nat→Prop}{P:Program}{t:TypeId}(ht:P.underlying t=some (.int .i64)):fT F P dF t:=by intro H enc w base spare held fuel cs x _ h;obtain⟨n,rfl,_,hw⟩:=DataW.trod_int ht h;exact⟨n,⟨rfl,wf_i64 hw⟩,aan _⟩
theorem NB{F:Nat→Prop}{P:Program}{t:TypeId}(ht:P.underlying t=some .bool):fT F P wX t:=by intro H enc w base spare held fuel cs x _ h;obtain⟨n,rfl,_⟩:=DataW.trod_bool ht h;exact⟨n,rfl,aan _⟩
theorem Fc{F:Nat→Prop}{P:Program}{t:TypeId}(ht:P.underlying t=some .string):fT F P uk t:=by intro H enc w base spare held fuel cs x _ h;obtain⟨n,rfl,hx,hw⟩:=DataW.trod_string ht h;refine⟨n,⟨rfl,hw⟩,?_⟩;subst hx;simp only[Rows.uptoBulk,uk];first|(simp;done)|omega
theorem wN{F:Nat→Prop}{P:Program}{α:Type}{c:cU α}{t e:TypeId}(ht:P.underlying t=some (.slice e))(hz:P.cellsOf e=c.size)(hp:0<c.size)(hr:fT (λm=>F (m+1)) P c e):fT F P (cW c) t:=by
 intro H enc w base spare held fuel cs x hF h;rcases DataW.trod_slice ht h with⟨rfl,rfl⟩|⟨a,len,cap,elems,rest,n,iE,rfl,hxe,hb,hl,hm,hlen,hel,h8,h9⟩
 ·exact⟨[],.inl ⟨rfl,rfl⟩,by simp [cW,Rows.uptoBulk]⟩
 ·obtain⟨D,hD⟩:∃D:Nat→DataW H,D=λi=>(elems.getD i (.nil,[])).1:=⟨_,rfl⟩
  have key:∀i,i<len→∃(y:α)(cs':List Value),(∀j,j<c.size→w.cell? (a.add (i*c.size+j))=cs'[j]?)∧c.is w cs' y∧c.cr y≤Rows.uptoBulk (D i):=by
   intro i hi;have hk:=hel i hi;rw[bT (by omega)]at hk;obtain⟨cs',h1,h2⟩:=bO.1 hk;obtain⟨y,hy,L5⟩:=hr (by subst iE;exact hF) h2
   have L5:c.cr y≤Rows.uptoBulk (D i):=by rw[hD];simpa [List.getD,bT (show i<elems.length by omega)]using L5
   obtain⟨_,h3,h4⟩:=World.cells?_some h1;refine⟨y,cs',λj hj=>?_,hy,L5⟩;have:=h4 j (by rw[hz];exact hj);rw[hz]at this;rw[←this,add_add]
  obtain⟨ys,hys⟩:∃ys:List α,ys.length=len∧∀i(h:i<ys.length),c.cr ys[i]≤Rows.uptoBulk (D i)∧∃cs',(∀j,j<c.size→w.cell? (a.add (i*c.size+j))=cs'[j]?)∧c.is w cs' ys[i]:=by
   clear hel hlen h hl hxe h8 h9;induction len with
   |zero=>exact⟨[],rfl,λi h=>by simp at h⟩
   |succ k ih=>
    obtain⟨ys,h1,h2⟩:=ih (λi hi=>key i (by omega));obtain⟨y,cs',h3,h4,h4b⟩:=key k (by omega);refine⟨ys++[y],by simp [h1],λi hi=>?_⟩;by_cases hk:i<ys.length
    ·rw[List.getElem_append_left hk];exact h2 i hk
    ·have:i=k:=by simp at hi;omega
     subst this;rw[List.getElem_append_right (by omega)];simp only[h1,Nat.sub_self,List.getElem_cons_zero];exact⟨h4b,cs',h3,h4⟩
  obtain⟨h1,h2⟩:=hys;obtain⟨b,off,sp⟩:=a;refine⟨ys,.inr ⟨b,off,sp,cap,by rw[h1],by omega,hm,λi hi=>?_⟩,?_⟩
  ·have hs:sp=none:=by
    cases sp with
    |none=>rfl
    |some q=>exfalso;obtain⟨_,cs',h3,h4⟩:=h2 0 (by omega);have h5:=h3 0 hp;have hl:=c.len h4;rw[bT (by omega)]at h5;simp only[Nat.zero_mul,Nat.zero_add,World.cell?,Addr.add]at h5;split at h5<;>simp at h5
   obtain⟨_,cs',h3,h4⟩:=h2 i hi;subst hs;refine⟨rfl,cs',λj hj=>?_,h4⟩;have h6:=h3 j hj;rw[←h6];congr 1;simp only[Addr.add];split
   ·rename_i h7;simp only[h7,Nat.add_zero]
   ·rfl
  ·subst hxe;simp only[cW,Rows.uptoBulk,DB,List.map_map];have:=Yh c.cr (λi=>Rows.uptoBulk (D i)) ys 0 (λi hi=>by simpa using(h2 i hi).1);rw[h1,←List.range_eq_range']at this
   have e:List.map (Rows.uptoBulk∘λx=>x.1) elems=List.map (λi=>Rows.uptoBulk (D i)) (List.range len):=by rw[←hlen,hD];apply List.ext_getElem (by simp);intro i h3 h4;simp at h3;simp [List.getD,bT h3]
   rw[e];omega
theorem E0{α:Type}(l:List α)(o n:Nat)(h:l.length=o+n):(l.drop o).take n=l.drop o:=yF (by simp;omega)
theorem ahC{α:Type}(l:List α)(h:l.length=2):∃x0 x1,l=[x0,x1]:=by
 match l,h with
 |[x0,x1],_=>exact⟨x0,x1,rfl⟩
theorem EZ{F:Nat→Prop}{P:Program}{xX qU:Type}{t:TypeId}{f0 f1:Field}{c0:cU xX}{c1:cU qU}(ht:P.underlying t=some (.struct #[f0,f1]))(hz:P.cellsOf t=c0.size+c1.size)(o0:f0.offset=0)(o1:f1.offset=c0.size)(z0:P.cellsOf f0.type=c0.size)(z1:P.cellsOf f1.type=c1.size)(r0:fT (λm=>F (m+1)) P c0 f0.type) (r1:fT (λm=>F (m+1)) P c1 f1.type):fT F P (c0.pair c1) t:=by
 intro H enc w base spare held fuel cs x hF h;obtain⟨xs,m,iE,dz,hlen,hxl,hf⟩:=DataW.trod_struct ht h;rw[hz]at hlen;have hxl:xs.length=2:=hxl;have h0:=hf 0 f0 rfl;rw[o0,z0,bT (show 0<xs.length by omega)]at h0;obtain⟨a0,k0,b0⟩:=r0 (by subst iE;exact hF) h0;have h1:=hf 1 f1 rfl;rw[o1,z1,bT (show 1<xs.length by omega)]at h1;obtain⟨a1,k1,b1⟩:=r1 (by subst iE;exact hF) h1;rw[E0 cs (c0.size) c1.size (by omega)]at k1;refine⟨(a0,a1),?_,?_⟩
 ·exact⟨by simpa using k0,(by simpa [kX,jX]using k1)⟩
 ·subst dz;simp only[Rows.uptoBulk,DB,cU.pair]
  have hs:(List.map Rows.uptoBulk (xs.map (·.1))).sum=Rows.uptoBulk xs[0].1+(Rows.uptoBulk xs[1].1):=by obtain⟨x0,x1,rfl⟩:=ahC xs hxl;simp
  rw[hs];exact Nat.le_succ_of_le (lK b0 b1)
theorem ahD{α:Type}(l:List α)(h:l.length=3):∃x0 x1 x2,l=[x0,x1,x2]:=by
 match l,h with
 |[x0,x1,x2],_=>exact⟨x0,x1,x2,rfl⟩
theorem Na{F:Nat→Prop}{P:Program}{xX qU uE:Type}{t:TypeId}{f0 f1 f2:Field}{c0:cU xX}{c1:cU qU}{c2:cU uE}(ht:P.underlying t=some (.struct #[f0,f1,f2]))(hz:P.cellsOf t=c0.size+c1.size+c2.size)(o0:f0.offset=0)(o1:f1.offset=c0.size)(o2:f2.offset=c0.size+c1.size)(z0:P.cellsOf f0.type=c0.size)(z1:P.cellsOf f1.type=c1.size)(z2:P.cellsOf f2.type=c2.size)(r0:fT (λm=>F (m+1)) P c0 f0.type) (r1:fT (λm=>F (m+1)) P c1 f1.type) (r2:fT (λm=>F (m+1)) P c2 f2.type):fT F P (c0.pair (c1.pair c2)) t:=by
 intro H enc w base spare held fuel cs x hF h;obtain⟨xs,m,iE,dz,hlen,hxl,hf⟩:=DataW.trod_struct ht h;rw[hz]at hlen;have hxl:xs.length=3:=hxl;have h0:=hf 0 f0 rfl;rw[o0,z0,bT (show 0<xs.length by omega)]at h0;obtain⟨a0,k0,b0⟩:=r0 (by subst iE;exact hF) h0;have h1:=hf 1 f1 rfl;rw[o1,z1,bT (show 1<xs.length by omega)]at h1;obtain⟨a1,k1,b1⟩:=r1 (by subst iE;exact hF) h1;have h2:=hf 2 f2 rfl;rw[o2,z2,bT (show 2<xs.length by omega)]at h2;obtain⟨a2,k2,b2⟩:=r2 (by subst iE;exact hF) h2;rw[E0 cs (c0.size+c1.size) c2.size (by omega)]at k2;refine⟨(a0,(a1,a2)),?_,?_⟩
 ·exact⟨by simpa using k0,⟨by simpa [kX,jX]using k1,(by simpa [kX,jX]using k2)⟩⟩
 ·subst dz;simp only[Rows.uptoBulk,DB,cU.pair]
  have hs:(List.map Rows.uptoBulk (xs.map (·.1))).sum=Rows.uptoBulk xs[0].1+(Rows.uptoBulk xs[1].1+(Rows.uptoBulk xs[2].1)):=by obtain⟨x0,x1,x2,rfl⟩:=ahD xs hxl;simp
  rw[hs];exact Nat.le_succ_of_le (lK b0 (lK b1 b2))
theorem ahE{α:Type}(l:List α)(h:l.length=4):∃x0 x1 x2 x3,l=[x0,x1,x2,x3]:=by
 match l,h with
 |[x0,x1,x2,x3],_=>exact⟨x0,x1,x2,x3,rfl⟩
theorem XX{F:Nat→Prop}{P:Program}{xX qU uE xY:Type}{t:TypeId}{f0 f1 f2 f3:Field}{c0:cU xX}{c1:cU qU}{c2:cU uE}{c3:cU xY}(ht:P.underlying t=some (.struct #[f0,f1,f2,f3]))(hz:P.cellsOf t=c0.size+c1.size+c2.size+c3.size)(o0:f0.offset=0)(o1:f1.offset=c0.size)(o2:f2.offset=c0.size+c1.size)(o3:f3.offset=c0.size+c1.size+c2.size)(z0:P.cellsOf f0.type=c0.size)(z1:P.cellsOf f1.type=c1.size)(z2:P.cellsOf f2.type=c2.size)(z3:P.cellsOf f3.type=c3.size)(r0:fT (λm=>F (m+1)) P c0 f0.type) (r1:fT (λm=>F (m+1)) P c1 f1.type) (r2:fT (λm=>F (m+1)) P c2 f2.type) (r3:fT (λm=>F (m+1)) P c3 f3.type):fT F P (c0.pair (c1.pair (c2.pair c3))) t:=by
 intro H enc w base spare held fuel cs x hF h;obtain⟨xs,m,iE,dz,hlen,hxl,hf⟩:=DataW.trod_struct ht h;rw[hz]at hlen;have hxl:xs.length=4:=hxl;have h0:=hf 0 f0 rfl;rw[o0,z0,bT (show 0<xs.length by omega)]at h0;obtain⟨a0,k0,b0⟩:=r0 (by subst iE;exact hF) h0;have h1:=hf 1 f1 rfl;rw[o1,z1,bT (show 1<xs.length by omega)]at h1;obtain⟨a1,k1,b1⟩:=r1 (by subst iE;exact hF) h1;have h2:=hf 2 f2 rfl;rw[o2,z2,bT (show 2<xs.length by omega)]at h2;obtain⟨a2,k2,b2⟩:=r2 (by subst iE;exact hF) h2;have h3:=hf 3 f3 rfl;rw[o3,z3,bT (show 3<xs.length by omega)]at h3;obtain⟨a3,k3,b3⟩:=r3 (by subst iE;exact hF) h3;rw[E0 cs (c0.size+c1.size+c2.size) c3.size (by omega)]at k3;refine⟨(a0,(a1,(a2,a3))),?_,?_⟩
 ·exact⟨by simpa using k0,⟨by simpa [kX,jX]using k1,⟨by simpa [kX,jX]using k2,(by simpa [kX,jX]using k3)⟩⟩⟩
 ·subst dz;simp only[Rows.uptoBulk,DB,cU.pair]
  have hs:(List.map Rows.uptoBulk (xs.map (·.1))).sum=Rows.uptoBulk xs[0].1+(Rows.uptoBulk xs[1].1+(Rows.uptoBulk xs[2].1+(Rows.uptoBulk xs[3].1))):=by obtain⟨x0,x1,x2,x3,rfl⟩:=ahE xs hxl;simp
  rw[hs];exact Nat.le_succ_of_le (lK b0 (lK b1 (lK b2 b3)))
theorem ahF{α:Type}(l:List α)(h:l.length=5):∃x0 x1 x2 x3 x4,l=[x0,x1,x2,x3,x4]:=by
 match l,h with
 |[x0,x1,x2,x3,x4],_=>exact⟨x0,x1,x2,x3,x4,rfl⟩
theorem ahj{F:Nat→Prop}{P:Program}{xX qU uE xY ze:Type}{t:TypeId}{f0 f1 f2 f3 f4:Field}{c0:cU xX}{c1:cU qU}{c2:cU uE}{c3:cU xY}{c4:cU ze}(ht:P.underlying t=some (.struct #[f0,f1,f2,f3,f4]))(hz:P.cellsOf t=c0.size+c1.size+c2.size+c3.size+c4.size)(o0:f0.offset=0)(o1:f1.offset=c0.size)(o2:f2.offset=c0.size+c1.size)(o3:f3.offset=c0.size+c1.size+c2.size)(o4:f4.offset=c0.size+c1.size+c2.size+c3.size)(z0:P.cellsOf f0.type=c0.size)(z1:P.cellsOf f1.type=c1.size)(z2:P.cellsOf f2.type=c2.size)(z3:P.cellsOf f3.type=c3.size)(z4:P.cellsOf f4.type=c4.size)(r0:fT (λm=>F (m+1)) P c0 f0.type) (r1:fT (λm=>F (m+1)) P c1 f1.type) (r2:fT (λm=>F (m+1)) P c2 f2.type) (r3:fT (λm=>F (m+1)) P c3 f3.type) (r4:fT (λm=>F (m+1)) P c4 f4.type):fT F P (c0.pair (c1.pair (c2.pair (c3.pair c4)))) t:=by
 intro H enc w base spare held fuel cs x hF h;obtain⟨xs,m,iE,dz,hlen,hxl,hf⟩:=DataW.trod_struct ht h;rw[hz]at hlen;have hxl:xs.length=5:=hxl;have h0:=hf 0 f0 rfl;rw[o0,z0,bT (show 0<xs.length by omega)]at h0;obtain⟨a0,k0,b0⟩:=r0 (by subst iE;exact hF) h0;have h1:=hf 1 f1 rfl;rw[o1,z1,bT (show 1<xs.length by omega)]at h1;obtain⟨a1,k1,b1⟩:=r1 (by subst iE;exact hF) h1;have h2:=hf 2 f2 rfl;rw[o2,z2,bT (show 2<xs.length by omega)]at h2;obtain⟨a2,k2,b2⟩:=r2 (by subst iE;exact hF) h2;have h3:=hf 3 f3 rfl;rw[o3,z3,bT (show 3<xs.length by omega)]at h3;obtain⟨a3,k3,b3⟩:=r3 (by subst iE;exact hF) h3;have h4:=hf 4 f4 rfl;rw[o4,z4,bT (show 4<xs.length by omega)]at h4;obtain⟨a4,k4,b4⟩:=r4 (by subst iE;exact hF) h4;rw[E0 cs (c0.size+c1.size+c2.size+c3.size) c4.size (by omega)]at k4;refine⟨(a0,(a1,(a2,(a3,a4)))),?_,?_⟩
 ·exact⟨by simpa using k0,⟨by simpa [kX,jX]using k1,⟨by simpa [kX,jX]using k2,⟨by simpa [kX,jX]using k3,(by simpa [kX,jX]using k4)⟩⟩⟩⟩
 ·subst dz;simp only[Rows.uptoBulk,DB,cU.pair]
  have hs:(List.map Rows.uptoBulk (xs.map (·.1))).sum=Rows.uptoBulk xs[0].1+(Rows.uptoBulk xs[1].1+(Rows.uptoBulk xs[2].1+(Rows.uptoBulk xs[3].1+(Rows.uptoBulk xs[4].1)))):=by obtain⟨x0,x1,x2,x3,x4,rfl⟩:=ahF xs hxl;simp
  rw[hs];exact Nat.le_succ_of_le (lK b0 (lK b1 (lK b2 (lK b3 b4))))
theorem ahG{α:Type}(l:List α)(h:l.length=6):∃x0 x1 x2 x3 x4 x5,l=[x0,x1,x2,x3,x4,x5]:=by
 match l,h with
 |[x0,x1,x2,x3,x4,x5],_=>exact⟨x0,x1,x2,x3,x4,x5,rfl⟩
theorem ahk{F:Nat→Prop}{P:Program}{xX qU uE xY ze Ms:Type}{t:TypeId}{f0 f1 f2 f3 f4 f5:Field}{c0:cU xX}{c1:cU qU}{c2:cU uE}{c3:cU xY}{c4:cU ze}{c5:cU Ms}(ht:P.underlying t=some (.struct #[f0,f1,f2,f3,f4,f5]))(hz:P.cellsOf t=c0.size+c1.size+c2.size+c3.size+c4.size+c5.size)(o0:f0.offset=0)(o1:f1.offset=c0.size)(o2:f2.offset=c0.size+c1.size)(o3:f3.offset=c0.size+c1.size+c2.size)(o4:f4.offset=c0.size+c1.size+c2.size+c3.size)(o5:f5.offset=c0.size+c1.size+c2.size+c3.size+c4.size)(z0:P.cellsOf f0.type=c0.size)(z1:P.cellsOf f1.type=c1.size)(z2:P.cellsOf f2.type=c2.size)(z3:P.cellsOf f3.type=c3.size)(z4:P.cellsOf f4.type=c4.size)(z5:P.cellsOf f5.type=c5.size)(r0:fT (λm=>F (m+1)) P c0 f0.type) (r1:fT (λm=>F (m+1)) P c1 f1.type) (r2:fT (λm=>F (m+1)) P c2 f2.type) (r3:fT (λm=>F (m+1)) P c3 f3.type) (r4:fT (λm=>F (m+1)) P c4 f4.type) (r5:fT (λm=>F (m+1)) P c5 f5.type):fT F P (c0.pair (c1.pair (c2.pair (c3.pair (c4.pair c5))))) t:=by
 intro H enc w base spare held fuel cs x hF h;obtain⟨xs,m,iE,dz,hlen,hxl,hf⟩:=DataW.trod_struct ht h;rw[hz]at hlen;have hxl:xs.length=6:=hxl;have h0:=hf 0 f0 rfl;rw[o0,z0,bT (show 0<xs.length by omega)]at h0;obtain⟨a0,k0,b0⟩:=r0 (by subst iE;exact hF) h0;have h1:=hf 1 f1 rfl;rw[o1,z1,bT (show 1<xs.length by omega)]at h1;obtain⟨a1,k1,b1⟩:=r1 (by subst iE;exact hF) h1;have h2:=hf 2 f2 rfl;rw[o2,z2,bT (show 2<xs.length by omega)]at h2;obtain⟨a2,k2,b2⟩:=r2 (by subst iE;exact hF) h2;have h3:=hf 3 f3 rfl;rw[o3,z3,bT (show 3<xs.length by omega)]at h3;obtain⟨a3,k3,b3⟩:=r3 (by subst iE;exact hF) h3;have h4:=hf 4 f4 rfl;rw[o4,z4,bT (show 4<xs.length by omega)]at h4;obtain⟨a4,k4,b4⟩:=r4 (by subst iE;exact hF) h4;have h5:=hf 5 f5 rfl;rw[o5,z5,bT (show 5<xs.length by omega)]at h5;obtain⟨a5,k5,b5⟩:=r5 (by subst iE;exact hF) h5;rw[E0 cs (c0.size+c1.size+c2.size+c3.size+c4.size) c5.size (by omega)]at k5;refine⟨(a0,(a1,(a2,(a3,(a4,a5))))),?_,?_⟩
 ·exact⟨by simpa using k0,⟨by simpa [kX,jX]using k1,⟨by simpa [kX,jX]using k2,⟨by simpa [kX,jX]using k3,⟨by simpa [kX,jX]using k4,(by simpa [kX,jX]using k5)⟩⟩⟩⟩⟩
 ·subst dz;simp only[Rows.uptoBulk,DB,cU.pair]
  have hs:(List.map Rows.uptoBulk (xs.map (·.1))).sum=Rows.uptoBulk xs[0].1+(Rows.uptoBulk xs[1].1+(Rows.uptoBulk xs[2].1+(Rows.uptoBulk xs[3].1+(Rows.uptoBulk xs[4].1+(Rows.uptoBulk xs[5].1))))):=by obtain⟨x0,x1,x2,x3,x4,x5,rfl⟩:=ahG xs hxl;simp
  rw[hs];exact Nat.le_succ_of_le (lK b0 (lK b1 (lK b2 (lK b3 (lK b4 b5)))))
theorem ahH{α:Type}(l:List α)(h:l.length=7):∃x0 x1 x2 x3 x4 x5 x6,l=[x0,x1,x2,x3,x4,x5,x6]:=by
 match l,h with
 |[x0,x1,x2,x3,x4,x5,x6],_=>exact⟨x0,x1,x2,x3,x4,x5,x6,rfl⟩
theorem ahl{F:Nat→Prop}{P:Program}{xX qU uE xY ze Ms WY:Type}{t:TypeId}{f0 f1 f2 f3 f4 f5 f6:Field}{c0:cU xX}{c1:cU qU}{c2:cU uE}{c3:cU xY}{c4:cU ze}{c5:cU Ms}{c6:cU WY}(ht:P.underlying t=some (.struct #[f0,f1,f2,f3,f4,f5,f6]))(hz:P.cellsOf t=c0.size+c1.size+c2.size+c3.size+c4.size+c5.size+c6.size)(o0:f0.offset=0)(o1:f1.offset=c0.size)(o2:f2.offset=c0.size+c1.size)(o3:f3.offset=c0.size+c1.size+c2.size)(o4:f4.offset=c0.size+c1.size+c2.size+c3.size)(o5:f5.offset=c0.size+c1.size+c2.size+c3.size+c4.size)(o6:f6.offset=c0.size+c1.size+c2.size+c3.size+c4.size+c5.size)(z0:P.cellsOf f0.type=c0.size)(z1:P.cellsOf f1.type=c1.size)(z2:P.cellsOf f2.type=c2.size)(z3:P.cellsOf f3.type=c3.size)(z4:P.cellsOf f4.type=c4.size)(z5:P.cellsOf f5.type=c5.size)(z6:P.cellsOf f6.type=c6.size)(r0:fT (λm=>F (m+1)) P c0 f0.type) (r1:fT (λm=>F (m+1)) P c1 f1.type) (r2:fT (λm=>F (m+1)) P c2 f2.type) (r3:fT (λm=>F (m+1)) P c3 f3.type) (r4:fT (λm=>F (m+1)) P c4 f4.type) (r5:fT (λm=>F (m+1)) P c5 f5.type) (r6:fT (λm=>F (m+1)) P c6 f6.type):fT F P (c0.pair (c1.pair (c2.pair (c3.pair (c4.pair (c5.pair c6)))))) t:=by
 intro H enc w base spare held fuel cs x hF h;obtain⟨xs,m,iE,dz,hlen,hxl,hf⟩:=DataW.trod_struct ht h;rw[hz]at hlen;have hxl:xs.length=7:=hxl;have h0:=hf 0 f0 rfl;rw[o0,z0,bT (show 0<xs.length by omega)]at h0;obtain⟨a0,k0,b0⟩:=r0 (by subst iE;exact hF) h0;have h1:=hf 1 f1 rfl;rw[o1,z1,bT (show 1<xs.length by omega)]at h1;obtain⟨a1,k1,b1⟩:=r1 (by subst iE;exact hF) h1;have h2:=hf 2 f2 rfl;rw[o2,z2,bT (show 2<xs.length by omega)]at h2;obtain⟨a2,k2,b2⟩:=r2 (by subst iE;exact hF) h2;have h3:=hf 3 f3 rfl;rw[o3,z3,bT (show 3<xs.length by omega)]at h3;obtain⟨a3,k3,b3⟩:=r3 (by subst iE;exact hF) h3;have h4:=hf 4 f4 rfl;rw[o4,z4,bT (show 4<xs.length by omega)]at h4;obtain⟨a4,k4,b4⟩:=r4 (by subst iE;exact hF) h4;have h5:=hf 5 f5 rfl;rw[o5,z5,bT (show 5<xs.length by omega)]at h5;obtain⟨a5,k5,b5⟩:=r5 (by subst iE;exact hF) h5;have h6:=hf 6 f6 rfl;rw[o6,z6,bT (show 6<xs.length by omega)]at h6;obtain⟨a6,k6,b6⟩:=r6 (by subst iE;exact hF) h6;rw[E0 cs (c0.size+c1.size+c2.size+c3.size+c4.size+c5.size) c6.size (by omega)]at k6;refine⟨(a0,(a1,(a2,(a3,(a4,(a5,a6)))))),?_,?_⟩
 ·exact⟨by simpa using k0,⟨by simpa [kX,jX]using k1,⟨by simpa [kX,jX]using k2,⟨by simpa [kX,jX]using k3,⟨by simpa [kX,jX]using k4,⟨by simpa [kX,jX]using k5,(by simpa [kX,jX]using k6)⟩⟩⟩⟩⟩⟩
 ·subst dz;simp only[Rows.uptoBulk,DB,cU.pair]
  have hs:(List.map Rows.uptoBulk (xs.map (·.1))).sum=Rows.uptoBulk xs[0].1+(Rows.uptoBulk xs[1].1+(Rows.uptoBulk xs[2].1+(Rows.uptoBulk xs[3].1+(Rows.uptoBulk xs[4].1+(Rows.uptoBulk xs[5].1+(Rows.uptoBulk xs[6].1)))))):=by obtain⟨x0,x1,x2,x3,x4,x5,x6,rfl⟩:=ahH xs hxl;simp
  rw[hs];exact Nat.le_succ_of_le (lK b0 (lK b1 (lK b2 (lK b3 (lK b4 (lK b5 b6))))))
theorem ahd{α:Type}(l:List α)(h:l.length=10):∃x0 x1 x2 x3 x4 x5 x6 x7 x8 x9,l=[x0,x1,x2,x3,x4,x5,x6,x7,x8,x9]:=by
 match l,h with
 |[x0,x1,x2,x3,x4,x5,x6,x7,x8,x9],_=>exact⟨x0,x1,x2,x3,x4,x5,x6,x7,x8,x9,rfl⟩
theorem agW{F:Nat→Prop}{P:Program}{xX qU uE xY ze Ms WY α7 α8 α9:Type}{t:TypeId}{f0 f1 f2 f3 f4 f5 f6 f7 f8 f9:Field}{c0:cU xX}{c1:cU qU}{c2:cU uE}{c3:cU xY}{c4:cU ze}{c5:cU Ms}{c6:cU WY}{c7:cU α7}{c8:cU α8}{c9:cU α9}(ht:P.underlying t=some (.struct #[f0,f1,f2,f3,f4,f5,f6,f7,f8,f9]))(hz:P.cellsOf t=c0.size+c1.size+c2.size+c3.size+c4.size+c5.size+c6.size+c7.size+c8.size+c9.size)(o0:f0.offset=0)(o1:f1.offset=c0.size)(o2:f2.offset=c0.size+c1.size)(o3:f3.offset=c0.size+c1.size+c2.size)(o4:f4.offset=c0.size+c1.size+c2.size+c3.size)(o5:f5.offset=c0.size+c1.size+c2.size+c3.size+c4.size)(o6:f6.offset=c0.size+c1.size+c2.size+c3.size+c4.size+c5.size)(o7:f7.offset=c0.size+c1.size+c2.size+c3.size+c4.size+c5.size+c6.size)(o8:f8.offset=c0.size+c1.size+c2.size+c3.size+c4.size+c5.size+c6.size+c7.size)(o9:f9.offset=c0.size+c1.size+c2.size+c3.size+c4.size+c5.size+c6.size+c7.size+c8.size)(z0:P.cellsOf f0.type=c0.size)(z1:P.cellsOf f1.type=c1.size)(z2:P.cellsOf f2.type=c2.size)(z3:P.cellsOf f3.type=c3.size)(z4:P.cellsOf f4.type=c4.size)(z5:P.cellsOf f5.type=c5.size)(z6:P.cellsOf f6.type=c6.size)(z7:P.cellsOf f7.type=c7.size)(z8:P.cellsOf f8.type=c8.size)(z9:P.cellsOf f9.type=c9.size)(r0:fT (λm=>F (m+1)) P c0 f0.type) (r1:fT (λm=>F (m+1)) P c1 f1.type) (r2:fT (λm=>F (m+1)) P c2 f2.type) (r3:fT (λm=>F (m+1)) P c3 f3.type) (r4:fT (λm=>F (m+1)) P c4 f4.type) (r5:fT (λm=>F (m+1)) P c5 f5.type) (r6:fT (λm=>F (m+1)) P c6 f6.type) (r7:fT (λm=>F (m+1)) P c7 f7.type) (r8:fT (λm=>F (m+1)) P c8 f8.type) (r9:fT (λm=>F (m+1)) P c9 f9.type):fT F P (c0.pair (c1.pair (c2.pair (c3.pair (c4.pair (c5.pair (c6.pair (c7.pair (c8.pair c9))))))))) t:=by
 intro H enc w base spare held fuel cs x hF h;obtain⟨xs,m,iE,dz,hlen,hxl,hf⟩:=DataW.trod_struct ht h;rw[hz]at hlen;have hxl:xs.length=10:=hxl;have h0:=hf 0 f0 rfl;rw[o0,z0,bT (show 0<xs.length by omega)]at h0;obtain⟨a0,k0,b0⟩:=r0 (by subst iE;exact hF) h0;have h1:=hf 1 f1 rfl;rw[o1,z1,bT (show 1<xs.length by omega)]at h1;obtain⟨a1,k1,b1⟩:=r1 (by subst iE;exact hF) h1;have h2:=hf 2 f2 rfl;rw[o2,z2,bT (show 2<xs.length by omega)]at h2;obtain⟨a2,k2,b2⟩:=r2 (by subst iE;exact hF) h2;have h3:=hf 3 f3 rfl;rw[o3,z3,bT (show 3<xs.length by omega)]at h3;obtain⟨a3,k3,b3⟩:=r3 (by subst iE;exact hF) h3;have h4:=hf 4 f4 rfl;rw[o4,z4,bT (show 4<xs.length by omega)]at h4;obtain⟨a4,k4,b4⟩:=r4 (by subst iE;exact hF) h4;have h5:=hf 5 f5 rfl;rw[o5,z5,bT (show 5<xs.length by omega)]at h5;obtain⟨a5,k5,b5⟩:=r5 (by subst iE;exact hF) h5;have h6:=hf 6 f6 rfl;rw[o6,z6,bT (show 6<xs.length by omega)]at h6;obtain⟨a6,k6,b6⟩:=r6 (by subst iE;exact hF) h6;have h7:=hf 7 f7 rfl;rw[o7,z7,bT (show 7<xs.length by omega)]at h7;obtain⟨a7,k7,b7⟩:=r7 (by subst iE;exact hF) h7;have h8:=hf 8 f8 rfl;rw[o8,z8,bT (show 8<xs.length by omega)]at h8;obtain⟨a8,k8,b8⟩:=r8 (by subst iE;exact hF) h8;have h9:=hf 9 f9 rfl;rw[o9,z9,bT (show 9<xs.length by omega)]at h9;obtain⟨a9,k9,b9⟩:=r9 (by subst iE;exact hF) h9;rw[E0 cs (c0.size+c1.size+c2.size+c3.size+c4.size+c5.size+c6.size+c7.size+c8.size) c9.size (by omega)]at k9;refine⟨(a0,(a1,(a2,(a3,(a4,(a5,(a6,(a7,(a8,a9))))))))),?_,?_⟩
 ·exact⟨by simpa using k0,⟨by simpa [kX,jX]using k1,⟨by simpa [kX,jX]using k2,⟨by simpa [kX,jX]using k3,⟨by simpa [kX,jX]using k4,⟨by simpa [kX,jX]using k5,⟨by simpa [kX,jX]using k6,⟨by simpa [kX,jX]using k7,⟨by simpa [kX,jX]using k8,(by simpa [kX,jX]using k9)⟩⟩⟩⟩⟩⟩⟩⟩⟩
 ·subst dz;simp only[Rows.uptoBulk,DB,cU.pair]
  have hs:(List.map Rows.uptoBulk (xs.map (·.1))).sum=Rows.uptoBulk xs[0].1+(Rows.uptoBulk xs[1].1+(Rows.uptoBulk xs[2].1+(Rows.uptoBulk xs[3].1+(Rows.uptoBulk xs[4].1+(Rows.uptoBulk xs[5].1+(Rows.uptoBulk xs[6].1+(Rows.uptoBulk xs[7].1+(Rows.uptoBulk xs[8].1+(Rows.uptoBulk xs[9].1))))))))):=by obtain⟨x0,x1,x2,x3,x4,x5,x6,x7,x8,x9,rfl⟩:=ahd xs hxl;simp
  rw[hs];exact Nat.le_succ_of_le (lK b0 (lK b1 (lK b2 (lK b3 (lK b4 (lK b5 (lK b6 (lK b7 (lK b8 b9)))))))))
end
section
open Go.RowKit Go.Deep
theorem fT.imp{F:Nat→Prop}{P:Program}{α β:Type}{c:cU α}{d:cU β}{t:TypeId}(h:fT F P c t)(k:∀w cs a,c.is w cs a→∃b,d.is w cs b∧d.cr b≤c.cr a):fT F P d t:=by intro H enc w base spare held fuel cs x hF h1;obtain⟨a,ha,hb⟩:=h hF h1;obtain⟨b,h2,h3⟩:=k _ _ _ ha;exact⟨b,h2,Nat.le_trans h3 hb⟩
theorem iA{α:Type}{cs a b:List α}{n:Nat}(h1:cs.take n=a)(h2:cs.drop n=b):cs=a++b:=by rw[←h1,←h2,List.take_append_drop]
theorem ajG:Reads Tryz.prog (cW dF) 61:=wN Tryz.underlying61 (c:=dF) (by kernel_rfl) (by decide) (jM Tryz.underlying3)
def zA:cU nF where
 size:=2
 is:=λw cs x=>cs=[.int .i64 x.time,.int .i64 x.way]∧aV x.time∧aV x.way
 len:=λh=>by obtain⟨rfl,_⟩:=h;rfl
 mono:=λh _=>h
 cr:=λx=>dF.cr x.time+(dF.cr x.way)
theorem aiu:Reads Tryz.prog zA 151:=
 (EZ (F:=λ_=>True) Tryz.underlying151 (c0:=dF) (c1:=dF) (by kernel_rfl) rfl rfl (by kernel_rfl) (by kernel_rfl) (jM Tryz.underlying3) (jM Tryz.underlying3)).imp λw cs a h=>by obtain⟨a0,a1⟩:=a;obtain⟨h0,h1⟩:=h;obtain⟨e0,b0⟩:=h0;obtain⟨e1,b1⟩:=h1;have kN:=iA e0 e1;exact⟨⟨a0,a1⟩,⟨by rw[kN];rfl,b0,b1⟩,bD _⟩
theorem ahO:Reads Tryz.prog (cW zA) 130:=wN Tryz.underlying130 (c:=zA) (by kernel_rfl) (by decide) aiu
def TN:cU rT where
 size:=2
 is:=λw cs x=>∃v0:Value,cs=[.int .i64 x.kind,v0]∧aV x.kind∧(cW zA).is w [v0] x.bL
 len:=λh=>by obtain⟨v0,rfl,_⟩:=h;rfl
 mono:=λ{w w' cs x}h g=>by obtain⟨v0,e,h0,h1⟩:=h;exact⟨v0,e,h0,((cW zA)).mono h1 g⟩
 cr:=λx=>dF.cr x.kind+((cW zA).cr x.bL)
theorem aiq:Reads Tryz.prog TN 132:=
 (EZ (F:=λ_=>True) Tryz.underlying132 (c0:=dF) (c1:=(cW zA)) (by kernel_rfl) rfl rfl (by kernel_rfl) (by kernel_rfl) (jM Tryz.underlying3) ahO).imp λw cs a h=>by obtain⟨a0,a1⟩:=a;obtain⟨h0,h1⟩:=h;obtain⟨e0,b0⟩:=h0;obtain⟨s1,e1⟩:=uT.1 (((cW zA)).len h1);rw[e1]at h1;have kN:=iA e0 e1;exact⟨⟨a0,a1⟩,⟨s1,by rw[kN];rfl,b0,h1⟩,bD _⟩
def Cf:cU rj where
 size:=3
 is:=λw cs x=>cs=[.int .i64 x.low,.int .i64 x.high,.string x.name]∧aV x.low∧aV x.high∧x.name.size≤maxLen
 len:=λh=>by obtain⟨rfl,_⟩:=h;rfl
 mono:=λh _=>h
 cr:=λx=>dF.cr x.low+(dF.cr x.high+(uk.cr x.name))
theorem aiv:Reads Tryz.prog Cf 185:=
 (Na (F:=λ_=>True) Tryz.underlying185 (c0:=dF) (c1:=dF) (c2:=uk) (by kernel_rfl) rfl rfl rfl (by kernel_rfl) (by kernel_rfl) (by kernel_rfl) (jM Tryz.underlying3) (jM Tryz.underlying3) (Fc Tryz.underlying9)).imp λw cs a h=>by obtain⟨a0,a1,a2⟩:=a;obtain⟨h0,h1,h2⟩:=h;obtain⟨e0,b0⟩:=h0;obtain⟨e1,b1⟩:=h1;obtain⟨e2,b2⟩:=h2;have qy:=iA e1 e2;have kN:=iA e0 qy;exact⟨⟨a0,a1,a2⟩,⟨by rw[kN];rfl,b0,b1,b2⟩,bD _⟩
theorem ahQ:Reads Tryz.prog (cW Cf) 48:=wN Tryz.underlying48 (c:=Cf) (by kernel_rfl) (by decide) aiv
def Ce:cU fS where
 size:=7
 is:=λw cs x=>∃v0:Value,cs=[.string x.name,.int .i64 x.group,.int .i64 x.p9,.int .i64 x.oz,.int .i64 x.default,.bool x.snap,v0]∧x.name.size≤maxLen∧aV x.group∧aV x.p9∧aV x.oz∧aV x.default∧(cW Cf).is w [v0] x.ranges
 len:=λh=>by obtain⟨v0,rfl,_⟩:=h;rfl
 mono:=λ{w w' cs x}h g=>by obtain⟨v0,e,h0,h1,h2,h3,h4,h5⟩:=h;exact⟨v0,e,h0,h1,h2,h3,h4,((cW Cf)).mono h5 g⟩
 cr:=λx=>uk.cr x.name+(dF.cr x.group+(dF.cr x.p9+(dF.cr x.oz+(dF.cr x.default+(wX.cr x.snap+((cW Cf).cr x.ranges))))))
theorem ait:Reads Tryz.prog Ce 50:=
 (ahl (F:=λ_=>True) Tryz.underlying50 (c0:=uk) (c1:=dF) (c2:=dF) (c3:=dF) (c4:=dF) (c5:=wX) (c6:=(cW Cf)) (by kernel_rfl) rfl rfl rfl rfl rfl rfl rfl (by kernel_rfl) (by kernel_rfl) (by kernel_rfl) (by kernel_rfl) (by kernel_rfl) (by kernel_rfl) (by kernel_rfl) (Fc Tryz.underlying9) (jM Tryz.underlying3) (jM Tryz.underlying3) (jM Tryz.underlying3) (jM Tryz.underlying3) (NB Tryz.underlying4) ahQ).imp λw cs a h=>by obtain⟨a0,a1,a2,a3,a4,a5,a6⟩:=a;obtain⟨h0,h1,h2,h3,h4,h5,h6⟩:=h;obtain⟨e0,b0⟩:=h0;obtain⟨e1,b1⟩:=h1;obtain⟨e2,b2⟩:=h2;obtain⟨e3,b3⟩:=h3;obtain⟨e4,b4⟩:=h4;have e5:=h5;simp only[wX]at e5;obtain⟨s6,e6⟩:=uT.1 (((cW Cf)).len h6);rw[e6]at h6;have UL:=iA e5 e6;have KZ:=iA e4 UL;have FW:=iA e3 KZ;have zS:=iA e2 FW;have qy:=iA e1 zS;have kN:=iA e0 qy;exact⟨⟨a0,a1,a2,a3,a4,a5,a6⟩,⟨s6,by rw[kN];rfl,b0,b1,b2,b3,b4,h6⟩,bD _⟩
theorem ahN:Reads Tryz.prog (cW Ce) 99:=wN Tryz.underlying99 (c:=Ce) (by kernel_rfl) (by decide) ait
def zu:cU dZ where
 size:=3
 is:=λw cs x=>∃v0:Value,cs=[.string x.name,.int .i64 x.size,v0]∧x.name.size≤maxLen∧aV x.size∧(cW Ce).is w [v0] x.params
 len:=λh=>by obtain⟨v0,rfl,_⟩:=h;rfl
 mono:=λ{w w' cs x}h g=>by obtain⟨v0,e,h0,h1,h2⟩:=h;exact⟨v0,e,h0,h1,((cW Ce)).mono h2 g⟩
 cr:=λx=>uk.cr x.name+(dF.cr x.size+((cW Ce).cr x.params))
theorem ahh:Reads Tryz.prog zu 101:=
 (Na (F:=λ_=>True) Tryz.underlying101 (c0:=uk) (c1:=dF) (c2:=(cW Ce)) (by kernel_rfl) rfl rfl rfl (by kernel_rfl) (by kernel_rfl) (by kernel_rfl) (Fc Tryz.underlying9) (jM Tryz.underlying3) ahN).imp λw cs a h=>by obtain⟨a0,a1,a2⟩:=a;obtain⟨h0,h1,h2⟩:=h;obtain⟨e0,b0⟩:=h0;obtain⟨e1,b1⟩:=h1;obtain⟨s2,e2⟩:=uT.1 (((cW Ce)).len h2);rw[e2]at h2;have qy:=iA e1 e2;have kN:=iA e0 qy;exact⟨⟨a0,a1,a2⟩,⟨s2,by rw[kN];rfl,b0,b1,h2⟩,bD _⟩
theorem agU:Reads Tryz.prog (cW zu) 22:=wN Tryz.underlying22 (c:=zu) (by kernel_rfl) (by decide) ahh
def zG:cU jH where
 size:=4
 is:=λw cs x=>cs=[.int .i64 x.aC,.string x.kK,.int .i64 x.univ,.int .i64 x.address]∧aV x.aC∧x.kK.size≤maxLen∧aV x.univ∧aV x.address
 len:=λh=>by obtain⟨rfl,_⟩:=h;rfl
 mono:=λh _=>h
 cr:=λx=>dF.cr x.aC+(uk.cr x.kK+(dF.cr x.univ+(dF.cr x.address)))
theorem ajJ:Reads Tryz.prog zG 103:=
 (XX (F:=λ_=>True) Tryz.underlying103 (c0:=dF) (c1:=uk) (c2:=dF) (c3:=dF) (by kernel_rfl) rfl rfl rfl rfl (by kernel_rfl) (by kernel_rfl) (by kernel_rfl) (by kernel_rfl) (jM Tryz.underlying3) (Fc Tryz.underlying9) (jM Tryz.underlying3) (jM Tryz.underlying3)).imp λw cs a h=>by obtain⟨a0,a1,a2,a3⟩:=a;obtain⟨h0,h1,h2,h3⟩:=h;obtain⟨e0,b0⟩:=h0;obtain⟨e1,b1⟩:=h1;obtain⟨e2,b2⟩:=h2;obtain⟨e3,b3⟩:=h3;have zS:=iA e2 e3;have qy:=iA e1 zS;have kN:=iA e0 qy;exact⟨⟨a0,a1,a2,a3⟩,⟨by rw[kN];rfl,b0,b1,b2,b3⟩,bD _⟩
theorem aix:Reads Tryz.prog (cW zG) 23:=wN Tryz.underlying23 (c:=zG) (by kernel_rfl) (by decide) ajJ
def Vl:cU je where
 size:=2
 is:=λw cs x=>∃v0 v1:Value,cs=[v0,v1]∧(cW zu).is w [v0] x.bw∧(cW zG).is w [v1] x.dB
 len:=λh=>by obtain⟨v0,v1,rfl,_⟩:=h;rfl
 mono:=λ{w w' cs x}h g=>by obtain⟨v0,v1,e,h0,h1⟩:=h;exact⟨v0,v1,e,((cW zu)).mono h0 g,((cW zG)).mono h1 g⟩
 cr:=λx=>(cW zu).cr x.bw+((cW zG).cr x.dB)
theorem ak2:Reads Tryz.prog Vl 25:=
 (EZ (F:=λ_=>True) Tryz.underlying25 (c0:=(cW zu)) (c1:=(cW zG)) (by kernel_rfl) rfl rfl (by kernel_rfl) (by kernel_rfl) agU aix).imp λw cs a h=>by obtain⟨a0,a1⟩:=a;obtain⟨h0,h1⟩:=h;obtain⟨s0,e0⟩:=uT.1 (((cW zu)).len h0);rw[e0]at h0;obtain⟨s1,e1⟩:=uT.1 (((cW zG)).len h1);rw[e1]at h1;have kN:=iA e0 e1;exact⟨⟨a0,a1⟩,⟨s0,s1,by rw[kN];rfl,h0,h1⟩,bD _⟩
def Ll:cU aG where
 size:=2
 is:=λw cs x=>cs=[.int .i64 x.unit,.string x.param]∧aV x.unit∧x.param.size≤maxLen
 len:=λh=>by obtain⟨rfl,_⟩:=h;rfl
 mono:=λh _=>h
 cr:=λx=>dF.cr x.unit+(uk.cr x.param)
theorem Z1:Reads Tryz.prog Ll 45:=
 (EZ (F:=λ_=>True) Tryz.underlying45 (c0:=dF) (c1:=uk) (by kernel_rfl) rfl rfl (by kernel_rfl) (by kernel_rfl) (jM Tryz.underlying3) (Fc Tryz.underlying9)).imp λw cs a h=>by obtain⟨a0,a1⟩:=a;obtain⟨h0,h1⟩:=h;obtain⟨e0,b0⟩:=h0;obtain⟨e1,b1⟩:=h1;have kN:=iA e0 e1;exact⟨⟨a0,a1⟩,⟨by rw[kN];rfl,b0,b1⟩,bD _⟩
def BW:cU nP where
 size:=3
 is:=λw cs x=>cs=[.int .i64 x.key.unit,.string x.key.param,.int .i64 x.level]∧aV x.key.unit∧x.key.param.size≤maxLen∧aV x.level
 len:=λh=>by obtain⟨rfl,_⟩:=h;rfl
 mono:=λh _=>h
 cr:=λx=>Ll.cr x.key+(dF.cr x.level)
theorem ahi:Reads Tryz.prog BW 47:=
 (EZ (F:=λ_=>True) Tryz.underlying47 (c0:=Ll) (c1:=dF) (by kernel_rfl) rfl rfl (by kernel_rfl) (by kernel_rfl) Z1 (jM Tryz.underlying3)).imp λw cs a h=>by obtain⟨a0,a1⟩:=a;obtain⟨h0,h1⟩:=h;obtain⟨e0,b0⟩:=h0;obtain⟨KK,KL⟩:=b0;obtain⟨e1,b1⟩:=h1;have kN:=iA e0 e1;exact⟨⟨a0,a1⟩,⟨by rw[kN];rfl,KK,KL,b1⟩,bD _⟩
theorem agV:Reads Tryz.prog (cW BW) 40:=wN Tryz.underlying40 (c:=BW) (by kernel_rfl) (by decide) ahi
def B5:cU l5 where
 size:=3
 is:=λw cs x=>∃v0:Value,cs=[.int .i64 x.aC,.string x.title,v0]∧aV x.aC∧x.title.size≤maxLen∧(cW BW).is w [v0] x.lS
 len:=λh=>by obtain⟨v0,rfl,_⟩:=h;rfl
 mono:=λ{w w' cs x}h g=>by obtain⟨v0,e,h0,h1,h2⟩:=h;exact⟨v0,e,h0,h1,((cW BW)).mono h2 g⟩
 cr:=λx=>dF.cr x.aC+(uk.cr x.title+((cW BW).cr x.lS))
theorem ahP:Reads Tryz.prog B5 187:=
 (Na (F:=λ_=>True) Tryz.underlying187 (c0:=dF) (c1:=uk) (c2:=(cW BW)) (by kernel_rfl) rfl rfl rfl (by kernel_rfl) (by kernel_rfl) (by kernel_rfl) (jM Tryz.underlying3) (Fc Tryz.underlying9) agV).imp λw cs a h=>by obtain⟨a0,a1,a2⟩:=a;obtain⟨h0,h1,h2⟩:=h;obtain⟨e0,b0⟩:=h0;obtain⟨e1,b1⟩:=h1;obtain⟨s2,e2⟩:=uT.1 (((cW BW)).len h2);rw[e2]at h2;have qy:=iA e1 e2;have kN:=iA e0 qy;exact⟨⟨a0,a1,a2⟩,⟨s2,by rw[kN];rfl,b0,b1,h2⟩,bD _⟩
theorem ahg:Reads Tryz.prog (cW B5) 26:=wN Tryz.underlying26 (c:=B5) (by kernel_rfl) (by decide) ahP
def T3:cU ow where
 size:=2
 is:=λw cs x=>cs=[.int .i64 x.level,.int .i64 x.iY]∧aV x.level∧aV x.iY
 len:=λh=>by obtain⟨rfl,_⟩:=h;rfl
 mono:=λh _=>h
 cr:=λx=>dF.cr x.level+(dF.cr x.iY)
theorem aiy:Reads Tryz.prog T3 193:=
 (EZ (F:=λ_=>True) Tryz.underlying193 (c0:=dF) (c1:=dF) (by kernel_rfl) rfl rfl (by kernel_rfl) (by kernel_rfl) (jM Tryz.underlying3) (jM Tryz.underlying3)).imp λw cs a h=>by obtain⟨a0,a1⟩:=a;obtain⟨h0,h1⟩:=h;obtain⟨e0,b0⟩:=h0;obtain⟨e1,b1⟩:=h1;have kN:=iA e0 e1;exact⟨⟨a0,a1⟩,⟨by rw[kN];rfl,b0,b1⟩,bD _⟩
def Co:cU gQ where
 size:=8
 is:=λw cs x=>cs=[.int .i64 x.key.unit,.string x.key.param,.int .i64 x.value.level,.int .i64 x.value.iY,.bool x.release,.bool x.Bk,.int .i64 x.ct,.int .i64 x.time]∧aV x.key.unit∧x.key.param.size≤maxLen∧aV x.value.level∧aV x.value.iY∧aV x.ct∧aV x.time
 len:=λh=>by obtain⟨rfl,_⟩:=h;rfl
 mono:=λh _=>h
 cr:=λx=>Ll.cr x.key+(T3.cr x.value+(wX.cr x.release+(wX.cr x.Bk+(dF.cr x.ct+(dF.cr x.time)))))
theorem ajI:Reads Tryz.prog Co 195:=
 (ahk (F:=λ_=>True) Tryz.underlying195 (c0:=Ll) (c1:=T3) (c2:=wX) (c3:=wX) (c4:=dF) (c5:=dF) (by kernel_rfl) rfl rfl rfl rfl rfl rfl (by kernel_rfl) (by kernel_rfl) (by kernel_rfl) (by kernel_rfl) (by kernel_rfl) (by kernel_rfl) Z1 aiy (NB Tryz.underlying4) (NB Tryz.underlying4) (jM Tryz.underlying3) (jM Tryz.underlying3)).imp λw cs a h=>by obtain⟨a0,a1,a2,a3,a4,a5⟩:=a;obtain⟨h0,h1,h2,h3,h4,h5⟩:=h;obtain⟨e0,b0⟩:=h0;obtain⟨KK,KL⟩:=b0;obtain⟨e1,b1⟩:=h1;obtain⟨aqs,aqt⟩:=b1;have e2:=h2;simp only[wX]at e2;have e3:=h3;simp only[wX]at e3;obtain⟨e4,b4⟩:=h4;obtain⟨e5,b5⟩:=h5;have KZ:=iA e4 e5;have FW:=iA e3 KZ;have zS:=iA e2 FW;have qy:=iA e1 zS;have kN:=iA e0 qy;exact⟨⟨a0,a1,a2,a3,a4,a5⟩,⟨by rw[kN];rfl,KK,KL,aqs,aqt,b4,b5⟩,bD _⟩
theorem ais:Reads Tryz.prog (cW Co) 133:=wN Tryz.underlying133 (c:=Co) (by kernel_rfl) (by decide) ajI
def CI:cU bz where
 size:=11
 is:=λw cs x=>∃v0 v1:Value,cs=[.int .i64 x.aC,.string x.title,.int .i64 x.ct,.int .i64 x.up,.int .i64 x.down,.int .i64 x.other,.int .i64 x.fB.kind,v0,.bool x.block,.int .i64 x.eA,v1]∧aV x.aC∧x.title.size≤maxLen∧aV x.ct∧aV x.up∧aV x.down∧aV x.other∧aV x.fB.kind∧(cW zA).is w [v0] x.fB.bL∧aV x.eA∧(cW Co).is w [v1] x.dW
 len:=λh=>by obtain⟨v0,v1,rfl,_⟩:=h;rfl
 mono:=λ{w w' cs x}h g=>by obtain⟨v0,v1,e,h0,h1,h2,h3,h4,h5,h6,h7,h8,h9⟩:=h;exact⟨v0,v1,e,h0,h1,h2,h3,h4,h5,h6,((cW zA)).mono h7 g,h8,((cW Co)).mono h9 g⟩
 cr:=λx=>dF.cr x.aC+(uk.cr x.title+(dF.cr x.ct+(dF.cr x.up+(dF.cr x.down+(dF.cr x.other+(TN.cr x.fB+(wX.cr x.block+(dF.cr x.eA+((cW Co).cr x.dW)))))))))
theorem ak1:Reads Tryz.prog CI 135:=
 (agW (F:=λ_=>True) Tryz.underlying135 (c0:=dF) (c1:=uk) (c2:=dF) (c3:=dF) (c4:=dF) (c5:=dF) (c6:=TN) (c7:=wX) (c8:=dF) (c9:=(cW Co)) (by kernel_rfl) rfl rfl rfl rfl rfl rfl rfl rfl rfl rfl (by kernel_rfl) (by kernel_rfl) (by kernel_rfl) (by kernel_rfl) (by kernel_rfl) (by kernel_rfl) (by kernel_rfl) (by kernel_rfl) (by kernel_rfl) (by kernel_rfl) (jM Tryz.underlying3) (Fc Tryz.underlying9) (jM Tryz.underlying3) (jM Tryz.underlying3) (jM Tryz.underlying3) (jM Tryz.underlying3) aiq (NB Tryz.underlying4) (jM Tryz.underlying3) ais).imp λw cs a h=>by obtain⟨a0,a1,a2,a3,a4,a5,a6,a7,a8,a9⟩:=a;obtain⟨h0,h1,h2,h3,h4,h5,h6,h7,h8,h9⟩:=h;obtain⟨e0,b0⟩:=h0;obtain⟨e1,b1⟩:=h1;obtain⟨e2,b2⟩:=h2;obtain⟨e3,b3⟩:=h3;obtain⟨e4,b4⟩:=h4;obtain⟨e5,b5⟩:=h5;obtain⟨asE,e6,b6⟩:=h6;obtain⟨aqu,aqv⟩:=b6;have e7:=h7;simp only[wX]at e7;obtain⟨e8,b8⟩:=h8;obtain⟨s9,e9⟩:=uT.1 (((cW Co)).len h9);rw[e9]at h9;have aro:=iA e8 e9;have arn:=iA e7 aro;have arl:=iA e6 arn;have UL:=iA e5 arl;have KZ:=iA e4 UL;have FW:=iA e3 KZ;have zS:=iA e2 FW;have qy:=iA e1 zS;have kN:=iA e0 qy;exact⟨⟨a0,a1,a2,a3,a4,a5,a6,a7,a8,a9⟩,⟨asE,s9,by rw[kN];rfl,b0,b1,b2,b3,b4,b5,aqu,aqv,b8,h9⟩,bD _⟩
theorem ajF:Reads Tryz.prog (cW CI) 68:=wN Tryz.underlying68 (c:=CI) (by kernel_rfl) (by decide) ak1
def Cm:cU kL where
 size:=2
 is:=λw cs x=>∃v0:Value,cs=[.int .i64 x.aC,v0]∧aV x.aC∧(cW CI).is w [v0] x.bH
 len:=λh=>by obtain⟨v0,rfl,_⟩:=h;rfl
 mono:=λ{w w' cs x}h g=>by obtain⟨v0,e,h0,h1⟩:=h;exact⟨v0,e,h0,((cW CI)).mono h1 g⟩
 cr:=λx=>dF.cr x.aC+((cW CI).cr x.bH)
theorem ajH:Reads Tryz.prog Cm 70:=
 (EZ (F:=λ_=>True) Tryz.underlying70 (c0:=dF) (c1:=(cW CI)) (by kernel_rfl) rfl rfl (by kernel_rfl) (by kernel_rfl) (jM Tryz.underlying3) ajF).imp λw cs a h=>by obtain⟨a0,a1⟩:=a;obtain⟨h0,h1⟩:=h;obtain⟨e0,b0⟩:=h0;obtain⟨s1,e1⟩:=uT.1 (((cW CI)).len h1);rw[e1]at h1;have kN:=iA e0 e1;exact⟨⟨a0,a1⟩,⟨s1,by rw[kN];rfl,b0,h1⟩,bD _⟩
theorem air:Reads Tryz.prog (cW Cm) 27:=wN Tryz.underlying27 (c:=Cm) (by kernel_rfl) (by decide) ajH
def BS:cU nO where
 size:=3
 is:=λw cs x=>cs=[.int .i64 x.aC,.int .i64 x.list,.int .i64 x.kH]∧aV x.aC∧aV x.list∧aV x.kH
 len:=λh=>by obtain⟨rfl,_⟩:=h;rfl
 mono:=λh _=>h
 cr:=λx=>dF.cr x.aC+(dF.cr x.list+(dF.cr x.kH))
theorem agT:Reads Tryz.prog BS 57:=
 (Na (F:=λ_=>True) Tryz.underlying57 (c0:=dF) (c1:=dF) (c2:=dF) (by kernel_rfl) rfl rfl rfl (by kernel_rfl) (by kernel_rfl) (by kernel_rfl) (jM Tryz.underlying3) (jM Tryz.underlying3) (jM Tryz.underlying3)).imp λw cs a h=>by obtain⟨a0,a1,a2⟩:=a;obtain⟨h0,h1,h2⟩:=h;obtain⟨e0,b0⟩:=h0;obtain⟨e1,b1⟩:=h1;obtain⟨e2,b2⟩:=h2;have qy:=iA e1 e2;have kN:=iA e0 qy;exact⟨⟨a0,a1,a2⟩,⟨by rw[kN];rfl,b0,b1,b2⟩,bD _⟩
theorem agB:Reads Tryz.prog (cW BS) 28:=wN Tryz.underlying28 (c:=BS) (by kernel_rfl) (by decide) agT
def acX:cU iQ where
 size:=5
 is:=λw cs x=>∃v0 v1 v2 v3 v4:Value,cs=[v0,v1,v2,v3,v4]∧(cW zu).is w [v0] x.aZ.bw∧(cW zG).is w [v1] x.aZ.dB∧(cW B5).is w [v2] x.cq∧(cW Cm).is w [v3] x.cM∧(cW BS).is w [v4] x.bU
 len:=λh=>by obtain⟨v0,v1,v2,v3,v4,rfl,_⟩:=h;rfl
 mono:=λ{w w' cs x}h g=>by obtain⟨v0,v1,v2,v3,v4,e,h0,h1,h2,h3,h4⟩:=h;exact⟨v0,v1,v2,v3,v4,e,((cW zu)).mono h0 g,((cW zG)).mono h1 g,((cW B5)).mono h2 g,((cW Cm)).mono h3 g,((cW BS)).mono h4 g⟩
 cr:=λx=>Vl.cr x.aZ+((cW B5).cr x.cq+((cW Cm).cr x.cM+((cW BS).cr x.bU)))
theorem aiw:Reads Tryz.prog acX 30:=
 (XX (F:=λ_=>True) Tryz.underlying30 (c0:=Vl) (c1:=(cW B5)) (c2:=(cW Cm)) (c3:=(cW BS)) (by kernel_rfl) rfl rfl rfl rfl (by kernel_rfl) (by kernel_rfl) (by kernel_rfl) (by kernel_rfl) ak2 ahg air agB).imp λw cs a h=>by obtain⟨a0,a1,a2,a3⟩:=a;obtain⟨h0,h1,h2,h3⟩:=h;obtain⟨asB,asC,e0,b0⟩:=h0;obtain⟨KK,KL⟩:=b0;obtain⟨s1,e1⟩:=uT.1 (((cW B5)).len h1);rw[e1]at h1;obtain⟨s2,e2⟩:=uT.1 (((cW Cm)).len h2);rw[e2]at h2;obtain⟨s3,e3⟩:=uT.1 (((cW BS)).len h3);rw[e3]at h3;have zS:=iA e2 e3;have qy:=iA e1 zS;have kN:=iA e0 qy;exact⟨⟨a0,a1,a2,a3⟩,⟨asB,asC,s1,s2,s3,by rw[kN];rfl,KK,KL,h1,h2,h3⟩,bD _⟩
def Om:cU fR where
 size:=5
 is:=λw cs x=>cs=[.int .i64 x.time,.int .i64 x.kind,.int .i64 x.jV,.int .i64 x.cm,.int .i64 x.level]∧aV x.time∧aV x.kind∧aV x.jV∧aV x.cm∧aV x.level
 len:=λh=>by obtain⟨rfl,_⟩:=h;rfl
 mono:=λh _=>h
 cr:=λx=>dF.cr x.time+(dF.cr x.kind+(dF.cr x.jV+(dF.cr x.cm+(dF.cr x.level))))
theorem ahM:Reads Tryz.prog Om 37:=
 (ahj (F:=λ_=>True) Tryz.underlying37 (c0:=dF) (c1:=dF) (c2:=dF) (c3:=dF) (c4:=dF) (by kernel_rfl) rfl rfl rfl rfl rfl (by kernel_rfl) (by kernel_rfl) (by kernel_rfl) (by kernel_rfl) (by kernel_rfl) (jM Tryz.underlying3) (jM Tryz.underlying3) (jM Tryz.underlying3) (jM Tryz.underlying3) (jM Tryz.underlying3)).imp λw cs a h=>by obtain⟨a0,a1,a2,a3,a4⟩:=a;obtain⟨h0,h1,h2,h3,h4⟩:=h;obtain⟨e0,b0⟩:=h0;obtain⟨e1,b1⟩:=h1;obtain⟨e2,b2⟩:=h2;obtain⟨e3,b3⟩:=h3;obtain⟨e4,b4⟩:=h4;have FW:=iA e3 e4;have zS:=iA e2 FW;have qy:=iA e1 zS;have kN:=iA e0 qy;exact⟨⟨a0,a1,a2,a3,a4⟩,⟨by rw[kN];rfl,b0,b1,b2,b3,b4⟩,bD _⟩
theorem ahf:Reads Tryz.prog (cW Om) 31:=wN Tryz.underlying31 (c:=Om) (by kernel_rfl) (by decide) ahM
end
section
open Go.RowKit Go.Deep
section
variable {c : RC}
theorem uM:aR c [] []:=by simp [aR]
theorem eD{a:AV}{v:Value}{l:au}{vs:List Value}(h:an c a v)(k:aR c l vs):aR c (a::l) (v::vs):=by simp only[aR];exact⟨v,vs,rfl,h,k⟩
theorem jt(k:IntKind)(n:Int):an c (.int k n) (.int k n):=by simp [an]
theorem Oa(b:Bool):an c (.bool b) (.bool b):=by simp [an]
theorem DP(s:ByteArray):an c (.str s) (.string s):=by simp [an]
def RP{α:Type}(c:RC)(d:cU α)(e:α→au)(ok:α→Prop):Prop:=∀cs x,d.is c.w cs x→aR c (e x) cs∧ok x∧(∀v∈cs,eR v=true)
theorem aa6:∀{l:au}{vs:List Value},aR c l vs→l.length=vs.length
 |[],vs,h=>by simp only[aR]at h;subst h;rfl
 |a::l,vs,h=>by simp only[aR]at h;obtain⟨v,vs',rfl,_,h⟩:=h;simp [aa6 h]
theorem aa4{b:Nat}:∀{l:au}{vs:List Value}{off:Nat},aR c l vs→(∀v∈vs,eR v=true)→(∀j,j<vs.length→c.w.cell? ⟨b,off+j,none⟩=vs[j]?)→bI c b off l
 |[],vs,off,h,_,_=>by simp [bI]
 |a::l,vs,off,h,ho,hc=>by simp only[aR]at h;obtain⟨v,vs',rfl,h1,h2⟩:=h;simp only[bI];refine⟨⟨v,by simpa using hc 0 (by simp),ho v (by simp),h1⟩,aa4 h2 (λv hv=>ho v (by simp [hv])) λj hj=>?_⟩;have:=hc (j+1) (by simpa using hj);rw[show off+1+j=off+(j+1) by omega];simpa using this
theorem aa5{α:Type}{d:cU α}{e:α→au}{ok:α→Prop}(H:RP c d e ok){b sz:Nat}(hsz:d.size=sz):∀{l:List α}{off:Nat},(∀(i:Nat)(x:α),l[i]? =some x→∃cs',(∀j,j<d.size→c.w.cell? ⟨b,off+(i*d.size+j),none⟩=cs'[j]?)∧d.is c.w cs' x)→bN c sz b off (l.map e)∧∀x∈l,ok x
 |[],off,h=>by simp [bN]
 |x::l,off,h=>by
  obtain⟨cs,h1,h2⟩:=h 0 x rfl;obtain⟨k1,k2,k3⟩:=H cs x h2;have hl:cs.length=d.size:=d.len h2
  obtain⟨r1,r2⟩:=aa5 H hsz (l:=l) (off:=off+sz) (λi y hy=>by
   obtain⟨cs',q1,q2⟩:=h (i+1) y (by simpa using hy);refine⟨cs',λj hj=>?_,q2⟩;have:=q1 j hj;rw[←hsz]
   rwa[show off+d.size+(i*d.size+j)=off+((i+1)*d.size+j) by rw[Nat.succ_mul];omega])
  refine⟨?_,λy hy=>?_⟩
  ·simp only[ef,bN];refine⟨by rw[aa6 k1,hl,hsz],aa4 k1 k3 λj hj=>?_,r1⟩;have:=h1 j (by rw[←hl];exact hj);simpa using this
  ·rcases jY.1 hy with rfl|hy
   ·exact k2
   ·exact r2 y hy
theorem amZ{w:World}{b off:Nat}{v:Value}(h:w.cell? ⟨b,off,none⟩=some v):b<w.heap.size:=by
 rcases Nat.lt_or_ge b w.heap.size with k|k
 ·exact k
 ·simp [World.cell?,Array.getElem?_eq_none k]at h
theorem wQ{α:Type}{d:cU α}{e:α→au}{ok:α→Prop}(hX:∀b,¬c.X b)(H:RP c d e ok){sz:Nat}(hsz:d.size=sz)(h0:0<sz){v:Value}{l:List α}(h:(cW d).is c.w [v] l):an c (sl sz e l) v∧gu ok l∧eR v=true:=by
 rcases h with⟨h1,rfl⟩|⟨b,off,sp,cap,h1,h2,h3,h4⟩
 ·simp only[List.cons.injEq,and_true]at h1;subst h1;exact⟨by simp [sl,an,h0],⟨by simp,by simp⟩,rfl⟩
 ·simp only[List.cons.injEq,and_true]at h1;subst h1
  have Aq:sp=none∨l=[]:=by
   cases l with
   |nil=>exact .inr rfl
   |cons x l=>exact .inl (h4 0 (by simp)).1
  have hh:∀(i:Nat)(x:α),l[i]? =some x→∃cs',(∀j,j<d.size→c.w.cell? ⟨b,off+(i*d.size+j),none⟩=cs'[j]?)∧d.is c.w cs' x:=by intro i x hx;obtain⟨hi,hx⟩:=bM.1 hx;subst hx;exact(h4 i hi).2
  obtain⟨r1,r2⟩:=aa5 H hsz hh;refine⟨?_,⟨by unfold maxLen at h3;unfold bg;omega,r2⟩,rfl⟩;simp only[sl,an];refine⟨some ⟨b,off,sp⟩,cap,by simp,by simpa using h2,h0,?_⟩;rcases Aq with rfl|rfl
  ·cases l with
   |nil=>exact .inl rfl
   |cons x l=>
    refine .inr ⟨b,off,rfl,?_,hX b,r1⟩;obtain⟨cs,q1,q2⟩:=hh 0 x rfl;have hl:cs.length=d.size:=d.len q2;have:=q1 0 (by omega);obtain⟨y,hy⟩:∃y,cs[0]? =some y:=⟨cs[0],bT (by omega)⟩
    rw[hy]at this;exact amZ this
  ·exact .inl rfl
theorem wT:∀v∈([]:List Value),eR v=true:=by simp
theorem fq{v:Value}{vs:List Value}(h:eR v=true)(k:∀x∈vs,eR x=true):∀x∈v::vs,eR x=true:=by
 intro x hx;rcases jY.1 hx with rfl|hx
 ·exact h
 ·exact k x hx
theorem apo:RP c dF nV aV:=by rintro cs x ⟨rfl,h⟩;exact⟨eD (jt _ _) uM,h,by simp [eR]⟩
theorem ams:RP c zA iJ abK:=by rintro cs x ⟨rfl,h0,h1⟩;exact⟨(eD (jt _ _) (eD (jt _ _) uM)),⟨h0,h1⟩,(fq rfl (fq rfl wT))⟩
theorem amt:RP c Cf oM TA:=by rintro cs x ⟨rfl,h0,h1,h2⟩;exact⟨(eD (jt _ _) (eD (jt _ _) (eD (DP _) uM))),⟨h0,h1,(show kO _ by unfold kO bg;have:=h2;unfold maxLen at this;omega)⟩,(fq rfl (fq rfl (fq rfl wT)))⟩
theorem amr(hX:∀b,¬c.X b):RP c Ce gA abJ:=by rintro cs x ⟨v0,rfl,h0,h1,h2,h3,h4,h6⟩;obtain⟨r6,o6,n6⟩:=wQ hX amt (sz:=3) rfl (by decide) h6;exact⟨(eD (DP _) (eD (jt _ _) (eD (jt _ _) (eD (jt _ _) (eD (jt _ _) (eD (Oa _) (eD r6 uM))))))),⟨(show kO _ by unfold kO bg;have:=h0;unfold maxLen at this;omega),h1,h2,h3,h4,o6⟩,(fq rfl (fq rfl (fq rfl (fq rfl (fq rfl (fq rfl (fq n6 wT)))))))⟩
theorem ajM(hX:∀b,¬c.X b):RP c zu dm NO:=by rintro cs x ⟨v0,rfl,h0,h1,h2⟩;obtain⟨r2,o2,n2⟩:=wQ hX (amr hX) (sz:=7) rfl (by decide) h2;exact⟨(eD (DP _) (eD (jt _ _) (eD r2 uM))),⟨(show kO _ by unfold kO bg;have:=h0;unfold maxLen at this;omega),h1,o2⟩,(fq rfl (fq rfl (fq n2 wT)))⟩
theorem aoi:RP c zG cO acM:=by rintro cs x ⟨rfl,h0,h1,h2,h3⟩;exact⟨(eD (jt _ _) (eD (DP _) (eD (jt _ _) (eD (jt _ _) uM)))),⟨h0,(show kO _ by unfold kO bg;have:=h1;unfold maxLen at this;omega),h2,h3⟩,(fq rfl (fq rfl (fq rfl (fq rfl wT))))⟩
theorem ajN:RP c BW fD ZT:=by rintro cs x ⟨rfl,h0,h1,h2⟩;exact⟨(eD (jt _ _) (eD (DP _) (eD (jt _ _) uM))),⟨⟨h0,(show kO _ by unfold kO bg;have:=h1;unfold maxLen at this;omega)⟩,h2⟩,(fq rfl (fq rfl (fq rfl wT)))⟩
theorem ak7(hX:∀b,¬c.X b):RP c B5 ff BV:=by rintro cs x ⟨v0,rfl,h0,h1,h2⟩;obtain⟨r2,o2,n2⟩:=wQ hX ajN (sz:=3) rfl (by decide) h2;exact⟨(eD (jt _ _) (eD (DP _) (eD r2 uM))),⟨h0,(show kO _ by unfold kO bg;have:=h1;unfold maxLen at this;omega),o2⟩,(fq rfl (fq rfl (fq n2 wT)))⟩
theorem aoh:RP c Co gZ OR:=by rintro cs x ⟨rfl,h0,h1,h2,h3,h6,h7⟩;exact⟨(eD (jt _ _) (eD (DP _) (eD (jt _ _) (eD (jt _ _) (eD (Oa _) (eD (Oa _) (eD (jt _ _) (eD (jt _ _) uM)))))))),⟨⟨h0,(show kO _ by unfold kO bg;have:=h1;unfold maxLen at this;omega)⟩,⟨h2,h3⟩,h6,h7⟩,(fq rfl (fq rfl (fq rfl (fq rfl (fq rfl (fq rfl (fq rfl (fq rfl wT))))))))⟩
theorem apn(hX:∀b,¬c.X b):RP c CI br D8:=by rintro cs x ⟨v0,v1,rfl,h0,h1,h2,h3,h4,h5,h6,h7,h9,LB⟩;obtain⟨r7,o7,n7⟩:=wQ hX ams (sz:=2) rfl (by decide) h7;obtain⟨lR,o10,n10⟩:=wQ hX aoh (sz:=8) rfl (by decide) LB;exact⟨(eD (jt _ _) (eD (DP _) (eD (jt _ _) (eD (jt _ _) (eD (jt _ _) (eD (jt _ _) (eD (jt _ _) (eD r7 (eD (Oa _) (eD (jt _ _) (eD lR uM))))))))))),⟨h0,(show kO _ by unfold kO bg;have:=h1;unfold maxLen at this;omega),h2,h3,h4,h5,⟨h6,o7⟩,h9,o10⟩,(fq rfl (fq rfl (fq rfl (fq rfl (fq rfl (fq rfl (fq rfl (fq n7 (fq rfl (fq rfl (fq n10 wT)))))))))))⟩
theorem aog(hX:∀b,¬c.X b):RP c Cm fA acL:=by rintro cs x ⟨v0,rfl,h0,h1⟩;obtain⟨r1,o1,n1⟩:=wQ hX (apn hX) (sz:=11) rfl (by decide) h1;exact⟨(eD (jt _ _) (eD r1 uM)),⟨h0,o1⟩,(fq rfl (fq n1 wT))⟩
theorem aiB:RP c BS dh YZ:=by rintro cs x ⟨rfl,h0,h1,h2⟩;exact⟨(eD (jt _ _) (eD (jt _ _) (eD (jt _ _) uM))),⟨h0,h1,h2⟩,(fq rfl (fq rfl (fq rfl wT)))⟩
theorem amu(hX:∀b,¬c.X b):RP c acX bK B4:=by rintro cs x ⟨v0,v1,v2,v3,v4,rfl,h0,h1,h2,h3,h4⟩;obtain⟨r0,o0,n0⟩:=wQ hX (ajM hX) (sz:=3) rfl (by decide) h0;obtain⟨r1,o1,n1⟩:=wQ hX aoi (sz:=4) rfl (by decide) h1;obtain⟨r2,o2,n2⟩:=wQ hX (ak7 hX) (sz:=3) rfl (by decide) h2;obtain⟨r3,o3,n3⟩:=wQ hX (aog hX) (sz:=2) rfl (by decide) h3;obtain⟨r4,o4,n4⟩:=wQ hX aiB (sz:=3) rfl (by decide) h4;exact⟨(eD r0 (eD r1 (eD r2 (eD r3 (eD r4 uM))))),⟨⟨o0,o1⟩,o2,o3,o4⟩,(fq n0 (fq n1 (fq n2 (fq n3 (fq n4 wT)))))⟩
theorem ak6:RP c Om cg N8:=by rintro cs x ⟨rfl,h0,h1,h2,h3,h4⟩;exact⟨(eD (jt _ _) (eD (jt _ _) (eD (jt _ _) (eD (jt _ _) (eD (jt _ _) uM))))),⟨h0,h1,h2,h3,h4⟩,(fq rfl (fq rfl (fq rfl (fq rfl (fq rfl wT)))))⟩
theorem apq{α:Type}{d:cU α}{e:α→au}{ok:α→Prop}(H:RP c d e ok){cs:Array Value}{x:α}(h:d.is c.w cs.toList x):an c (.agg (e x)) (.agg cs)∧ok x:=by obtain⟨h1,h2,h3⟩:=H _ _ h;simp only[an];exact⟨⟨cs,rfl,h1,h3⟩,h2⟩
end
end
section
open Go.RowKit
noncomputable def base (W:World):RC:=ctx ⟨W,[],λ_=>False,aL⟩ W [] dQ
theorem TL(W:World):∀b,¬(base W).X b:=by
 rintro b (k|⟨p,hp,_⟩|⟨i,k⟩)
 ·exact k
 ·cases hp
 ·cases k
theorem anG{n:FuncId}{m:au→Heap→aH}{qc:au}(hs:Sound Tryz.prog aL n m)(hc:∀us w,(callFunc n us).run Tryz.prog w=.ok (.enter n us) w)(W:World)(vs:Array Value)(hr:aR (base W) qc vs.toList)(hm:m qc []=some (.bool true,[])):
  Calls Tryz.prog n vs W λe W'=>e=.returned (.bool true)∧Below W.heap.size W W':=by
 have hh0:jN (ctx ⟨W,[],λ_=>False,aL⟩ W [] dQ) []:=by
  refine⟨rfl,λi j p q hp=>?_,λi p x hp=>?_⟩
  ·simp [ctx]at hp
  ·simp [ctx]at hp
 rcases hs _ _ _ _ hm with⟨g,h1,h2⟩|hv
 case inr=>
  obtain⟨v,w',E',k1,_⟩:=hv ⟨W,[],λ_=>False,aL⟩ vs rfl (λb k=>k.elim) hh0 hr;rw[hc]at k1;injection k1 with k1
  cases k1
 have hg:g=n:=by
  have e1:=h1 #[] W;rw[hc #[] W]at e1;injection e1 with e1
  injection e1 with e1
  exact e1.symm
 subst hg
 have hh:jN (ctx ⟨W,[],λ_=>False,aL⟩ W [] dQ) []:=by
  refine⟨rfl,λi j p q hp=>?_,λi p x hp=>?_⟩
  ·simp [ctx]at hp
  ·simp [ctx]at hp
 refine(h2 ⟨W,[],λ_=>False,aL⟩ vs rfl (λb k=>k.elim) hh hr).mono ?_;rintro e w' ⟨v,E',rfl,ho,_,hv⟩;simp only[an]at hv;subst hv;exact⟨rfl,ho.os,ho.tape,ho.output,ho.size,λk hk=>ho.stay k hk (λp hp=>by cases hp)⟩
end
end Go.Proofs.YtooknfkholjpbaaGreat
