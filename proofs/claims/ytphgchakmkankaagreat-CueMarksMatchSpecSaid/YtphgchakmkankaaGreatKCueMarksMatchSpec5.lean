/- Parts of the proof of CueMarksMatchSpec, in order. -/
import Derived.Orders
import Derived.Below
import Derived.WalkKit
import Derived.Laws.StructEq
import Derived.Laws.Append
import Derived.Laws.AppendOwn
import Derived.Test.YtphgchakmkankaaGreatRows
import Derived.KernelRfl
import Derived.Lib.Bytealg
import Derived.Sort.Defs
import Derived.Lib.BitFns
import Derived.Test.YtphgchakmkankaaGreatShelf
import Derived.Lib.Overlaps
import Derived.IntWalk
import Derived.Lib.Strings
import Derived.Sort.Statements
import Derived.Sort.AssemblyPlain
import Derived.Test.YtphgchakmkankaaGreatKCueMarksMatchSpec4
namespace Go.Proofs.YtphgchakmkankaaGreat
set_option linter.unusedVariables false
set_option linter.unusedSimpArgs false
set_option linter.unusedSectionVars false
theorem Pq {i j:Nat} (h:i+j<9223372036854775808):A.shr (.int .u64 ((i+j:Nat):Int)) (.int .u64 1)=some (.int .u64 (((i+j) / 2:Nat):Int)):=by
 simp only[A.shr]
 rw[if_neg (by decide)]
 congr 2
 rw[show(2:Int) ^ (min (Int.toNat 1) IntKind.u64.bits)=2 from rfl,Int.fdiv_eq_ediv_of_nonneg _ (by decide)]
 omega
theorem PO {n:Nat} (h:n<9223372036854775808):A.conv .u64 (.int .i64 (n:Int))=some (.int .u64 (n:Int)):=by
 simp only[A.conv]
 congr 2
 unfold IntKind.wrap
 simp [IntKind.bits,IntKind.signed]
 omega
theorem PN {n:Nat} (h:n<9223372036854775808):A.conv .i64 (.int .u64 (n:Int))=some (.int .i64 (n:Int)):=by
 simp only[A.conv]
 rw[wrap64 (by unfold aZ;omega)]
theorem Lu {a b:Nat} (h:a+b<9223372036854775808):A.add (.int .i64 (a:Int)) (.int .i64 (b:Int))=some (.int .i64 ((a+b:Nat):Int)):=by
 rw[Gu,wrap64 (by unfold aZ;omega)];simp
theorem B5 {a:Nat} (h:a+1<9223372036854775808):A.add (.int .i64 (a:Int)) (.int .i64 1)=some (.int .i64 ((a+1:Nat):Int)):=Lu (b:=1) h
theorem zo (a b:Nat):A.lss (.int .i64 (a:Int)) (.int .i64 (b:Int))=some (.bool (decide (a<b))):=by
 rw[vC]
 have:((a:Int)<(b:Int))=(a<b):=propext ⟨fun h=>by omega,fun h=>by omega⟩
 simp only[this]
theorem Qu (a:Int):A.lss (.int .i64 a) (.int .i64 0)=some (.bool (decide (a<0))):=by rw[vC]
theorem Ly {α:Type} {X Y:α}:(bif (AX.exit 0==AX.exit 0)then X else Y)=X:=rfl
theorem Wt {f:List U→Heap→Option (AX×List U×Heap)} {σ:Heap} (pv:Nat→Nat→List U) {v0:List U} {n p:Nat} (hp:p≤n) (h0:v0=pv 0 n)
  (hs:∀i j,i<j→j≤n→f (pv i j) σ=some (.normal,if(i+j) / 2<p then pv ((i+j) / 2+1) j else pv i ((i+j) / 2),σ))
  (he:∀i,i≤n→f (pv i i) σ=some (.exit 0,pv i i,σ)):A.loop f v0 σ=some (.exit 0,pv p p,σ):=by
 subst h0
 have key:∀k i j,j-i≤k→i≤p→p≤j→j≤n→∃m,A.iter f m (pv i j) σ=some (.exit 0,pv p p,σ):=by
  intro k
  induction k with
  |zero=>
   intro i j hk h1 h2 h3
   have:i=p:=by omega
   have:j=p:=by omega
   subst i;subst j
   exact qC (he p h3) (by simp)
  |succ k ih=>
   intro i j hk h1 h2 h3
   by_cases hij:i<j
   ·have hstep:=hs i j hij h3
    by_cases hh:(i+j) / 2<p
    ·rw[if_pos hh]at hstep
     exact wS hstep (ih _ _ (by omega) (by omega) h2 h3)
    ·rw[if_neg hh]at hstep
     exact wS hstep (ih _ _ (by omega) h1 (by omega) (by omega))
   ·have:i=p:=by omega
    have:j=p:=by omega
    subst i;subst j
    exact qC (he p h3) (by simp)
 obtain⟨m,hm⟩:=key n 0 n (by omega) (by omega) hp (Nat.le_refl _)
 exact wG hm
theorem bsM {dyn:Nat→List U→Heap→Option (U×Heap)} {l:List aS} {fn:Nat} {k:aA} {cv:aS→Int} {p:Nat} {σ:Heap} (hl:l.length<4611686018427387904) (hp:p≤l.length)
  (hd:∀x∈l,dyn fn [.agg (aF x),.agg (aK k)] σ=some (.int .i64 (cv x),σ)) (hc:∀h x,l[h]? =some x→(cv x<0↔h<p)):
  Io dyn [sl 8 aF l,.agg (aK k),.fn fn []] σ=some (.aL [.int .i64 (p:Int),.bool ((l[p]?).any fun x=>decide (cv x=0))],σ):=by
 refine wrap_eq rfl ?_ rfl
 show Ip dyn (sl 8 aF l) (.agg (aK k)) (.fn fn []) σ=_
 unfold Ip
 rw[show A.cells 2 (.agg (aK k))=some (aK k)from rfl,Option.bind_some,cu,Option.bind_some]
 rw[Wt (v0:=[.lbx (aK k),.int .i64 0,.int .i64 (l.length:Int)]) (fun i j=>[.lbx (aK k),.int .i64 (i:Int),.int .i64 (j:Int)]) hp rfl ?_ ?_,Option.bind_some]
 ·simp only[Ly,List.getD_cons_succ,List.getD_cons_zero]
  rw[zo,Option.bind_some]
  by_cases hpl:p<l.length
  ·have hx:l[p]? =some l[p]:=List.getElem?_eq_getElem hpl
   have oM:=hd _ (List.mem_of_getElem? hx)
   have gK:=jy 8 aF l hx
   have hq:=quiet_of (by show A.iI dyn (.fn fn []) [.agg (aF l[p]),.agg (aK k)] σ=_;simp only[A.iI,List.append_nil];exact oM)
   simp only[decide_eq_true hpl,A.guard,beq_self_eq_true,cond_true,Option.bind_some,List.getD_cons_succ,List.getD_cons_zero,gK,A.deref,tj,A.lb,A.an,A.az,A.pick,hx,Option.any_some]
   show((A.quiet (A.iI dyn (.fn fn []) [.agg (aF l[p]),.agg (aK k)] σ) σ).bind _)=_
   rw[hq,Option.bind_some,l5]
   exact bK _ _
  ·have hx:l[p]? =none:=List.getElem?_eq_none (by omega)
   simp only[decide_eq_false hpl,A.guard,Option.bind_some,A.pick,hx,Option.any_none]
   exact bK _ _
 ·intro i j hij hj
  have hlt:(i+j) / 2<l.length:=by omega
  have hx:l[(i+j) / 2]? =some l[(i+j) / 2]:=List.getElem?_eq_getElem hlt
  have oM:=hd _ (List.mem_of_getElem? hx)
  have gK:=jy 8 aF l hx
  have hq:=quiet_of (by show A.iI dyn (.fn fn []) [.agg (aF l[(i+j) / 2]),.agg (aK k)] σ=_;simp only[A.iI,List.append_nil];exact oM)
  simp only[List.getD_cons_succ,List.getD_cons_zero]
  rw[zo,Option.bind_some,decide_eq_true hij]
  simp only[A.cond,cond_true]
  rw[Lu (by omega),Option.bind_some,PO (by omega),Option.bind_some,Pq (by omega),Option.bind_some,PN (by omega),Option.bind_some,gK,Option.bind_some]
  simp only[A.deref,Option.bind_some,tj,A.lb]
  show((A.quiet (A.iI dyn (.fn fn []) [.agg (aF l[(i+j) / 2]),.agg (aK k)] σ) σ).bind _)=_
  rw[hq,Option.bind_some,Qu,Option.bind_some]
  by_cases hh:(i+j) / 2<p
  ·have:=(hc _ _ hx).2 hh
   rw[decide_eq_true this,if_pos hh]
   simp only[cond_true,B5 (show(i+j) / 2+1<9223372036854775808 by omega),Option.bind_some]
   rfl
  ·have:¬(cv l[(i+j) / 2]<0):=fun e=>hh ((hc _ _ hx).1 e)
   rw[decide_eq_false this,if_neg hh]
   rfl
 ·intro i hi
  simp only[List.getD_cons_succ,List.getD_cons_zero]
  rw[zo,Option.bind_some,decide_eq_false (Nat.lt_irrefl i)]
  rfl
theorem bsC {dyn:Nat→List U→Heap→Option (U×Heap)} {l:List aO} {fn:Nat} {k:Int} {cv:aO→Int} {p:Nat} {σ:Heap} (hl:l.length<4611686018427387904) (hp:p≤l.length)
  (hd:∀x∈l,dyn fn [.agg (aM x),.int .i64 k] σ=some (.int .i64 (cv x),σ)) (hc:∀h x,l[h]? =some x→(cv x<0↔h<p)):
  C6 dyn [sl 11 aM l,.int .i64 k,.fn fn []] σ=some (.aL [.int .i64 (p:Int),.bool ((l[p]?).any fun x=>decide (cv x=0))],σ):=by
 refine wrap_eq rfl ?_ rfl
 show C7 dyn (sl 11 aM l) (.int .i64 k) (.fn fn []) σ=_
 unfold C7
 rw[cu,Option.bind_some]
 rw[Wt (v0:=[.int .i64 0,.int .i64 (l.length:Int)]) (fun i j=>[.int .i64 (i:Int),.int .i64 (j:Int)]) hp rfl ?_ ?_,Option.bind_some]
 ·simp only[Ly,List.getD_cons_succ,List.getD_cons_zero]
  rw[zo,Option.bind_some]
  by_cases hpl:p<l.length
  ·have hx:l[p]? =some l[p]:=List.getElem?_eq_getElem hpl
   have oM:=hd _ (List.mem_of_getElem? hx)
   have gK:=jy 11 aM l hx
   have hq:=quiet_of (by show A.iI dyn (.fn fn []) [.agg (aM l[p]),.int .i64 k] σ=_;simp only[A.iI,List.append_nil];exact oM)
   simp only[decide_eq_true hpl,A.guard,beq_self_eq_true,cond_true,Option.bind_some,List.getD_cons_succ,List.getD_cons_zero,gK,A.deref,uJ,A.lb,A.an,A.az,A.pick,hx,Option.any_some]
   show((A.quiet (A.iI dyn (.fn fn []) [.agg (aM l[p]),.int .i64 k] σ) σ).bind _)=_
   rw[hq,Option.bind_some,l5]
   exact bK _ _
  ·have hx:l[p]? =none:=List.getElem?_eq_none (by omega)
   simp only[decide_eq_false hpl,A.guard,Option.bind_some,A.pick,hx,Option.any_none]
   exact bK _ _
 ·intro i j hij hj
  have hlt:(i+j) / 2<l.length:=by omega
  have hx:l[(i+j) / 2]? =some l[(i+j) / 2]:=List.getElem?_eq_getElem hlt
  have oM:=hd _ (List.mem_of_getElem? hx)
  have gK:=jy 11 aM l hx
  have hq:A.iI dyn (.fn fn []) [.agg (aM l[(i+j) / 2]),.int .i64 k] σ=some (.int .i64 (cv l[(i+j) / 2]),σ):=by simp only[A.iI,List.append_nil];exact oM
  simp only[List.getD_cons_succ,List.getD_cons_zero]
  rw[zo,Option.bind_some,decide_eq_true hij]
  simp only[A.cond,cond_true]
  rw[Lu (by omega),Option.bind_some,PO (by omega),Option.bind_some,Pq (by omega),Option.bind_some,PN (by omega),Option.bind_some,gK,Option.bind_some]
  simp only[A.deref,Option.bind_some,uJ,A.lb]
  rw[hq,Option.bind_some,Qu,Option.bind_some]
  by_cases hh:(i+j) / 2<p
  ·have:=(hc _ _ hx).2 hh
   rw[decide_eq_true this,if_pos hh]
   simp only[cond_true,B5 (show(i+j) / 2+1<9223372036854775808 by omega),Option.bind_some]
   rfl
  ·have:¬(cv l[(i+j) / 2]<0):=fun e=>hh ((hc _ _ hx).1 e)
   rw[decide_eq_false this,if_neg hh]
   rfl
 ·intro i hi
  simp only[List.getD_cons_succ,List.getD_cons_zero]
  rw[zo,Option.bind_some,decide_eq_false (Nat.lt_irrefl i)]
  rfl
section
section
variable {α γ R S B : Type}
theorem agL {p:α→Bool} {l:List α} {body:Nat→α→Unit→Option (Lr Unit Unit Int)} {fin:Unit→Option Unit} {s:Unit} {K1:Unit→Option γ} {K2:Int→Option γ} (hl:l.length≤aY) (hb:∀i x,l[i]? =some x→body i x ()=some (if p x=true then .ret (i:Int)else .go ())) (hf:fin ()=some ():=by rfl):gz l body fin s K1 K2=if kN p l=-1 then K1 ()else K2 (kN p l):=by
 rw[BL hl]
 have key:∀(rest pre:List α),l=pre++rest→(∀x∈pre,p x=false)→kM body fin rest pre.length ()=some (if kN p l=-1 then .inl ()else .inr (kN p l)):=by
  intro rest
  induction rest with
  |nil=>
   intro pre hp hn
   rw[List.append_nil]at hp
   rcases wO p l with⟨h1,_⟩|⟨k,x,h1,h2,_⟩
   ·simp [kM,hf,h1]
   ·have:=hn x (by rw[←hp];exact List.mem_of_getElem? h1);rw[h2]at this;cases this
  |cons x rest ih=>
   intro pre hp hn
   have hx:l[pre.length]? =some x:=by rw[hp];simp
   rw[kM,hb pre.length x hx,Option.bind_some]
   cases h:p x
   ·simp only[Bool.false_eq_true,if_false]
    have:=ih (pre++[x]) (by simpa using hp) (fun y hy=>by
     rcases List.mem_append.1 hy with hy|hy
     ·exact hn y hy
     ·simp at hy;subst hy;exact h)
    simpa using this
   ·simp only[if_true]
    have e:kN p l=pre.length:=by
     rcases wO p l with⟨h1,h2,_⟩|⟨k,y,h1,h2,h3,_,h5⟩
     ·have:=h2 x (List.mem_of_getElem? hx);rw[h]at this;cases this
     ·rw[h3]
      rcases Nat.lt_trichotomy k pre.length with hk|hk|hk
      ·rw[hp,List.getElem?_append_left hk]at h1
       have:=hn y (List.mem_of_getElem? h1);rw[h2]at this;cases this
      ·omega
      ·have:=h5 pre.length x hk hx;rw[h]at this;cases this
    rw[if_neg (by omega),e]
 have k:=key l [] rfl (by simp)
 rw[List.length_nil]at k
 rw[show s=()from rfl,k,Option.bind_some]
 split<;>rfl
end
theorem aj3 (l:List aO) (hl:l.length≤aY) (n:Int):Ga l n=some (kN (fun c=>decide (c.number=n)) l):=by
 unfold Ga
 rw[agL (p:=fun c=>decide (c.number=n)) hl (by intro i x _;simp only[decide_eq_true_eq,BH])]
 split
 ·rename_i h;rw[h]
 ·rfl
end
section
open Go.Sort
theorem Xh:∀a:List UInt8,Op.bytesLess a a=false
 |[]=>rfl
 |x::l=>by simp [Op.bytesLess,UInt8.lt_irrefl,Xh l]
theorem VA:∀a b c:List UInt8,Op.bytesLess a b=true→Op.bytesLess b c=true→Op.bytesLess a c=true
 |[],[],c,h,_=>by simp [Op.bytesLess]at h
 |[],_::_,[],_,k=>by simp [Op.bytesLess]at k
 |[],_::_,_::_,_,_=>rfl
 |_::_,[],c,h,_=>by simp [Op.bytesLess]at h
 |_::_,_::_,[],_,k=>by simp [Op.bytesLess]at k
 |x::a,y::b,z::c,h,k=>by
  rw[Op.bytesLess]at h k ⊢
  simp only[Bool.or_eq_true,Bool.and_eq_true,decide_eq_true_eq,beq_iff_eq]at h k ⊢
  rcases h with h|⟨rfl,h⟩<;>rcases k with k|⟨rfl,k⟩
  ·exact .inl (UInt8.lt_trans h k)
  ·exact .inl h
  ·exact .inl k
  ·exact .inr ⟨rfl,VA a b c h k⟩
theorem xk (a:aA):dZ a a=false:=by simp [dZ,Xh]
theorem JO {a b c:aA} (h:dZ a b=true) (k:dZ b c=true):dZ a c=true:=by
 simp only[dZ,Bool.or_eq_true,Bool.and_eq_true,decide_eq_true_eq]at h k ⊢
 rcases h with h|⟨h1,h2⟩<;>rcases k with k|⟨k1,k2⟩
 ·left;omega
 ·left;omega
 ·left;omega
 ·right;exact⟨by omega,VA _ _ _ h2 k2⟩
theorem WO {a b:aA} (h:dZ a b=false) (k:dZ b a=false):a=b:=by
 rw[←Wv]
 have h1:¬rG a b<0:=fun e=>by rw[(Pg a b).1 e]at h;cases h
 have hba:rG b a=-rG a b∨True:=.inr trivial
 -- what is neither smaller nor greater is the same
 unfold rG at h1 ⊢
 simp only[dZ,Bool.or_eq_false_iff,Bool.and_eq_false_iff,decide_eq_false_iff_not]at h k
 have hu:a.unit=b.unit:=by omega
 simp only[hu,not_true_eq_false,if_false]at h1 ⊢
 have e1:Op.bytesLess a.param.data.toList b.param.data.toList=false:=by
  rcases h.2 with q|q
  ·exact absurd hu q
  ·simpa [Kj]using q
 have e2:Op.bytesLess b.param.data.toList a.param.data.toList=false:=by
  rcases k.2 with q|q
  ·exact absurd hu.symm q
  ·simpa [Kj]using q
 rw[Pe]
 have tri:∀x y:List UInt8,Op.bytesLess x y=false→Op.bytesLess y x=false→x=y:=by
  intro x
  induction x with
  |nil=>intro y p q;cases y with|nil=>rfl|cons y l=>simp [Op.bytesLess]at p
  |cons x xs ih=>
   intro y p q
   cases y with
   |nil=>simp [Op.bytesLess]at q
   |cons y ys=>
    rw[Op.bytesLess]at p q
    by_cases h1:x<y
    ·simp [h1]at p
    ·by_cases h2:y<x
     ·simp [h2]at q
     ·have:x=y:=UInt8.le_antisymm (UInt8.not_lt.1 h2) (UInt8.not_lt.1 h1)
      subst this
      simp [h1]at p q
      rw[ih ys p q]
 exact tri _ _ e1 e2
end
def iM (l:List aS):Prop:=l.Pairwise fun a b=>dZ a.key b.key=true
def dN (l:List aS) (k:aA):Nat:=(l.takeWhile fun m=>dZ m.key k).length
def iS (l:List aS) (k:aA):Bool:=l.any fun m=>decide (m.key=k)
theorem PE (l:List aS) (k:aA):dN l k≤l.length:=(List.takeWhile_prefix _).length_le
theorem BO {l:List aS} {k:aA} (h:iM l):∀{i:Nat} {x:aS},l[i]? =some x→(dZ x.key k=true↔i<dN l k):=by
 induction l with
 |nil=>intro i x hx;simp at hx
 |cons a l ih=>
  intro i x hx
  have hs:=List.pairwise_cons.1 h
  unfold dN
  rw[List.takeWhile_cons]
  cases ha:dZ a.key k
  ·simp only[Bool.false_eq_true,if_false,List.length_nil,Nat.not_lt_zero,iff_false,Bool.not_eq_true]
   cases i with
   |zero=>simp at hx;subst hx;exact ha
   |succ i=>
    simp only[List.getElem?_cons_succ]at hx
    have:=hs.1 x (List.mem_of_getElem? hx)
    cases hq:dZ x.key k
    ·rfl
    ·rw[JO this hq]at ha;cases ha
  ·simp only[if_true,List.length_cons]
   cases i with
   |zero=>simp at hx;subst hx;simp [ha]
   |succ i=>
    simp only[List.getElem?_cons_succ]at hx
    rw[ih hs.2 hx]
    unfold dN
    omega
theorem Ke {l:List aS} {k:aA} (h:iM l):((l[dN l k]?).any fun x=>decide (x.key=k))=iS l k:=by
 rw[Bool.eq_iff_iff]
 constructor
 ·intro e
  cases hx:l[dN l k]? with
  |none=>rw[hx]at e;cases e
  |some x=>
   rw[hx]at e
   exact List.any_eq_true.2 ⟨x,List.mem_of_getElem? hx,e⟩
 ·intro e
  obtain⟨x,hm,hk⟩:=List.any_eq_true.1 e
  have hk:=of_decide_eq_true hk
  obtain⟨i,hi⟩:=List.mem_iff_getElem?.1 hm
  have h1:¬i<dN l k:=fun q=>by
   have:=(BO h hi).2 q
   rw[hk,xk]at this;cases this
  have h2:¬dN l k<i:=fun q=>by
   have hp:dN l k<l.length:=Nat.lt_trans q (List.getElem?_eq_some_iff.1 hi).1
   have hy:l[dN l k]? =some l[dN l k]:=List.getElem?_eq_getElem hp
   have h3:¬dZ l[dN l k].key k=true:=fun q'=>Nat.lt_irrefl _ ((BO h hy).1 q')
   have h4:=List.pairwise_iff_getElem.1 h (dN l k) i hp (List.getElem?_eq_some_iff.1 hi).1 q
   rw[(List.getElem?_eq_some_iff.1 hi).2,hk]at h4
   exact h3 h4
  have:dN l k=i:=by omega
  rw[this,hi];simp [hk]
theorem ag3 {c:aO} (hs:iM c.aJ) (hl:c.aJ.length<4611686018427387904) (k:aA) (σ:Heap):Aa [.agg (aM c),.agg (aK k)] σ=some (.aL [.int .i64 (dN c.aJ k:Int),.bool (iS c.aJ k)],σ):=by
 refine wrap_eq rfl ?_ rfl
 show Jd (.agg (aM c)) (.agg (aK k)) σ=_
 unfold Jd
 rw[F4,Option.bind_some,show A.cells 2 (.agg (aK k))=some (aK k)from rfl,Option.bind_some,show A.an 10 (aM c)=some (sl 8 aF c.aJ)from rfl,Option.bind_some,show A.az 0 2 (aK k)=some (.agg (aK k))from rfl,Option.bind_some]
 rw[bsM (cv:=fun x=>rG x.key k) (p:=dN c.aJ k) hl (PE _ _) ?_ ?_,Option.bind_some]
 ·have e:((c.aJ[dN c.aJ k]?).any fun x=>decide (rG x.key k=0))=iS c.aJ k:=by
   rw[←Ke hs]
   congr 1
   funext x
   rw[decide_eq_decide,Wv]
  rw[e]
  exact bK _ _
 ·intro x hx
  exact abH (r:=rG x.key k) (by unfold IV;rw[compare_eq];rfl)
 ·intro i x hx
  rw[Pg,BO hs hx]
structure Good (l : List aO) : Prop where
 len:l.length≤300
 num:∀c∈l,1≤c.number∧c.number≤9999999
 pV:l.Pairwise fun a b=>a.number<b.number
 mv:∀c∈l,c.aJ.length≤2000∧iM c.aJ
 pts:∀c∈l,c.dg.points.length≤20
theorem NT {α:Type} [Inhabited α] {r:α→α→Prop} (tr:∀a b c,r a b→r b c→r a c):∀(l:List α),(∀i x,l[i+1]? =some x→r (l[i]?.getD default) x)→l.Pairwise r
 |[],_=>List.Pairwise.nil
 |[a],_=>by simp
 |a::b::l,h=>by
  have ih:=NT tr (b::l) (fun i x hx=>h (i+1) x hx)
  have hab:r a b:=h 0 b rfl
  refine List.pairwise_cons.2 ⟨fun x hx=>?_,ih⟩
  rcases List.mem_cons.1 hx with rfl|hx
  ·exact hab
  ·exact tr _ _ _ hab ((List.pairwise_cons.1 ih).1 x hx)
section
theorem W8 {α:Type} [Inhabited α] (l:List α) (i:Nat):pv l (i+1)=l[i]?.getD default:=by
 simp [pv,List.getD_eq_getElem?_getD]
theorem aes {l:List aS} (h:AD l=0):iM l:=by
 unfold AD at h
 refine NT (r:=fun a b:aS=>dZ a.key b.key=true) (fun a b c=>JO) l fun i x hx=>?_
 have:=(JI l 0).1 h (i+1) x hx
 rw[Nat.zero_add]at this
 unfold AL at this
 rw[←W8]
 by_cases hq:dZ (pv l (i+1)).key x.key=true
 ·exact hq
 ·exfalso
  have e:(decide (0<((i+1:Nat):Int))&&!dZ (pv l (i+1)).key x.key)=true:=by
   rw[Bool.and_eq_true];exact⟨decide_eq_true (by omega),by simpa using hq⟩
  rw[e]at this
  repeat (first|(split at this;· cases this)|(simp at this;done)|(rename_i q;exact q rfl))
theorem pX {l:List aO} (h:lV l=0):Good l:=by
 unfold lV at h
 by_cases h1:300<(l.length:Int)
 ·simp [h1]at h
 rw[if_neg h1]at h
 by_cases h2:i6 (sE l) l 0=0
 case neg=>rw[if_pos h2]at h;exact absurd h h2
 have hc:∀i x,l[i]? =some x→(1≤x.number∧x.number≤9999999)∧(0<i→(pv l i).number<x.number)∧x.aJ.length≤2000∧AD x.aJ=0∧x.dg.points.length≤20:=by
  intro i x hx
  have:=(JI l 0).1 h2 i x hx
  rw[Nat.zero_add]at this
  unfold sE at this
  split at this
  ·cases this
  rename_i a1
  split at this
  ·cases this
  rename_i a2
  split at this
  ·cases this
  split at this
  ·cases this
  split at this
  ·rename_i a5;exact absurd this a5
  rename_i a5
  split at this
  ·cases this
  rename_i a6
  have hpt:x.dg.points.length≤20:=by
   have a5:sy x.dg=0:=by simpa using a5
   unfold sy at a5
   split at a5
   ·cases a5
   split at a5
   ·split at a5
    ·cases a5
    split at a5
    ·cases a5
    omega
   ·split at a5
    ·cases a5
    omega
  refine⟨by simpa [aU]using a1,fun hi=>?_,by omega,this,hpt⟩
  have hi':decide (0<(i:Int))=true:=decide_eq_true (by omega)
  rw[hi',Bool.true_and,decide_eq_true_eq]at a2
  omega
 refine⟨by omega,fun c pP=>?_,?_,fun c pP=>?_,fun c pP=>?_⟩
 ·obtain⟨i,hi⟩:=List.mem_iff_getElem?.1 pP
  exact(hc i c hi).1
 ·refine NT (r:=fun a b:aO=>a.number<b.number) (fun a b c=>Int.lt_trans) l fun i x hx=>?_
  rw[←W8]
  exact(hc (i+1) x hx).2.1 (by omega)
 ·obtain⟨i,hi⟩:=List.mem_iff_getElem?.1 pP
  exact⟨(hc i c hi).2.2.1,aes (hc i c hi).2.2.2.1⟩
 ·obtain⟨i,hi⟩:=List.mem_iff_getElem?.1 pP
  exact(hc i c hi).2.2.2.2
def gA (l:List aO) (n:Int):Nat:=(l.takeWhile fun c=>decide (c.number<n)).length
def tM (l:List aO) (n:Int):Bool:=l.any fun c=>decide (c.number=n)
theorem W6 (l:List aO) (n:Int):gA l n≤l.length:=(List.takeWhile_prefix _).length_le
theorem PB {l:List aO} {n:Int} (h:l.Pairwise fun a b=>a.number<b.number):∀{i:Nat} {x:aO},l[i]? =some x→(x.number<n↔i<gA l n):=by
 induction l with
 |nil=>intro i x hx;simp at hx
 |cons a l ih=>
  intro i x hx
  have hs:=List.pairwise_cons.1 h
  unfold gA
  rw[List.takeWhile_cons]
  by_cases ha:a.number<n
  ·rw[decide_eq_true ha]
   simp only[if_true,List.length_cons]
   cases i with
   |zero=>simp at hx;subst hx;simp [ha]
   |succ i=>
    simp only[List.getElem?_cons_succ]at hx
    rw[ih hs.2 hx]
    unfold gA
    omega
  ·rw[decide_eq_false ha]
   simp only[Bool.false_eq_true,if_false,List.length_nil,Nat.not_lt_zero,iff_false]
   cases i with
   |zero=>simp at hx;subst hx;exact ha
   |succ i=>
    simp only[List.getElem?_cons_succ]at hx
    have:=hs.1 x (List.mem_of_getElem? hx)
    omega
theorem KC {l:List aO} {n:Int} (h:l.Pairwise fun a b=>a.number<b.number) {i:Nat} {x:aO} (hx:l[i]? =some x) (hn:x.number=n):gA l n=i:=by
 have h1:¬i<gA l n:=fun q=>by have:=(PB h hx).2 q;omega
 have h2:¬gA l n<i:=fun q=>by
  have hp:gA l n<l.length:=Nat.lt_trans q (List.getElem?_eq_some_iff.1 hx).1
  have hy:l[gA l n]? =some l[gA l n]:=List.getElem?_eq_getElem hp
  have h3:¬l[gA l n].number<n:=fun q'=>Nat.lt_irrefl _ ((PB h hy).1 q')
  have h4:=List.pairwise_iff_getElem.1 h (gA l n) i hp (List.getElem?_eq_some_iff.1 hx).1 q
  rw[(List.getElem?_eq_some_iff.1 hx).2,hn]at h4
  exact h3 h4
 omega
theorem ag8 {l:List aO} {n:Int} (h:l.Pairwise fun a b=>a.number<b.number):((l[gA l n]?).any fun x=>decide (x.number=n))=tM l n:=by
 rw[Bool.eq_iff_iff]
 constructor
 ·intro e
  cases hx:l[gA l n]? with
  |none=>rw[hx]at e;cases e
  |some x=>rw[hx]at e;exact List.any_eq_true.2 ⟨x,List.mem_of_getElem? hx,e⟩
 ·intro e
  obtain⟨x,hm,hk⟩:=List.any_eq_true.1 e
  have hk:=of_decide_eq_true hk
  obtain⟨i,hi⟩:=List.mem_iff_getElem?.1 hm
  rw[KC h hi hk,hi];simp [hk]
theorem ahv {f:List U→Heap→Option (AX×List U×Heap)} {σ:Heap} (pv:Nat→Nat→List U) {v0:List U} {n:Nat} (h0:v0=pv 0 n) (q:Nat→Bool)
  (hs:∀i j,i<j→j≤n→f (pv i j) σ=some (.normal,if q ((i+j) / 2)=true then pv ((i+j) / 2+1) j else pv i ((i+j) / 2),σ))
  (he:∀i,i≤n→f (pv i i) σ=some (.exit 0,pv i i,σ)):∃p,p≤n∧A.loop f v0 σ=some (.exit 0,pv p p,σ):=by
 subst h0
 have key:∀k i j,j-i≤k→i≤j→j≤n→∃p,p≤n∧∃m,A.iter f m (pv i j) σ=some (.exit 0,pv p p,σ):=by
  intro k
  induction k with
  |zero=>
   intro i j hk h1 h3
   have:i=j:=by omega
   subst i
   exact⟨j,h3,qC (he j h3) (by simp)⟩
  |succ k ih=>
   intro i j hk h1 h3
   by_cases hij:i<j
   ·have hstep:=hs i j hij h3
    by_cases hh:q ((i+j) / 2)=true
    ·rw[if_pos hh]at hstep
     obtain⟨p,hp,hm⟩:=ih _ _ (by omega) (show(i+j) / 2+1≤j by omega) h3
     exact⟨p,hp,wS hstep hm⟩
    ·rw[if_neg hh]at hstep
     obtain⟨p,hp,hm⟩:=ih i ((i+j) / 2) (by omega) (by omega) (by omega)
     exact⟨p,hp,wS hstep hm⟩
   ·have:i=j:=by omega
    subst i
    exact⟨j,h3,qC (he j h3) (by simp)⟩
 obtain⟨p,hp,m,hm⟩:=key n 0 n (by omega) (by omega) (Nat.le_refl _)
 exact⟨p,hp,wG hm⟩
theorem ahu {β:Type} {f:List U→Heap→Option (AX×List U×Heap)} {σ:Heap} {K:AX×List U×Heap→Option β} {r:Nat→β} (pv:Nat→Nat→List U) {v0:List U} {n:Nat} (h0:v0=pv 0 n) (q:Nat→Bool)
  (hs:∀i j,i<j→j≤n→f (pv i j) σ=some (.normal,if q ((i+j) / 2)=true then pv ((i+j) / 2+1) j else pv i ((i+j) / 2),σ))
  (he:∀i,i≤n→f (pv i i) σ=some (.exit 0,pv i i,σ)) (hK:∀p,p≤n→K (.exit 0,pv p p,σ)=some (r p)):∃p,p≤n∧(A.loop f v0 σ).bind K=some (r p):=by
 obtain⟨p,hp,h⟩:=ahv pv h0 q hs he
 exact⟨p,hp,by rw[h,Option.bind_some,hK p hp]⟩
theorem aiY {dyn:Nat→List U→Heap→Option (U×Heap)} {l:List aO} {fn:Nat} {k:Int} {cv:aO→Int} {σ:Heap} (hl:l.length<4611686018427387904)
  (hd:∀x∈l,dyn fn [.agg (aM x),.int .i64 k] σ=some (.int .i64 (cv x),σ)) (hc:∀x∈l,cv x≠0):
  ∃p:Nat,p≤l.length∧C6 dyn [sl 11 aM l,.int .i64 k,.fn fn []] σ=some (.aL [.int .i64 (p:Int),.bool false],σ):=by
 suffices h:∃p:Nat,p≤l.length∧C7 dyn (sl 11 aM l) (.int .i64 k) (.fn fn []) σ=some (.aL [.int .i64 (p:Int),.bool false],σ) by
  obtain⟨p,hp,h⟩:=h
  exact⟨p,hp,wrap_eq rfl h rfl⟩
 unfold C7
 rw[cu,Option.bind_some]
 refine ahu (v0:=[.int .i64 0,.int .i64 (l.length:Int)]) (r:=fun p=>((U.aL [.int .i64 (p:Int),.bool false],σ):U×Heap)) (fun i j=>[.int .i64 (i:Int),.int .i64 (j:Int)]) rfl (fun h=>((l[h]?).any fun x=>decide (cv x<0))) (fun i j hij hj=>?_) (fun i hi=>?_) (fun p hp=>?_)
 ·have hlt:(i+j) / 2<l.length:=by omega
  have hx:l[(i+j) / 2]? =some l[(i+j) / 2]:=List.getElem?_eq_getElem hlt
  have oM:=hd _ (List.mem_of_getElem? hx)
  have gK:=jy 11 aM l hx
  have hq:A.iI dyn (.fn fn []) [.agg (aM l[(i+j) / 2]),.int .i64 k] σ=some (.int .i64 (cv l[(i+j) / 2]),σ):=by simp only[A.iI,List.append_nil];exact oM
  simp only[List.getD_cons_succ,List.getD_cons_zero]
  rw[zo,Option.bind_some,decide_eq_true hij]
  simp only[A.cond,cond_true]
  rw[Lu (by omega),Option.bind_some,PO (by omega),Option.bind_some,Pq (by omega),Option.bind_some,PN (by omega),Option.bind_some,gK,Option.bind_some]
  simp only[A.deref,Option.bind_some,uJ,A.lb]
  rw[hq,Option.bind_some,Qu,Option.bind_some]
  simp only[hx,Option.any_some]
  by_cases hh:cv l[(i+j) / 2]<0
  ·rw[decide_eq_true hh]
   simp only[cond_true,if_true,B5 (show(i+j) / 2+1<9223372036854775808 by omega),Option.bind_some]
   rfl
  ·rw[decide_eq_false hh]
   rfl
 ·simp only[List.getD_cons_succ,List.getD_cons_zero]
  rw[zo,Option.bind_some,decide_eq_false (Nat.lt_irrefl i)]
  rfl
 ·simp only[Ly,List.getD_cons_succ,List.getD_cons_zero]
  rw[zo,Option.bind_some]
  by_cases hpl:p<l.length
  ·have hx:l[p]? =some l[p]:=List.getElem?_eq_getElem hpl
   have oM:=hd _ (List.mem_of_getElem? hx)
   have hne:=hc _ (List.mem_of_getElem? hx)
   have gK:=jy 11 aM l hx
   have hq:=quiet_of (by show A.iI dyn (.fn fn []) [.agg (aM l[p]),.int .i64 k] σ=_;simp only[A.iI,List.append_nil];exact oM)
   simp only[decide_eq_true hpl,A.guard,beq_self_eq_true,cond_true,Option.bind_some,List.getD_cons_succ,List.getD_cons_zero,gK,A.deref,uJ,A.lb,A.an,A.az,A.pick]
   show((A.quiet (A.iI dyn (.fn fn []) [.agg (aM l[p]),.int .i64 k] σ) σ).bind _)=_
   rw[hq,Option.bind_some,l5,decide_eq_false hne]
   exact bK _ _
  ·simp only[decide_eq_false hpl,A.guard,Option.bind_some,A.pick]
   exact bK _ _
structure Gi (l : List aO) : Prop where
 len:l.length≤300
 num:∀c∈l,1≤c.number∧c.number≤9999999
 pV:l.Pairwise fun a b=>a.number<b.number
theorem Good.n {l:List aO} (h:Good l):Gi l:=⟨h.len,h.num,h.pV⟩
theorem aiq {l:List aO} (hg:Gi l) {n:Int} (hn:aZ n) (σ:Heap):∃p:Nat,Bw [sl 11 aM l,.int .i64 n] σ=some (.aL [.int .i64 (p:Int),.bool (tM l n)],σ)∧p≤l.length∧((1≤n∨tM l n=true)→p=gA l n):=by
 have hlen:l.length<4611686018427387904:=by have:=hg.len;omega
 have hd:∀x∈l,A.tab (fun _ _=>none) [(177,Bq)] 177 [.agg (aM x),.int .i64 n] σ=some (.int .i64 (IntKind.i64.wrap (x.number-n)),σ):=fun x _=>abQ (r:=IntKind.i64.wrap (x.number-n)) rfl
 have wr:∀{p:Nat} {b:Bool},C6 (A.tab (fun _ _=>none) [(177,Bq)]) [sl 11 aM l,.int .i64 n,.fn 177 []] σ=some (.aL [.int .i64 (p:Int),.bool b],σ)→
   Bw [sl 11 aM l,.int .i64 n] σ=some (.aL [.int .i64 (p:Int),.bool b],σ):=by
  intro p b h
  refine wrap_eq rfl ?_ rfl
  rw[show A.bY [Sh.e 11 B6] [sl 11 aM l,.int .i64 n]=[sl 11 aM l,.int .i64 n]from bH (gR (fun _=>rfl) _) rfl]
  show Jr (sl 11 aM l) (.int .i64 n) σ=_
  unfold Jr
  rw[h,Option.bind_some]
  exact bK _ _
 by_cases alE:-4611686018427387904≤n
 ·refine⟨gA l n,wr ?_,W6 _ _,fun _=>rfl⟩
  have hw:∀x∈l,IntKind.i64.wrap (x.number-n)=x.number-n:=fun x hx=>by
   have:=hg.num x hx
   unfold aZ at hn
   exact wrap64 (by unfold aZ;omega)
  rw[bsC (cv:=fun x=>IntKind.i64.wrap (x.number-n)) (p:=gA l n) hlen (W6 _ _) hd ?_]
  ·rw[←ag8 hg.pV]
   congr 4
   cases hx:l[gA l n]? with
   |none=>rfl
   |some x=>
    simp only[Option.any_some]
    rw[hw x (List.mem_of_getElem? hx),show decide (x.number-n=0)=decide (x.number=n)from decide_eq_decide.2 (by omega)]
  ·intro h x hx
   rw[hw x (List.mem_of_getElem? hx),←PB hg.pV hx]
   omega
 ·have hno:tM l n=false:=by
   rw[Bool.eq_false_iff]
   intro e
   obtain⟨x,hx,hk⟩:=List.any_eq_true.1 e
   have:=hg.num x hx
   have:=of_decide_eq_true hk
   omega
  obtain⟨p,hp,h⟩:=aiY hlen hd (fun x hx e=>by
   have alG:=hg.num x hx
   unfold aZ at hn
   have h2:IntKind.i64.wrap (x.number-n)=x.number-n∨IntKind.i64.wrap (x.number-n)=x.number-n-18446744073709551616:=by
    by_cases hh:x.number-n<9223372036854775808
    ·exact .inl (wrap64 (by unfold aZ;omega))
    ·right
     unfold IntKind.wrap
     simp [IntKind.bits,IntKind.signed]
     omega
   rcases h2 with h2|h2<;>rw[h2]at e<;>omega)
  exact⟨p,by rw[hno];exact wr h,hp,fun q=>by
   rcases q with q|q
   ·omega
   ·rw[hno]at q;cases q⟩
section
variable {α R γ S B : Type}
theorem Vt {l:List α} {pr:α→Bool} {body:Int→Option (Lr Int Int R)} {K1:Int→Option γ} {K2:R→Option γ} (hb:∀(i:Nat) x,l[i]? =some x→body (i:Int)=some (if pr x=true then .go ((i+1:Nat):Int)else .brk (i:Int)))
  (he:body (l.length:Int)=some (.brk (l.length:Int))) {s:Int} (h0:s=0):E1 body s K1 K2=K1 ((l.takeWhile pr).length:Int):=by
 subst h0
 have key:∀(k i:Nat),l.length-i≤k→i≤l.length→uv body (i:Int)=some (.inl ((i+((l.drop i).takeWhile pr).length:Nat):Int)):=by
  intro k
  induction k with
  |zero=>
   intro i hk hle
   have:i=l.length:=by omega
   subst this
   rw[O8,he,Option.bind_some,List.drop_of_length_le (Nat.le_refl _)]
   rfl
  |succ k ih=>
   intro i hk hle
   by_cases hi:i<l.length
   ·have hx:l[i]? =some l[i]:=List.getElem?_eq_getElem hi
    rw[O8,hb i _ hx,Option.bind_some,List.drop_eq_getElem_cons hi,List.takeWhile_cons]
    cases h:pr l[i]
    ·simp
    ·simp only[if_true,List.length_cons]
     rw[ih (i+1) (by omega) (by omega)]
     congr 3;omega
   ·have:i=l.length:=by omega
    subst this
    rw[O8,he,Option.bind_some,List.drop_of_length_le (Nat.le_refl _)]
    rfl
 have k:=key l.length 0 (by omega) (by omega)
 simp only[Nat.zero_add,List.drop_zero]at k
 show E1 body ((0:Nat):Int) K1 K2=_
 rw[E1,k];rfl
theorem KF {l:List α} {i:Nat} {x:α} (h:l[i]? =some x):kf l (i:Int)=some x:=yG (by omega) (by simpa using h)
end
theorem V1 {l:List aS} (hs:iM l) (hl:l.length<4611686018427387904) (k:aA):FC l k=some ((dN l k:Int),iS l k):=by
 unfold FC
 refine(Vt (l:=l) (pr:=fun m=>dZ m.key k) (fun i x hx=>?_) ?_ rfl).trans ?_
 ·have hi:=(List.getElem?_eq_some_iff.1 hx).1
  have hi':((i:Int)<(l.length:Int)):=by omega
  have e:(decide (x.key.unit<k.unit)||decide (x.key.unit=k.unit)&&Op.bytesLess x.key.param.toList k.param.toList)=dZ x.key k:=rfl
  simp only[decide_eq_true hi',if_true,KF hx,Option.bind_some,wrap64 (show aZ ((i:Int)+1) by unfold aZ;omega),Bool.true_and,e]
  cases dZ x.key k<;>simp
 ·simp only[decide_eq_false (by omega:¬((l.length:Int)<(l.length:Int))),Bool.false_eq_true,if_false,Option.bind_some,Bool.false_and]
 ·show((if decide ((dN l k:Int)<(l.length:Int))=true then kf l (dN l k:Int)else some default).bind fun x9=>some ((dN l k:Int),((decide ((dN l k:Int)<(l.length:Int)))&&(decide (x9.key=k)))))=_
  rw[←Ke hs]
  by_cases hp:dN l k<l.length
  ·have hx:l[dN l k]? =some l[dN l k]:=List.getElem?_eq_getElem hp
   have hp':((dN l k:Int)<(l.length:Int)):=by omega
   rw[decide_eq_true hp',if_pos rfl,KF hx,Option.bind_some,hx]
   simp
  ·have hx:l[dN l k]? =none:=List.getElem?_eq_none (by omega)
   have hp':¬((dN l k:Int)<(l.length:Int)):=by omega
   rw[decide_eq_false hp',if_neg (by decide),Option.bind_some,hx]
   simp
end
section
open HP
def Lt (σ:Heap) (sh:Sh) (v t:U):Prop:=(∃v',A.bT σ 0 8 v=some v'∧A.own v'=false∧A.nn sh v'=A.nn sh t)∧A.own t=false∧(A.own v=false→A.nn sh v=A.nn sh t)
def EF (σ:Heap):List Sh→List U→List U→Prop
 |_,[],[]=>True
 |[],a::cS,t::ts=>Lt σ .k a t∧EF σ [] cS ts
 |s::ss,a::cS,t::ts=>Lt σ s a t∧EF σ ss cS ts
 |_,_,_=>False
theorem jK (v:U):A.nn .k v=v:=by simp [A.nn]
theorem LH {σ:Heap}:∀{ss:List Sh} {cS ts:List U},EF σ ss cS ts→(∃A0,A.fE σ 0 8 cS=some A0∧A0.any A.own=false∧A.bY ss A0=A.bY ss ts)∧ts.any A.own=false∧(cS.any A.own=false→A.bY ss cS=A.bY ss ts)
 |ss,[],[],_=>⟨⟨[],by simp [A.fE],rfl,rfl⟩,rfl,fun _=>rfl⟩
 |[],a::cS,t::ts,h=>by
  obtain⟨⟨⟨v',h1,h2,h3⟩,h4,h5⟩,h6⟩:=h
  obtain⟨⟨A0,k1,k2,k3⟩,k4,k5⟩:=LH h6
  rw[jK,jK]at h3
  simp only[A.bY]at k3 k5
  refine⟨⟨v'::A0,by simp [A.fE,h1,k1],by simp [h2,k2],by simp [A.bY,h3,k3]⟩,by simp [h4,k4],fun h=>?_⟩
  simp only[List.any_cons,Bool.or_eq_false_iff]at h
  have:=h5 h.1
  rw[jK,jK]at this
  simp [A.bY,this,k5 h.2]
 |s::ss,a::cS,t::ts,h=>by
  obtain⟨⟨⟨v',h1,h2,h3⟩,h4,h5⟩,h6⟩:=h
  obtain⟨⟨A0,k1,k2,k3⟩,k4,k5⟩:=LH h6
  refine⟨⟨v'::A0,by simp [A.fE,h1,k1],by simp [h2,k2],by simp [A.bY,h3,k3]⟩,by simp [h4,k4],fun h=>?_⟩
  simp only[List.any_cons,Bool.or_eq_false_iff]at h
  simp [A.bY,h5 h.1,k5 h.2]
 |_,[],_::_,h=>by cases h
 |[],_::_,[],h=>by cases h
 |_::_,_::_,[],h=>by cases h
theorem ze {cB:List Sh} {eo:Sh} {r:List U→Heap→Option (U×Heap)} {cS ts:List U} {σ:Heap} {v:U} (h:EF σ cB cS ts) (e:∀σ,A.wrap true cB eo r ts σ=some (v,σ)) (hs:A.xP v=true):A.wrap true cB eo r cS σ=some (v,σ):=by
 obtain⟨⟨A0,k1,k2,k3⟩,k4,k5⟩:=LH h
 cases ho:cS.any A.own
 ·rw[PL (k5 ho) ho k4];exact e σ
 ·exact F1 ho k1 k2 (by rw[PL k3 k2 k4];exact e []) hs
theorem uN {σ:Heap} {sh:Sh} {v:U} (h:Fz v) (ho:A.own v=false):Lt σ sh v v:=⟨⟨v,h σ 0 8,ho,rfl⟩,ho,fun _=>rfl⟩
theorem BW {σ:Heap} (n:Int):Lt σ .k (.int .i64 n) (.int .i64 n):=uN (gd _ _) rfl
section
variable {α : Type} {c : α → List U} {sz : Nat} {B : aV → Prop} {ay σ : Heap} {R : HP} {v : U} {l : List α}
def Sf (c:α→List U) (sz:Nat) (v:U) (l:List α):HP:=fun h=>(v=sl sz c l∧emp h)∨Sl (fl c) sz v l h
theorem O4 (H:Hs B ay σ (Sf c sz v l*R)):(v=sl sz c l∧Hs B ay σ R)∨Hs B ay σ (Sl (fl c) sz v l*R):=by
 have H2:=jH H
 obtain⟨h1,h,⟨f,g,hf,hg,hd,hh⟩,h2⟩:=H
 rcases hf with⟨k1,k2⟩|k
 ·exact .inl ⟨k1,H2⟩
 ·exact .inr ⟨h1,h,⟨f,g,k,hg,hd,hh⟩,h2⟩
theorem Qa (H:Hs B ay σ (Sl (fl c) sz v l*R)):Hs B ay σ (Sf c sz v l*R):=Pv (fun h k=>.inr k) H
theorem uE (H:Hs B ay σ (Sl (fl c) sz v l*R)):(l=[]∧(v=.aH∨v=.ez)∧Hs B ay σ R)∨∃id g,v=.os id g sz 0 l.length∧Hs B ay σ (blk id (.arr g sz (l.map c))*R):=by
 rcases sw H with h|⟨id,g,seg,rfl,hl,H⟩
 ·exact .inl h
 ·have K:=KJ.1 (hs_eq (show _=els (fl c) seg l*(blk id (.arr g sz seg)*R) by ac_rfl) H)
  obtain⟨rfl,K⟩:=K
  exact .inr ⟨id,g,rfl,K⟩
theorem XN {id g:Nat} {n:Nat} (H:Hs B ay σ (blk id (.arr g sz (l.map c))*R)) (hn:n=l.length:=by rfl):Hs B ay σ (Sl (fl c) sz (.os id g sz 0 n) l*R):=
 yQ (id:=id) (g:=g) (seg:=l.map c) (hs_eq (show els (fl c) (l.map c) l*(blk id (.arr g sz (l.map c))*R)=_ by ac_rfl) (KJ.2 ⟨rfl,H⟩)) hn
theorem Xo (hc:∀x,jD (c x)) {id g:Nat} (h:σ[id]? =some (.arr g sz (l.map c))) {n:Nat} (hn:¬id<n) (d:Nat):A.bT σ n (d+1) (.os id g sz 0 l.length)=some (sl sz c l):=by
 simp only[A.bT,if_neg hn,h]
 rw[if_pos (by simp),List.drop_zero,List.take_of_length_le (by simp),BG,QS hc]
 rfl
theorem Qb (H:Hs B ay σ (Sl (fl c) sz v l*R)) (hc:∀x,jD (c x)) {n:Nat} (hn:n≤ay.length) (d:Nat):∃v',A.bT σ n (d+1) v=some v'∧A.vK v'=false∧A.nn (.s sz) v'=sl sz c l:=by
 rcases uE H with⟨rfl,rfl|rfl,_⟩|⟨id,g,rfl,K⟩
 ·exact⟨.aH,by simp [A.bT],rfl,rfl⟩
 ·exact⟨.ez,by simp [A.bT],rfl,rfl⟩
 ·obtain⟨h1,h2⟩:=lB K
  exact⟨_,Xo hc h2 (by omega) d,rfl,rfl⟩
theorem Yt (H:Hs B ay σ (Sf c sz v l*R)) (hc:∀x,jD (c x)) {n:Nat} (hn:n≤ay.length) (d:Nat):∃v',A.bT σ n (d+1) v=some v'∧A.vK v'=false∧A.nn (.s sz) v'=sl sz c l:=by
 rcases O4 H with⟨rfl,_⟩|H
 ·exact⟨_,xF hc l σ n (d+1),rfl,rfl⟩
 ·exact Qb H hc hn d
structure Cl (p : U) (F : List U → HP) : Prop where
 nc:A.gZ p=some p
 ow:A.own p=true
 ld:∀{ay σ:Heap} {e:List U} {R:HP},Hs aX ay σ (F e*R)→A.deref p σ=some e
 fa:∀(o:Nat),∃q,A.bA o p=some q∧(∀{ay σ:Heap} {e:List U} {R:HP},Hs aX ay σ (F e*R)→A.deref q σ=some (e.drop o))∧
  ∀{ay σ:Heap} {e:List U} {R:HP} {new e':List U},Hs aX ay σ (F e*R)→A.splice o new e=some e'→∃σ',A.storeAt q new σ=some σ'∧Hs aX ay σ' (F e'*R)
 st:∀{ay σ:Heap} {e:List U} {R:HP} {new e':List U},Hs aX ay σ (F e*R)→A.splice 0 new e=some e'→∃σ',A.storeAt p new σ=some σ'∧Hs aX ay σ' (F e'*R)
 fc:∀(o o':Nat) (q:U),A.bA o p=some q→A.bA o' q=A.bA (o+o') p
theorem P0 {P:HP} (H:Hs B ay σ P):Hs aX ay σ P:=⟨by obtain⟨bs,h,_⟩:=H.pre;exact⟨bs,h,fun _ _=>trivial⟩,H.own⟩
end
section
variable {α : Type} {E : List U → α → HP} {sz : Nat} {ay σ : Heap} {R : HP} {v : U} {l : List α}
theorem BQ (H:Hs aX ay σ (Sl E sz v l*R)) {i:Nat} {x:α} (hx:l[i]? =some x):∃p F e,A.aN sz v (.int .i64 (i:Int))=some p∧Cl p F∧Hs aX ay σ (F e*(E e x*R))∧
  ∀{σ:Heap} {e:List U} {y:α} {R:HP},Hs aX ay σ (F e*(E e y*R))→Hs aX ay σ (Sl E sz v (l.set i y)*R):=by
 have hi:=(List.getElem?_eq_some_iff.1 hx).1
 rcases sw H with⟨rfl,_,_⟩|⟨id,g,seg,rfl,hl,H⟩
 ·simp at hx
 ·have he:seg[i]? =some seg[i]:=List.getElem?_eq_getElem (by omega)
  have rd:∀{ay σ:Heap} {e:List U} {R:HP} (o:Nat),Hs aX ay σ (blk id (.arr g sz (seg.set i e))*els E (seg.eraseIdx i) (l.eraseIdx i)*R)→A.deref (.oe id g i o) σ=some (e.drop o):=by
   intro ay σ e R o K
   obtain⟨_,k2⟩:=lB (hs_eq (oT _ _ _) K)
   simp only[A.deref,k2,if_true]
   rw[List.getElem?_set_self (by omega)]
   rfl
  have wr:∀{ay σ:Heap} {e:List U} {R:HP} {new e':List U} (o:Nat),Hs aX ay σ (blk id (.arr g sz (seg.set i e))*els E (seg.eraseIdx i) (l.eraseIdx i)*R)→A.splice o new e=some e'→
    ∃σ',A.storeAt (.oe id g i o) new σ=some σ'∧Hs aX ay σ' (blk id (.arr g sz (seg.set i e'))*els E (seg.eraseIdx i) (l.eraseIdx i)*R):=by
   intro ay σ e R new e' o K hs
   have K':=hs_eq (oT _ _ _) K
   obtain⟨_,k2⟩:=lB K'
   refine⟨σ.set id (.arr g sz (seg.set i e')),?_,?_⟩
   ·simp only[A.storeAt,k2,if_true]
    rw[List.getElem?_set_self (by omega),Option.bind_some,hs,Option.map_some,List.set_set]
   ·exact hs_eq (oT _ _ _).symm (Ee (b':=.arr g sz (seg.set i e')) K' trivial)
  refine⟨.oe id g i 0,fun e=>blk id (.arr g sz (seg.set i e))*els E (seg.eraseIdx i) (l.eraseIdx i),seg[i],?_,⟨rfl,rfl,fun K=>by have:=rd 0 K;simpa using this,fun o=>⟨.oe id g i o,by simp [A.bA],fun K=>rd o K,fun K hs=>wr o K hs⟩,fun K hs=>wr 0 K hs,fun o o' q hq=>by simp [A.bA]at hq;subst hq;simp [A.bA]⟩,?_,?_⟩
  ·have hi':((i:Int)<(l.length:Int)):=by omega
   simp [A.aN,A.idx,hi']
  ·refine hs_eq ?_ H
   have e1:seg.set i seg[i]=seg:=List.set_getElem_self (by omega)
   simp only[e1]
   rw[PT hl he hx]
   ac_rfl
  ·intro σ e y R K
   refine yQ (id:=id) (g:=g) (seg:=seg.set i e) (hs_eq ?_ K) (by simp)
   have e1:els E (seg.set i e) (l.set i y)=els E (seg.eraseIdx i) (l.eraseIdx i)*E e y:=by
    rw[PT (i:=i) (e:=e) (x:=y) (by simp [hl]) (by rw[List.getElem?_set_self (by omega)]) (by rw[List.getElem?_set_self hi])]
    rw[List.eraseIdx_set_eq,List.eraseIdx_set_eq]
   rw[e1]
   ac_rfl
end
def cK (x:aO) (vp vm:U):List U:=[.int .i64 x.number,.str x.title,.int .i64 x.delay,.int .i64 x.up,.int .i64 x.down,.int .i64 x.other,.int .i64 x.dg.kind,vp,.bool x.block,.int .i64 x.follow,vm]
def nj (M:U→List aS→HP):List U→aO→HP:=fun e x=>ex fun vp=>ex fun vm=>pr (e=cK x vp vm)*(Sf cW 2 vp x.dg.points*M vm x.aJ)
def dD:List U→aO→HP:=nj (Sl (fl aF) 8)
def uP:List U→aO→HP:=nj (Sf aF 8)
def iA:List Sh:=B6
section
variable {B : aV → Prop} {ay σ : Heap} {R : HP} {M : U → List aS → HP} {e : List U} {x : aO}
theorem A1 (H:Hs B ay σ (nj M e x*R)):∃vp vm,e=cK x vp vm∧Hs B ay σ (Sf cW 2 vp x.dg.points*(M vm x.aJ*R)):=by
 unfold nj at H
 rw[Ek]at H
 obtain⟨vp,H⟩:=H
 rw[Ek]at H
 obtain⟨vm,H⟩:=H
 rw[oT,jC]at H
 exact⟨vp,vm,H.1,hs_eq (by ac_rfl) H.2⟩
theorem D0 {vp vm:U} (he:e=cK x vp vm) (H:Hs B ay σ (Sf cW 2 vp x.dg.points*(M vm x.aJ*R))):Hs B ay σ (nj M e x*R):=by
 unfold nj
 rw[Ek]
 refine⟨vp,?_⟩
 rw[Ek]
 refine⟨vm,?_⟩
 rw[oT,jC]
 exact⟨he,hs_eq (by ac_rfl) H⟩
theorem FP (H:Hs B ay σ (dD e x*R)):Hs B ay σ (uP e x*R):=by
 obtain⟨vp,vm,he,H⟩:=A1 H
 exact D0 he (hs_eq (by ac_rfl) (Qa (hs_eq (show _=Sl (fl aF) 8 vm x.aJ*(Sf cW 2 vp x.dg.points*R) by ac_rfl) H)))
theorem Wx (H:Hs B ay σ (uP e x*R)) {n:Nat} (hn:n≤ay.length) (d:Nat):∃e',A.fE σ n (d+1) e=some e'∧e'.any A.vK=false∧A.bY iA e'=aM x:=by
 obtain⟨vp,vm,he,K⟩:=A1 H
 subst he
 obtain⟨vp',p1,p2,p3⟩:=Yt K US hn d
 obtain⟨kJ,m1,m2,m3⟩:=Yt (jH K) Ai hn d
 refine⟨cK x vp' kJ,?_,?_,?_⟩
 ·simp [cK,A.fE,A.bT,p1,m1]
 ·simp only[cK,List.any_cons,List.any_nil,p2,m2];rfl
 ·simp only[cK,iA,A.bY,jK,p3,m3];rfl
theorem WA:∀{seg:List (List U)} {l:List aO} {R:HP},Hs B ay σ (els uP seg l*R)→∀{n:Nat},n≤ay.length→∀(d:Nat),∃ED,A.lG σ n (d+1) seg=some ED∧ED.map (A.bY iA)=l.map aM
 |[],[],R,H,n,hn,d=>⟨[],by simp [A.lG],rfl⟩
 |[],_::_,R,H,n,hn,d=>(jC.1 H).1.elim
 |_::_,[],R,H,n,hn,d=>(jC.1 H).1.elim
 |e::seg,x::l,R,H,n,hn,d=>by
  rw[els,oT]at H
  obtain⟨e',h1,_,h3⟩:=Wx H hn d
  obtain⟨ED,k1,k2⟩:=WA (jH H) hn d
  exact⟨e'::ED,by simp [A.lG,h1,k1],by simp [h3,k2]⟩
theorem VJ:∀{seg:List (List U)} {l:List aO} {R:HP},Hs B ay σ (els dD seg l*R)→Hs B ay σ (els uP seg l*R)
 |[],[],R,H=>H
 |[],_::_,R,H=>H
 |_::_,[],R,H=>H
 |e::seg,x::l,R,H=>by
  rw[els]at H ⊢
  have H2:=VJ (hs_eq (show _=els dD seg l*(dD e x*R) by ac_rfl) H)
  have H3:=FP (hs_eq (show _=dD e x*(els uP seg l*R) by ac_rfl) H2)
  exact hs_eq (by ac_rfl) H3
variable {v : U} {l : List aO}
theorem Of (H:Hs B ay σ (Sl dD 11 v l*R)):Hs B ay σ (Sl uP 11 v l*R):=by
 rcases sw H with⟨rfl,hv,H⟩|⟨id,g,seg,rfl,hl,H⟩
 ·exact qx H hv
 ·have H2:=VJ (hs_eq (show _=els dD seg l*(blk id (.arr g 11 seg)*R) by ac_rfl) H)
  exact yQ (id:=id) (g:=g) (seg:=seg) (hs_eq (by ac_rfl) H2)
theorem VF (H:Hs B ay σ (Sl uP 11 v l*R)) {n:Nat} (hn:n≤ay.length) (d:Nat):∃v',A.bT σ n (d+2) v=some v'∧A.vK v'=false∧A.nn (.e 11 iA) v'=sl 11 aM l:=by
 rcases sw H with⟨rfl,rfl|rfl,_⟩|⟨id,g,seg,rfl,hl,H⟩
 ·exact⟨.aH,by simp [A.bT],rfl,rfl⟩
 ·exact⟨.ez,by simp [A.bT],rfl,rfl⟩
 ·obtain⟨h1,h2⟩:=lB H
  obtain⟨ED,k1,k2⟩:=WA (hs_eq (show _=els uP seg l*(blk id (.arr g 11 seg)*R) by ac_rfl) H) hn d
  refine⟨.sl 11 ED,?_,rfl,?_⟩
  ·simp only[A.bT,if_neg (show ¬id<n by omega),h2]
   rw[if_pos (by simp;omega),List.drop_zero,List.take_of_length_le (by omega),BG,k1]
   rfl
  ·simp only[A.nn,k2];rfl
theorem Tt (l:List aO):A.nn (.e 11 iA) (sl 11 aM l)=sl 11 aM l:=gR (fun _=>rfl) l
theorem agY (H:Hs B ay σ (Sl uP 11 v l*R)):Lt σ (.e 11 iA) v (sl 11 aM l):=by
 obtain⟨v',h1,h2,h3⟩:=VF H (Nat.zero_le _) 6
 refine⟨⟨v',h1,?_,by rw[h3,Tt]⟩,rfl,fun ho=>?_⟩
 ·rcases sw H with⟨rfl,rfl|rfl,_⟩|⟨id,g,seg,rfl,hl,H⟩
  ·simp [A.bT]at h1;subst h1;rfl
  ·simp [A.bT]at h1;subst h1;rfl
  ·cases v'<;>first|rfl|cases h2|skip
   rename_i cs
   simp only[A.nn]at h3
   cases h3
 ·rcases sw H with⟨rfl,rfl|rfl,_⟩|⟨id,g,seg,rfl,hl,H⟩
  ·rfl
  ·rfl
  ·cases ho
theorem Kw (H:Hs B ay σ (Sl dD 11 v l*R)):Lt σ (.e 11 iA) v (sl 11 aM l):=agY (Of H)
theorem Pw (H:Hs B ay σ (uP e x*R)):Lt σ (.a iA) (.agg e) (.agg (aM x)):=by
 obtain⟨e',h1,h2,h3⟩:=Wx H (Nat.zero_le _) 7
 obtain⟨vp,vm,he,K0⟩:=A1 H
 refine⟨⟨.agg e',by simp [A.bT,h1],by simpa [A.own]using h2,?_⟩,rfl,fun ho=>?_⟩
 ·simp only[A.nn,h3]
  rw[show A.bY iA (aM x)=aM x from rfl]
 ·subst he
  have hp:A.vK vp=false∧A.vK vm=false:=by
   simp only[A.own,cK,List.any_cons,List.any_nil,Bool.or_eq_false_iff]at ho
   exact⟨ho.2.2.2.2.2.2.2.1,ho.2.2.2.2.2.2.2.2.2.2.1⟩
  have q1:A.nn (.s 2) vp=sl 2 cW x.dg.points:=by
   rcases O4 K0 with⟨rfl,_⟩|K
   ·rfl
   ·rcases uE K with⟨e0,rfl|rfl,_⟩|⟨id,g,rfl,_⟩
    ·rw[e0];rfl
    ·rw[e0];rfl
    ·cases hp.1
  have q2:A.nn (.s 8) vm=sl 8 aF x.aJ:=by
   rcases O4 (jH K0)with⟨rfl,_⟩|K
   ·rfl
   ·rcases uE K with⟨e0,rfl|rfl,_⟩|⟨id,g,rfl,_⟩
    ·rw[e0];rfl
    ·rw[e0];rfl
    ·cases hp.2
  have q3:A.bY iA (cK x vp vm)=aM x:=by simp only[cK,iA,A.bY,jK,q1,q2];rfl
  show U.agg (A.bY iA (cK x vp vm))=U.agg (A.bY iA (aM x))
  rw[q3];rfl
end
end
section
open HP
theorem mY {α:Type} {f:List U→Heap→Option LS} {Q:LS→Prop} (l:List α) (I:Nat→List U→Heap→Prop) {v0:List U} {σ:Heap}
  (hstep:∀i x v σ,l[i]? =some x→I i v σ→∃v' σ',f v σ=some (.normal,v',σ')∧I (i+1) v' σ')
  (hend:∀v σ,I l.length v σ→∃q,f v σ=some q∧q.1≠.normal∧Q q) (h0:I 0 v0 σ):∃q,A.loop f v0 σ=some q∧Q q:=by
 have key:∀(k i:Nat) v σ,l.length-i≤k→i≤l.length→I i v σ→∃q,(∃n,A.iter f n v σ=some q)∧Q q:=by
  intro k
  induction k with
  |zero=>
   intro i v σ hk hle hI
   have:i=l.length:=by omega
   subst this
   obtain⟨q,h1,h2,h3⟩:=hend v σ hI
   exact⟨q,qC h1 h2,h3⟩
  |succ k ih=>
   intro i v σ hk hle hI
   by_cases hi:i<l.length
   ·obtain⟨v',σ',h1,h2⟩:=hstep i _ v σ (List.getElem?_eq_getElem hi) hI
    obtain⟨q,hq,hQ⟩:=ih (i+1) v' σ' (by omega) (by omega) h2
    exact⟨q,wS h1 hq,hQ⟩
   ·have:i=l.length:=by omega
    subst this
    obtain⟨q,h1,h2,h3⟩:=hend v σ hI
    exact⟨q,qC h1 h2,h3⟩
 obtain⟨q,⟨n,hn⟩,hQ⟩:=key _ 0 v0 σ (Nat.le_refl _) (Nat.zero_le _) h0
 exact⟨q,wG hn,hQ⟩
theorem mj {β:Type} {f:List U→Heap→Option LS} {K:LS→Option β} {v0:List U} {σ:Heap} {P:β→Prop} {Q:LS→Prop} (h:∃q,A.loop f v0 σ=some q∧Q q) (k:∀q,Q q→∃b,K q=some b∧P b):∃b,(A.loop f v0 σ).bind K=some b∧P b:=by
 obtain⟨q,h1,h2⟩:=h
 obtain⟨b,h3,h4⟩:=k q h2
 exact⟨b,by rw[h1];exact h3,h4⟩
section
variable {α : Type} {c : α → List U} {sz : Nat} {B : aV → Prop} {ay σ : Heap} {R : HP} {v : U} {l : List α}
theorem Ej (H:Hs B ay σ (Sl (fl c) sz v l*R)) {i:Nat} {x:α} (hx:l[i]? =some x):∃p,A.aN sz v (.int .i64 (i:Int))=some p∧A.deref p σ=some (c x):=by
 have hi:=(List.getElem?_eq_some_iff.1 hx).1
 rcases uE H with⟨rfl,_,_⟩|⟨id,g,rfl,K⟩
 ·simp at hx
 ·obtain⟨h1,h2⟩:=lB K
  have hi':((i:Int)<(l.length:Int)):=by omega
  exact⟨.oe id g i 0,by simp [A.aN,A.idx,hi'],by simp [A.deref,h2,hx]⟩
theorem Kn {most:Nat} {m r:List U→Heap→Option (U×Heap)} {r0:U→Heap→Option (U×Heap)} (hm:m=A.BS (A.wrap true [(.s sz)] .k (A.dU r0))) (hr:∀a σ,r0 a σ=(A.vU a .aH).bind fun x1=>A.cond x1 (some (.aH,σ)) ((A.append sz most .ez a σ).bind fun r2=>some (r2.1,r2.2)))
  (hl:l.length≤most) (hB:∀g g' seg,(seg=[]∨B (.arr g sz seg))→B (.arr g' sz (seg++l.map c))) (H:Hs B ay σ R):∃v σ',m [sl sz c l] σ=some (v,σ')∧A.cell v=some v∧Hs B ay σ' (Sl (fl c) sz v l*R):=by
 subst hm
 cases l with
 |nil=>exact⟨.ez,σ,rfl,rfl,qx H (.inr rfl)⟩
 |cons x l=>
  obtain⟨v',σ',e1,H2⟩:=BZ (B:=B) (E:=fl c) (sz:=sz) (v:=.ez) (l:=[]) (ys:=(x::l).map c) (xs:=x::l) (most:=most) (qx (KJ.2 ⟨rfl,H⟩) (.inr rfl)) (by simpa using hl) hB
  have hv:A.cell v'=some v':=by
   rcases uE H2 with⟨h,_,_⟩|⟨id,g,rfl,_⟩
   ·cases h
   ·rfl
  refine⟨v',σ',?_,hv,H2⟩
  show A.wrap true [(.s sz)] .k (A.dU r0) [sl sz c (x::l)] σ=_
  refine wrap_eq rfl ?_ rfl
  show r0 (sl sz c (x::l)) σ=_
  rw[hr,show A.vU (sl sz c (x::l)) .aH=some (.bool false)from rfl,Option.bind_some,eC,show sl sz c (x::l)=.sl sz ((x::l).map c)from rfl,e1]
  rfl
end
section
variable {ay σ : Heap} {R : HP}
theorem YD {l:List aS} (hl:l.length≤2199023255552) (H:Hs aX ay σ R):∃v σ',Dc [sl 8 aF l] σ=some (v,σ')∧A.cell v=some v∧Hs aX ay σ' (Sl (fl aF) 8 v l*R):=
 Kn (most:=140737488355328 / 64) (r:=fun _ _=>none) rfl (fun _ _=>rfl) (by simpa using hl) (fun _ _ _ _=>trivial) H
theorem YE {l:List kL} (hl:l.length≤8796093022208) (H:Hs aX ay σ R):∃v σ',C9 [sl 2 cW l] σ=some (v,σ')∧A.cell v=some v∧Hs aX ay σ' (Sl (fl cW) 2 v l*R):=
 Kn (most:=140737488355328 / 16) (r:=fun _ _=>none) rfl (fun _ _=>rfl) (by simpa using hl) (fun _ _ _ _=>trivial) H
theorem ako {l:List aO} (hl:l.length≤1099511627776) (H:Hs aX ay σ R):∃v σ',IF [sl 11 aM l] σ=some (v,σ')∧A.cell v=some v∧Hs aX ay σ' (Sl (fl aM) 11 v l*R):=
 Kn (most:=140737488355328 / 128) (r:=fun _ _=>none) rfl (fun _ _=>rfl) (by simpa using hl) (fun _ _ _ _=>trivial) H
def kF (l:List aS) (m:aS):List aS:=if iS l m.key=true then l.set (dN l m.key) m else l.take (dN l m.key)++[m]++l.drop (dN l m.key)
theorem Kv {l:List aS} (hs:iM l) {k:aA} (h:iS l k=true):∃x,l[dN l k]? =some x:=by
 rw[←Ke hs]at h
 cases hx:l[dN l k]? with
 |none=>rw[hx]at h;cases h
 |some x=>exact⟨x,rfl⟩
theorem YW {v:U} {l:List aS} {m:aS} {i:Nat} (hi:i≤l.length) (hl:l.length<2199023255552) (H:Hs aX ay σ (Sl (fl aF) 8 v l*R)):
  ∃v' σ',Bp [v,.int .i64 (i:Int),.sl 8 [aF m]] σ=some (v',σ')∧A.cell v'=some v'∧Hs aX ay σ' (Sl (fl aF) 8 v' (l.take i++[m]++l.drop i)*R):=by
 obtain⟨v',σ',e,H2⟩:=XJ (most:=140737488355328 / 64) (zs:=[ah,aW,ah,ah,aD,aD,ah,ah]) (yj:=E5) (B:=aX) (E:=fl aF) (y:=m) (ye:=aF m)
  (hs_eq (show pr (aF m=aF m)*(Sl (fl aF) 8 v l*R)=_ by rw[show fl aF (aF m) m=pr (aF m=aF m)from rfl];ac_rfl) (jC.2 ⟨rfl,H⟩)) hi (by omega) (by omega) (fun _ _ _ _ _=>trivial)
 have hv:A.cell v'=some v':=by
  rcases uE H2 with⟨h,_,_⟩|⟨id,g,rfl,_⟩
  ·simp at h
  ·rfl
 refine⟨v',σ',?_,hv,H2⟩
 unfold Bp A.wrap
 rw[Bool.false_and,cond_false,show A.bY [] [v,.int .i64 (i:Int),.sl 8 [aF m]]=[v,.int .i64 (i:Int),.sl 8 [aF m]] by simp [A.bY]]
 show(IE v (.int .i64 (i:Int)) (.sl 8 [aF m]) σ).map _=_
 rw[show IE v (.int .i64 (i:Int)) (.sl 8 [aF m]) σ=some (v',σ')from e]
 simp [jK]
theorem F5 {α:Type} {E:List U→α→HP} {sz:Nat} {B:aV→Prop} {v:U} {l:List α} (H:Hs B ay σ (Sl E sz v l*R)):A.cell v=some v:=by
 rcases sw H with⟨_,rfl|rfl,_⟩|⟨id,g,seg,rfl,_⟩<;>rfl
theorem F0 (m:aS):(((A.cells 8 (.agg (aF m))).bind fun lK=>(A.splice 0 lK [ah,aW,ah,ah,aD,aD,ah,ah]).bind fun iV=>some iV).bind fun cs=>some (U.sl 8 (chunks 8 1 cs)))=some (.sl 8 [aF m]):=rfl
theorem Y0 {v:U} {l:List aS} {m:aS} {i:Nat} {x:aS} (hx:l[i]? =some x) (H:Hs aX ay σ (Sl (fl aF) 8 v l*R)):
  ∃p σ',A.aN 8 v (.int .i64 (i:Int))=some p∧A.storeAt p (aF m) σ=some σ'∧Hs aX ay σ' (Sl (fl aF) 8 v (l.set i m)*R):=by
 obtain⟨p,F,e,h1,hC,K,back⟩:=BQ H hx
 have he:e=aF x:=(jC.1 (jH K)).1
 subst he
 have K2:=jH (hs_eq (show _=pr (aF x=aF x)*(F (aF x)*R) by rw[show fl aF (aF x) x=pr (aF x=aF x)from rfl];ac_rfl) K)
 obtain⟨σ',h2,K3⟩:=hC.st K2 (sx m (aF x) rfl)
 refine⟨p,σ',h1,h2,back (e:=aF m) (hs_eq (show pr (aF m=aF m)*(F (aF m)*R)=_ by rw[show fl aF (aF m) m=pr (aF m=aF m)from rfl];ac_rfl) (jC.2 ⟨rfl,K3⟩))⟩
theorem OJ {p:U} {F:List U→HP} (hC:Cl p F) {e:List U} (o:Nat) (H:Hs aX ay σ (F e*R)) {vm:U} (h1:A.an 0 (e.drop o)=some vm):∃q,A.bA o p=some q∧((A.deref q σ).bind fun c=>A.an 0 c)=some vm:=by
 obtain⟨q,a1,a2,_⟩:=hC.fa o
 exact⟨q,a1,by rw[a2 H,Option.bind_some,h1]⟩
theorem Uh {e:List U} {x:aO} (H:Hs aX ay σ (uP e x*R)) (hs:iM x.aJ) (hl:x.aJ.length<4611686018427387904) (k:aA):Aa [.agg e,.agg (aK k)] σ=some (.aL [.int .i64 (dN x.aJ k:Int),.bool (iS x.aJ k)],σ):=
 ze (cB:=[.a iA]) (ts:=[.agg (aM x),.agg (aK k)]) ⟨Pw H,uN (pY (uI k)) rfl,trivial⟩ (fun σ=>ag3 hs hl k σ) rfl
theorem ajY {p:U} {F:List U→HP} {e:List U} {x:aO} {m:aS} (hC:Cl p F) (H:Hs aX ay σ (F e*(dD e x*R))) (hs:iM x.aJ) (hl:x.aJ.length<2199023255552):
  ∃σ' e',DP [p,.agg (aF m)] σ=some (.aL [],σ')∧Hs aX ay σ' (F e'*(dD e' {x with aJ:=kF x.aJ m}*R)):=by
 obtain⟨vp,vm,he,K⟩:=A1 (hs_eq (show _=nj (Sl (fl aF) 8) e x*(F e*R)from by rw[show dD e x=nj (Sl (fl aF) 8) e x from rfl];ac_rfl) H)
 have zD:=Uh (FP (hs_eq (show _=dD e x*(F e*R) by ac_rfl) H)) hs (by omega) m.key
 have hld:=hC.ld H
 have qp:Hs aX ay σ (Sl (fl aF) 8 vm x.aJ*(F e*(Sf cW 2 vp x.dg.points*R))):=hs_eq (by ac_rfl) K
 have mk:∀{σ:Heap} {kJ:U} {l:List aS},Hs aX ay σ (F (cK x vp kJ)*(Sl (fl aF) 8 kJ l*(Sf cW 2 vp x.dg.points*R)))→Hs aX ay σ (F (cK x vp kJ)*(dD (cK x vp kJ) {x with aJ:=l}*R)):=by
  intro σ kJ l K
  have:=D0 (M:=Sl (fl aF) 8) (x:={x with aJ:=l}) (e:=cK x vp kJ) (vp:=vp) (vm:=kJ) (R:=F (cK x vp kJ)*R) (B:=aX) (ay:=ay) (σ:=σ) rfl (hs_eq (by ac_rfl) K)
  exact hs_eq (by rw[show dD (cK x vp kJ) {x with aJ:=l}=nj (Sl (fl aF) 8) (cK x vp kJ) {x with aJ:=l}from rfl];ac_rfl) this
 have run:∃σ' e',FM p (.agg (aF m)) σ=some (.aL [],σ')∧Hs aX ay σ' (F e'*(dD e' {x with aJ:=kF x.aJ m}*R)):=by
  subst he
  unfold FM
  rw[yz,Option.bind_some,hC.nc,Option.bind_some,hld,Option.bind_some]
  rw[show A.az 0 11 (cK x vp vm)=some (.agg (cK x vp vm))from rfl,Option.bind_some,Bu,Option.bind_some,quiet_of zD,Option.bind_some]
  show ∃σ' e',A.cond (.bool (iS x.aJ m.key)) _ _=_∧_
  obtain⟨q,f1,f2⟩:=OJ hC 10 H (vm:=vm) (by
   have:=F5 qp
   simp only[cK,List.drop_succ_cons,List.drop_zero,A.an,List.getElem?_cons_zero,Option.bind_some]
   exact this)
  cases hh:iS x.aJ m.key
  ·rw[eC]
   rw[Option.bind_some,f1,Option.bind_some,f2,Option.bind_some,tj,Option.bind_some,F0,Option.bind_some]
   obtain⟨v',σ1,e1,e2,H1⟩:=YW (m:=m) (PE x.aJ m.key) hl qp
   rw[e1,Option.bind_some,Option.bind_some]
   simp only
   rw[f1,Option.bind_some,e2,Option.bind_some,Option.bind_some]
   obtain⟨q',g1,_,g3⟩:=hC.fa 10
   rw[f1]at g1;injection g1 with g1;subst g1
   obtain⟨σ2,e3,H2⟩:=g3 (hs_eq (show _=F (cK x vp vm)*(Sl (fl aF) 8 v' (x.aJ.take (dN x.aJ m.key)++[m]++x.aJ.drop (dN x.aJ m.key))*(Sf cW 2 vp x.dg.points*R)) by ac_rfl) H1) (new:=[v']) (e':=cK x vp v') rfl
   rw[e3,Option.bind_some]
   refine⟨σ2,cK x vp v',rfl,?_⟩
   rw[kF,if_neg (by rw[hh];decide)]
   exact mk H2
  ·rw[fO]
   obtain⟨y,hy⟩:=Kv hs hh
   obtain⟨pp,σ1,e1,e2,H1⟩:=Y0 (m:=m) hy qp
   rw[Option.bind_some,f1,Option.bind_some,f2,Option.bind_some,tj,Option.bind_some,e1,Option.bind_some,yz,Option.bind_some,e2,Option.bind_some]
   refine⟨σ1,cK x vp vm,rfl,?_⟩
   rw[kF,if_pos hh]
   exact mk (hs_eq (by ac_rfl) H1)
 obtain⟨σ',e',h1,h2⟩:=run
 refine⟨σ',e',?_,h2⟩
 unfold DP A.wrap
 rw[Bool.false_and,cond_false,show A.bY [] [p,.agg (aF m)]=[p,.agg (aF m)] by simp [A.bY]]
 show(FM p (.agg (aF m)) σ).map _=_
 rw[h1]
 simp [jK]
end
end
section
open HP
section
variable {ay σ : Heap} {R : HP}
def Small (l:List aO):Prop:=l.length≤1099511627776∧∀c∈l,c.aJ.length≤2199023255552∧c.dg.points.length≤8796093022208
theorem ahb (x:aO) (vp vm:U):(((A.cells 11 (.agg (cK x vp vm))).bind fun i7=>(A.splice 0 i7 [ah,aW,ah,ah,ah,ah,ah,U.aH,aD,ah,U.aH]).bind fun iu=>some iu).bind fun cs=>some (U.sl 11 (chunks 11 1 cs)))=some (.sl 11 [cK x vp vm]):=rfl
theorem agA {l:List aO} (hl:Small l) (hx:l.length≤aY) (H:Hs aX ay σ R):∃v σ',I7 [sl 11 aM l] σ=some (v,σ')∧Hs aX ay σ' (Sl dD 11 v l*R):=by
 have run:∃b:U×Heap,Jb (sl 11 aM l) σ=some b∧Hs aX ay b.2 (Sl dD 11 b.1 l*R):=by
  unfold Jb
  rw[cu,Option.bind_some]
  refine mj (Q:=fun q=>∃v w,q.1=.exit 0∧q.2.1=[v,w]∧Hs aX ay q.2.2 (Sl dD 11 v l*R)) (mY l (fun i v s=>∃h,v=[h,.int .i64 (i:Int)]∧Hs aX ay s (Sl dD 11 h (l.take i)*R)) ?_ ?_ ⟨.aH,rfl,qx H (.inl rfl)⟩) ?_
  ·rintro i x v s hx1 ⟨h,rfl,K⟩
   obtain⟨hm,hp⟩:=hl.2 x (List.mem_of_getElem? hx1)
   have hi:=(List.getElem?_eq_some_iff.1 hx1).1
   simp only[List.getD_cons_succ,List.getD_cons_zero]
   rw[eR hx1,Option.bind_some,fO,dR hx1,Option.bind_some]
   simp only[A.deref,Option.bind_some]
   rw[uJ,Option.bind_some,F4,Option.bind_some,yF _ _ rfl,Option.bind_some,show A.an 7 (aM x)=some (sl 2 cW x.dg.points)from rfl,Option.bind_some]
   obtain⟨vp,s1,e1,e2,K1⟩:=YE hp K
   rw[e1,Option.bind_some,e2,Option.bind_some,Option.bind_some,show A.splice 7 [vp] (aM x)=some (cK x vp (sl 8 aF x.aJ))from rfl,Option.bind_some,show A.an 10 (cK x vp (sl 8 aF x.aJ))=some (sl 8 aF x.aJ)from rfl,Option.bind_some]
   obtain⟨vm,s2,e3,e4,K2⟩:=YD hm K1
   rw[e3,Option.bind_some,e4,Option.bind_some,Option.bind_some,show A.splice 10 [vm] (cK x vp (sl 8 aF x.aJ))=some (cK x vp vm)from rfl,Option.bind_some,show A.az 0 11 (cK x vp vm)=some (.agg (cK x vp vm))from rfl,Option.bind_some,ahb,Option.bind_some]
   have K3:=D0 (M:=Sl (fl aF) 8) (x:=x) (e:=cK x vp vm) rfl (hs_eq (show _=Sf cW 2 vp x.dg.points*(Sl (fl aF) 8 vm x.aJ*(Sl dD 11 h (l.take i)*R)) by ac_rfl) (Qa (hs_eq (show _=Sl (fl cW) 2 vp x.dg.points*(Sl (fl aF) 8 vm x.aJ*(Sl dD 11 h (l.take i)*R)) by ac_rfl) K2)))
   have K4:=hs_eq (show _=Sl dD 11 h (l.take i)*(els dD [cK x vp vm] [x]*R) by rw[Ks,show dD (cK x vp vm) x=nj (Sl (fl aF) 8) (cK x vp vm) x from rfl];ac_rfl) K3
   have hm2:=hl.1
   obtain⟨h',s3,e5,K5⟩:=BZ (most:=140737488355328 / 128) K4 (by simp;omega) (fun _ _ _ _=>trivial)
   rw[e5,Option.bind_some,dB hx1 hx,Option.bind_some]
   refine⟨_,_,rfl,h',rfl,?_⟩
   rw[List.take_add_one,hx1]
   exact K5
  ·rintro v s ⟨h,rfl,K⟩
   simp only[List.getD_cons_succ,List.getD_cons_zero]
   rw[eO,Option.bind_some,eC]
   refine⟨_,rfl,by simp,h,_,rfl,rfl,?_⟩
   rw[List.take_length]at K;exact K
  ·rintro⟨e,v,s⟩ ⟨h,w,h1,h2,K⟩
   simp only at h1 h2 K
   subst h1;subst h2
   exact⟨_,rfl,K⟩
 obtain⟨⟨v,σ'⟩,h1,h2⟩:=run
 refine⟨v,σ',wrap_eq rfl ?_ rfl,h2⟩
 rw[show A.bY [Sh.e 11 B6] [sl 11 aM l]=[sl 11 aM l]from bH (gR (fun _=>rfl) _) rfl]
 exact h1
theorem KK {v v':U} (H:Hs aX ay σ R) (h:A.bT σ ay.length 8 v=some v') (hv:σ=ay→v'=v):A.fin ay v σ=some (v',ay):=by
 obtain⟨⟨bs,rfl,_⟩,_⟩:=H
 by_cases nW:bs=[]
 ·subst nW
  rw[List.append_nil]at h ⊢
  rw[bK,hv (by simp)]
 ·unfold A.fin
  rw[if_neg (by simpa using nW),if_pos (by simp),h];rfl
end
end
section
open HP
theorem Wj {l:List aO} (h:Good l):Small l:=⟨by have:=h.len;omega,fun c hc=>⟨by have:=(h.mv c hc).1;omega,by have:=h.pts c hc;omega⟩⟩
theorem PK {l:List aS} (h:iM l) (m:aS):iM (kF l m):=by
 unfold kF
 have hlt:∀x∈l.take (dN l m.key),dZ x.key m.key=true:=fun x hx=>by
  obtain⟨i,hi⟩:=List.mem_iff_getElem?.1 hx
  rw[List.getElem?_take]at hi
  split at hi
  ·rename_i hlt;exact(BO h hi).2 hlt
  ·cases hi
 have hge:∀x∈l.drop (dN l m.key),dZ x.key m.key=false:=fun x hx=>by
  obtain⟨i,hi⟩:=List.mem_iff_getElem?.1 hx
  rw[List.getElem?_drop]at hi
  cases hq:dZ x.key m.key
  ·rfl
  ·have:=(BO h hi).1 hq;omega
 split
 ·rename_i hh
  obtain⟨y,hy⟩:=Kv h hh
  have hk:y.key=m.key:=by
   have:=Ke (k:=m.key) h
   rw[hh,hy]at this
   simpa using this
  unfold iM at h ⊢
  rw[List.pairwise_iff_getElem]at h ⊢
  intro i j hi hj hij
  simp only[List.length_set]at hi hj
  have hp:=(List.getElem?_eq_some_iff.1 hy).1
  have key:∀k (hk':k<l.length),((l.set (dN l m.key) m)[k]'(by simpa using hk')).key=l[k].key:=by
   intro k hk'
   rw[List.getElem_set]
   split
   ·rename_i e;subst e;exact hk.symm.trans (congrArg aS.key (List.getElem?_eq_some_iff.1 hy).2.symm)
   ·rfl
  rw[key i hi,key j hj]
  exact h i j hi hj hij
 ·rename_i hh
  unfold iM at h ⊢
  rw[List.append_assoc,List.pairwise_append]
  refine⟨h.sublist (List.take_sublist _ _),?_,fun x hx y hy=>?_⟩
  ·rw[List.singleton_append,List.pairwise_cons]
   refine⟨fun y hy=>?_,h.sublist (List.drop_sublist _ _)⟩
   cases hq:dZ m.key y.key
   ·exfalso
    have e:=WO hq (hge y hy)
    exact hh (List.any_eq_true.2 ⟨y,List.mem_of_mem_drop hy,by simp [e]⟩)
   ·rfl
  ·rcases List.mem_append.1 hy with hy|hy
   ·simp at hy;subst hy;exact hlt x hx
   ·have e:l.take (dN l m.key)++l.drop (dN l m.key)=l:=List.take_append_drop _ _
    rw[←e,List.pairwise_append]at h
    exact h.2.2 x hx y hy
theorem PF (l:List aS) (m:aS):(kF l m).length≤l.length+1:=by
 unfold kF
 split
 ·simp
 ·simp;omega
def dX (l:List aO) (i:Nat) (g:List aS→List aS):List aO:=match l[i]? with
 |some c=>l.set i {c with aJ:=g c.aJ}
 |none=>l
theorem af7 (l:List aO) (i:Nat) (g:List aS→List aS):(dX l i g).length=l.length:=by unfold dX;split<;>simp
def Inv (k:Nat) (l:List aO):Prop:=l.length≤1000∧∀c∈l,iM c.aJ∧c.aJ.length≤2000+k
theorem Inv.mono {k k':Nat} {l:List aO} (h:Inv k l) (hk:k≤k'):Inv k' l:=⟨h.1,fun c hc=>⟨(h.2 c hc).1,by have:=(h.2 c hc).2;omega⟩⟩
theorem Inv.dX {k:Nat} {l:List aO} (h:Inv k l) (i:Nat) (m:aS):Inv (k+1) (dX l i (kF · m)):=by
 refine⟨by rw[af7];exact h.1,fun c hc=>?_⟩
 unfold Go.Proofs.YtphgchakmkankaaGreat.dX at hc
 split at hc
 ·rename_i x hx
  rcases List.mem_or_eq_of_mem_set hc with hc|hc
  ·exact⟨(h.2 c hc).1,by have:=(h.2 c hc).2;omega⟩
  ·subst hc
   have hx':=h.2 x (List.mem_of_getElem? hx)
   exact⟨PK hx'.1 m,by have:=PF x.aJ m;show(kF x.aJ m).length≤_;omega⟩
 ·exact⟨(h.2 c hc).1,by have:=(h.2 c hc).2;omega⟩
theorem Inv.erase {k:Nat} {l:List aO} (h:Inv k l) (i:Nat):Inv k (l.eraseIdx i):=
 ⟨by have:=List.length_eraseIdx_le l i;have:=h.1;omega,fun c hc=>h.2 c (List.mem_of_mem_eraseIdx hc)⟩
theorem Inv.small {k:Nat} {l:List aO} (h:Inv k l) (hk:k≤100000):∀c∈l,iM c.aJ∧c.aJ.length<4611686018427387904:=fun c hc=>⟨(h.2 c hc).1,by have:=(h.2 c hc).2;omega⟩
section
variable {ay σ : Heap} {R : HP}
theorem Jv {α β:Type} (f:β→α→β) (b:β) (l:List α) {i:Nat} {x:α} (h:l[i]? =some x):(l.take (i+1)).foldl f b=f ((l.take i).foldl f b) x:=by
 rw[List.take_add_one,h,Option.toList_some,List.foldl_append];rfl
end
end
section
open HP
section
variable {α β : Type} {E : List U → β → HP} {f : α → β} {B : aV → Prop} {ay σ : Heap} {R : HP} {sz : Nat} {v : U}
theorem WB:∀(seg:List (List U)) (l:List α),els E seg (l.map f)=els (fun e x=>E e (f x)) seg l
 |[],[]=>rfl
 |[],_::_=>rfl
 |_::_,[]=>rfl
 |e::seg,x::l=>by rw[List.map_cons,els,els,WB seg l]
theorem XL (l:List α):Sl E sz v (l.map f)=Sl (fun e x=>E e (f x)) sz v l:=by
 funext h
 unfold Sl
 simp only[List.map_eq_nil_iff,List.length_map,WB]
end
section
variable {ay σ : Heap} {R : HP} {v : U}
theorem P4 {α:Type} {c:α→List U} {sz:Nat} {l:List α} {vm:U} (hc:∀x,jD (c x)) (H:Hs aX ay σ (Sl (fl c) sz vm l*R)):Lt σ (.s sz) vm (sl sz c l):=by
 obtain⟨v',h1,h2,h3⟩:=Qb H hc (Nat.zero_le _) 7
 refine⟨⟨v',h1,?_,by rw[h3];rfl⟩,rfl,fun ho=>?_⟩
 ·rcases uE H with⟨rfl,rfl|rfl,_⟩|⟨id,g,rfl,K⟩
  ·simp [A.bT]at h1;subst h1;rfl
  ·simp [A.bT]at h1;subst h1;rfl
  ·cases v'<;>first|rfl|(cases h2;done)|(simp only[A.nn]at h3;cases h3)
 ·rcases uE H with⟨rfl,rfl|rfl,_⟩|⟨id,g,rfl,K⟩
  ·rfl
  ·rfl
  ·cases ho
theorem Ui {l:List aS} {vm:U} (H:Hs aX ay σ (Sl (fl aF) 8 vm l*R)) (hs:iM l) (hl:l.length<4611686018427387904) (k:aA):Ad [vm,.agg (aK k)] σ=some (.aL [.int .i64 (dN l k:Int),.bool (iS l k)],σ):=
 ze (cB:=[.s 8]) (ts:=[sl 8 aF l,.agg (aK k)]) ⟨P4 Ai H,uN (pY (uI k)) rfl,trivial⟩ (fun σ=>TO (V1 hs hl k)) rfl
theorem ak0 {l:List aS} {vm:U} {m:aS} (H:Hs aX ay σ (Sl (fl aF) 8 vm l*R)) (hs:iM l) (hl:l.length<2199023255552):∃v' σ',BI [vm,.agg (aF m)] σ=some (v',σ')∧A.cell v'=some v'∧Hs aX ay σ' (Sl (fl aF) 8 v' (kF l m)*R):=by
 have run:∃v' σ',FY vm (.agg (aF m)) σ=some (v',σ')∧A.cell v'=some v'∧Hs aX ay σ' (Sl (fl aF) 8 v' (kF l m)*R):=by
  unfold FY
  rw[yz,Option.bind_some,Bu,Option.bind_some,Ui H hs (by omega),Option.bind_some]
  show ∃v' σ',A.cond (.bool (iS l m.key)) _ _=_∧_
  cases hh:iS l m.key
  ·obtain⟨v',σ1,e1,e2,H1⟩:=YW (m:=m) (PE l m.key) hl H
   rw[eC,tj,Option.bind_some,F0,Option.bind_some,e1,Option.bind_some]
   refine⟨v',σ1,rfl,e2,?_⟩
   rw[kF,if_neg (by rw[hh];decide)];exact H1
  ·obtain⟨y,hy⟩:=Kv hs hh
   obtain⟨pp,σ1,e1,e2,H1⟩:=Y0 (m:=m) hy H
   rw[fO,tj,Option.bind_some,e1,Option.bind_some,yz,Option.bind_some,e2,Option.bind_some]
   refine⟨vm,σ1,rfl,F5 H,?_⟩
   rw[kF,if_pos hh];exact H1
 obtain⟨v',σ',h1,h2⟩:=run
 refine⟨v',σ',?_,h2⟩
 unfold BI A.wrap
 rw[Bool.false_and,cond_false,show A.bY [] [vm,.agg (aF m)]=[vm,.agg (aF m)] by simp [A.bY]]
 show(FY vm (.agg (aF m)) σ).map _=_
 rw[h1]
 simp [jK]
theorem afU {p:U} {F:List U→HP} {e:List U} {x:aO} (hC:Cl p F) (H:Hs aX ay σ (F e*(dD e x*R))) (hs:iM x.aJ) (hl:x.aJ.length<2199023255552):∃q vm,A.bA 10 p=some q∧((A.deref q σ).bind fun c=>A.an 0 c)=some vm∧(∀k,Ad [vm,.agg (aK k)] σ=some (.aL [.int .i64 (dN x.aJ k:Int),.bool (iS x.aJ k)],σ))∧
  ∀m,∃v' σ1 σ2,BI [vm,.agg (aF m)] σ=some (v',σ1)∧A.cell v'=some v'∧A.storeAt q [v'] σ1=some σ2∧∃e',Hs aX ay σ2 (F e'*(dD e' {x with aJ:=kF x.aJ m}*R)):=by
 obtain⟨vp,vm,he,K⟩:=A1 (hs_eq (show _=nj (Sl (fl aF) 8) e x*(F e*R)from by rw[show dD e x=nj (Sl (fl aF) 8) e x from rfl];ac_rfl) H)
 subst he
 have qp:Hs aX ay σ (Sl (fl aF) 8 vm x.aJ*(F (cK x vp vm)*(Sf cW 2 vp x.dg.points*R))):=hs_eq (by ac_rfl) K
 obtain⟨q,f1,f2⟩:=OJ hC 10 H (vm:=vm) (by
  have:=F5 qp
  simp only[cK,List.drop_succ_cons,List.drop_zero,A.an,List.getElem?_cons_zero,Option.bind_some]
  exact this)
 refine⟨q,vm,f1,f2,fun k=>Ui qp hs (by omega) k,fun m=>?_⟩
 obtain⟨v',σ1,e1,e2,H1⟩:=ak0 (m:=m) qp hs hl
 obtain⟨q',g1,_,g3⟩:=hC.fa 10
 rw[f1]at g1;injection g1 with g1;subst g1
 obtain⟨σ2,e3,H2⟩:=g3 (hs_eq (show _=F (cK x vp vm)*(Sl (fl aF) 8 v' (kF x.aJ m)*(Sf cW 2 vp x.dg.points*R)) by ac_rfl) H1) (new:=[v']) (e':=cK x vp v') rfl
 refine⟨v',σ1,σ2,e1,e2,e3,cK x vp v',?_⟩
 have:=D0 (M:=Sl (fl aF) 8) (x:={x with aJ:=kF x.aJ m}) (e:=cK x vp v') (vp:=vp) (vm:=v') (R:=F (cK x vp v')*R) (B:=aX) (ay:=ay) (σ:=σ2) rfl (hs_eq (by ac_rfl) H2)
 exact hs_eq (by rw[show dD (cK x vp v') {x with aJ:=kF x.aJ m}=nj (Sl (fl aF) 8) (cK x vp v') {x with aJ:=kF x.aJ m}from rfl];ac_rfl) this
theorem aiF {l:List aO} {i:Nat} {x:aO} (hx1:l[i]? =some x):((l.take i).map (fun x=>(x,true))++(l.drop i).map (fun x=>(x,false))).set i (x,true)=(l.take (i+1)).map (fun x=>(x,true))++(l.drop (i+1)).map (fun x=>(x,false)):=by
 have hi:=(List.getElem?_eq_some_iff.1 hx1).1
 have e:l.drop i=x::l.drop (i+1):=by rw[List.drop_eq_getElem_cons hi,(List.getElem?_eq_some_iff.1 hx1).2]
 rw[e,List.take_add_one,hx1,List.set_append_right _ _ (by simp;omega)]
 rw[show i-((l.take i).map fun x=>(x,true)).length=0 by simp;omega]
 simp
def Le (e:List U) (y:aO×Bool):HP:=match y.2 with|true=>dD e y.1|false=>fl aM e y.1
theorem agz {l:List aO} (hl:Small l) (hx:l.length≤aY) (H:Hs aX ay σ R):∃v σ',Jk [sl 11 aM l] σ=some (v,σ')∧Hs aX ay σ' (Sl dD 11 v l*R):=by
 have run:∃b:U×Heap,Jo (sl 11 aM l) σ=some b∧Hs aX ay b.2 (Sl dD 11 b.1 l*R):=by
  unfold Jo
  obtain⟨v,s0,e1,_,K0⟩:=ako hl.1 H
  rw[e1,Option.bind_some,XK K0,Option.bind_some]
  refine mj (Q:=fun q=>q.1=.exit 0∧Hs aX ay q.2.2 (Sl dD 11 v l*R)) (mY l (fun i w s=>w=[.int .i64 (i:Int)]∧Hs aX ay s (Sl Le 11 v ((l.take i).map (fun x=>(x,true))++(l.drop i).map (fun x=>(x,false)))*R)) ?_ ?_ ⟨rfl,?_⟩) ?_
  ·rintro i x w s hx1 ⟨rfl,K⟩
   obtain⟨hm,hp⟩:=hl.2 x (List.mem_of_getElem? hx1)
   have hi:=(List.getElem?_eq_some_iff.1 hx1).1
   have dY:((l.take i).map (fun x=>(x,true))++(l.drop i).map (fun x=>(x,false)))[i]? =some (x,false):=by
    rw[List.getElem?_append_right (by simp;omega)]
    simp only[List.length_map,List.length_take,Nat.min_eq_left (Nat.le_of_lt hi),Nat.sub_self,List.getElem?_map,List.getElem?_drop,Nat.add_zero,hx1]
    rfl
   obtain⟨p,F,e,h1,hC,K1,back⟩:=BQ K dY
   have he:e=aM x:=(jC.1 (jH K1)).1
   subst he
   have K2:=jH (hs_eq (show _=pr (aM x=aM x)*(F (aM x)*R) by rw[show Le (aM x) (x,false)=pr (aM x=aM x)from rfl];ac_rfl) K1)
   obtain⟨q,f1,f2,f3⟩:=hC.fa 10
   obtain⟨q6,g1,_,_⟩:=hC.fa 6
   obtain⟨q7,k1,k2,k3⟩:=hC.fa 7
   have g2:A.bA 1 q6=some q7:=by rw[hC.fc 6 1 q6 g1];exact k1
   simp only[List.getD_cons_zero]
   rw[eR hx1,Option.bind_some,fO,h1,Option.bind_some,f1,Option.bind_some,f2 K2,Option.bind_some,show A.an 0 ((aM x).drop 10)=some (sl 8 aF x.aJ)from rfl,Option.bind_some]
   obtain⟨vm,s1,e3,e4,K3⟩:=YD hm K2
   obtain⟨s2,e5,K4⟩:=f3 (hs_eq (show _=F (aM x)*(Sl (fl aF) 8 vm x.aJ*R) by ac_rfl) K3) (new:=[vm]) (e':=cK x (sl 2 cW x.dg.points) vm) rfl
   rw[e3,Option.bind_some,Option.bind_some,f1,Option.bind_some,e4,Option.bind_some,Option.bind_some,e5,Option.bind_some,Option.bind_some,g1,Option.bind_some,g2,Option.bind_some,k2 K4,Option.bind_some,show A.an 0 ((cK x (sl 2 cW x.dg.points) vm).drop 7)=some (sl 2 cW x.dg.points)from rfl,Option.bind_some]
   obtain⟨vp,s3,e6,e7,K5⟩:=YE hp K4
   obtain⟨s4,e8,K6⟩:=k3 (hs_eq (show _=F (cK x (sl 2 cW x.dg.points) vm)*(Sl (fl cW) 2 vp x.dg.points*(Sl (fl aF) 8 vm x.aJ*R)) by ac_rfl) K5) (new:=[vp]) (e':=cK x vp vm) rfl
   rw[e6,Option.bind_some,Option.bind_some,g1,Option.bind_some,g2,Option.bind_some,e7,Option.bind_some,Option.bind_some,e8,Option.bind_some,dB hx1 hx,Option.bind_some]
   refine⟨_,_,rfl,rfl,?_⟩
   have K7:=D0 (M:=Sl (fl aF) 8) (x:=x) (e:=cK x vp vm) rfl (hs_eq (show _=Sf cW 2 vp x.dg.points*(Sl (fl aF) 8 vm x.aJ*(F (cK x vp vm)*R)) by ac_rfl) (Qa (hs_eq (show _=Sl (fl cW) 2 vp x.dg.points*(F (cK x vp vm)*(Sl (fl aF) 8 vm x.aJ*R)) by ac_rfl) K6)))
   have K8:=back (y:=(x,true)) (hs_eq (show _=F (cK x vp vm)*(Le (cK x vp vm) (x,true)*R) by rw[show Le (cK x vp vm) (x,true)=nj (Sl (fl aF) 8) (cK x vp vm) x from rfl];ac_rfl) K7)
   refine hs_eq ?_ K8
   rw[aiF hx1]
  ·rintro w s ⟨rfl,K⟩
   simp only[List.getD_cons_zero]
   rw[eO,Option.bind_some,eC]
   refine⟨_,rfl,by simp,rfl,?_⟩
   rw[List.take_length,List.drop_length,List.map_nil,List.append_nil,XL]at K
   exact K
  ·rw[List.take_zero,List.map_nil,List.nil_append,List.drop_zero,XL]
   exact K0
  ·rintro⟨e,w,s⟩ ⟨h1,K⟩
   simp only at h1 K
   subst h1
   exact⟨_,rfl,K⟩
 obtain⟨⟨v,σ'⟩,h1,h2⟩:=run
 refine⟨v,σ',wrap_eq rfl ?_ rfl,h2⟩
 rw[show A.bY [Sh.e 11 B6] [sl 11 aM l]=[sl 11 aM l]from bH (gR (fun _=>rfl) _) rfl]
 exact h1
end
end
section
open HP
def Rn (l:List aO):Prop:=∀c∈l,lX c
theorem ah8 {l:List aS} {m x:aS} (h:x∈kF l m):x∈l∨x=m:=by
 unfold kF at h
 split at h
 ·exact List.mem_or_eq_of_mem_set h
 ·simp only[List.mem_append,List.mem_singleton]at h
  rcases h with(h|h)|h
  ·exact .inl (List.mem_of_mem_take h)
  ·exact .inr h
  ·exact .inl (List.mem_of_mem_drop h)
def KW (o:List aO):List aO×Int:=if lV o=0 then(o,0)else([],lV o)
theorem uT (a b:U):A.ext 0 (.aL [a,b])=some a:=rfl
theorem ext1 (a b:U):A.ext 1 (.aL [a,b])=some b:=rfl
theorem P6 {v:U} {o:List aO} {e:Int} (h:A.nn (.e 11 iA) v=sl 11 aM o):A.nn (.t [(.e 11 iA),.k]) (.aL [v,.int .i64 e])=.aL [sl 11 aM o,.int .i64 e]:=by
 show U.aL (A.bY [.e 11 iA,.k] [v,.int .i64 e])=_
 rw[bH h (bH (jK _) kE)]
theorem KO {e:Int}:A.nn (.t [(.e 11 iA),.k]) (.aL [.aH,.int .i64 e])=.aL [sl 11 aM [],.int .i64 e]:=P6 rfl
theorem aii (l:List aO) (cS:List U):A.bY [Sh.e 11 iA] (sl 11 aM l::cS)=sl 11 aM l::cS:=bH (Tt l) rfl
theorem Eo (a:Int):A.neq .i (.int .i64 a) (.int .i64 0)=some (.bool (decide (¬(a=0)))):=by rw[gB]
end
section
open HP
theorem Ki {l:List aO} {i j:Nat} (h:i≠j) (g:List aS→List aS):(dX l i g)[j]? =l[j]? :=by
 unfold dX
 split
 ·rw[List.getElem?_set_ne h]
 ·rfl
section
variable {ay σ : Heap} {R : HP}
theorem ae0 {v:U} {o:List aO} (H:Hs aX ay σ (Sl dD 11 v o*R)) (ho:cH lX o):Fw [v] σ=some (.aL [if lV o=0 then v else .aH,.int .i64 (lV o)],σ):=by
 have hf:Dj [v] σ=some (.int .i64 (lV o),σ):=ze (cB:=[.e 11 iA]) (ts:=[sl 11 aM o]) ⟨Kw H,trivial⟩ (fun σ=>S8 (Tm o ho)) rfl
 unfold Fw A.wrap
 rw[Bool.false_and,cond_false,show A.bY [] [v]=[v] by simp [A.bY]]
 show(Jq v σ).map _=_
 unfold Jq
 rw[hf,Option.bind_some,Eo,Option.bind_some]
 by_cases hq:lV o=0
 ·rw[decide_eq_false (by simp [hq]),eC,if_pos hq,hq];simp [jK]
 ·rw[decide_eq_true hq,fO,if_neg hq];simp [jK]
theorem WE {v:U} {l:List aO} {e:Int} (H:Hs aX ay σ (Sl uP 11 v l*R)):∃v',A.fin ay (.aL [v,.int .i64 e]) σ=some (.aL [v',.int .i64 e],ay)∧A.nn (.e 11 iA) v'=sl 11 aM l:=by
 obtain⟨v',h1,h2,h3⟩:=VF H (Nat.le_refl _) 6
 refine⟨v',KK H (by simp [A.bT,A.fE,h1]) (fun e=>?_),h3⟩
 rcases sw H with⟨rfl,rfl|rfl,_⟩|⟨id,g,seg,rfl,hl,K⟩
 ·simp [A.bT]at h1;rw[h1]
 ·simp [A.bT]at h1;rw[h1]
 ·obtain⟨k1,k2⟩:=lB K
  have:=(List.getElem?_eq_some_iff.1 k2).1
  subst e;omega
theorem WC {e:Int} (H:Hs aX ay σ R):A.fin ay (.aL [.aH,.int .i64 e]) σ=some (.aL [.aH,.int .i64 e],ay):=KK H (by simp [A.bT,A.fE]) (fun _=>rfl)
end
end
section
open HP
def jr:aV→Prop:=fun b=>A.vo b=true
section
variable {α : Type} {c : α → List U} {sz : Nat} {ay σ : Heap} {R : HP}
theorem KM {B:aV→Prop} (H:Hs B ay σ R) (bs:Heap) (nW:∀b∈bs,B b):Hs B ay (σ++bs) R:=by
 obtain⟨⟨b0,rfl,hb0⟩,h,hr,h2⟩:=H
 exact⟨⟨b0++bs,by simp,fun b hb=>(List.mem_append.1 hb).elim (hb0 b) (nW b)⟩,h,hr,fun i b hb=>⟨(h2 i b hb).1,by rw[List.getElem?_append_left (List.getElem?_eq_some_iff.1 (h2 i b hb).2).1];exact(h2 i b hb).2⟩⟩
theorem Xr {B:aV→Prop} (H:Hs B ay σ R) {bs:Heap} (nW:∀b∈bs,B b) {j:Nat} {b:aV} (hj:σ.length≤j) (hb:(σ++bs)[j]? =some b):Hs B ay (σ++bs) (blk j b*R):=by
 have hl:=Xt H
 have H2:=KM H bs nW
 obtain⟨_,h,hr,h2⟩:=H
 have hn:h j=none:=by
  cases hh:h j with
  |none=>rfl
  |some x=>have:=(List.getElem?_eq_some_iff.1 (h2 j x hh).2).1;omega
 refine⟨H2.pre,fun i=>if i=j then some b else h i,⟨fun i=>if i=j then some b else none,h,fun i=>rfl,hr,fun i=>?_,fun i=>?_⟩,fun i x hx=>?_⟩
 ·by_cases e:i=j
  ·subst e;exact .inr hn
  ·simp [e]
 ·by_cases e:i=j<;>simp [e]
 ·by_cases e:i=j
  ·subst e
   simp only[if_true,Option.some.injEq]at hx
   subst hx
   exact⟨by omega,hb⟩
  ·simp only[e,if_false]at hx
   obtain⟨k1,k2⟩:=h2 i x hx
   exact⟨k1,by rw[List.getElem?_append_left (List.getElem?_eq_some_iff.1 k2).1];exact k2⟩
def KS (m:List U→Heap→Option (U×Heap)) (args:List U) (c:α→List U) (sz:Nat) (l:List α):Prop:=
 ∀(ay σ:Heap) (R:HP),Hs jr ay σ R→∃v σ',m args σ=some (v,σ')∧Hs jr ay σ' (Sl (fl c) sz v l*R)
theorem ajX {B:aV→Prop} (EI:∀b,jr b→B b) {m:List U→Heap→Option (U×Heap)} {args:List U} {l:List α} (h:KS m args c sz l) (H:Hs B ay σ R):∃v σ',m args σ=some (v,σ')∧Hs B ay σ' (Sl (fl c) sz v l*R):=by
 obtain⟨v,σ',e1,K⟩:=h σ σ emp (AB σ)
 refine⟨v,σ',e1,?_⟩
 obtain⟨⟨bs,nW,hfr⟩,_⟩:=id K
 subst nW
 have EN:∀b∈bs,B b:=fun b hb=>EI b (hfr b hb)
 rcases uE K with⟨rfl,hv,_⟩|⟨id,g,rfl,K2⟩
 ·exact qx (KM H bs EN) hv
 ·obtain⟨k1,k2⟩:=lB K2
  exact XN (Xr H EN k1 k2)
theorem Ym {B:aV→Prop} (EI:∀b,jr b→B b) {cB:List Sh} {r:List U→Heap→Option (U×Heap)} {uW ts:List U} {l:List α} (h:EF σ cB uW ts) (e:KS (A.wrap true cB .k r) ts c sz l) (H:Hs B ay σ R):
  ∃v σ',A.wrap true cB .k r uW σ=some (v,σ')∧Hs B ay σ' (Sl (fl c) sz v l*R):=by
 obtain⟨⟨as',k1,k2,k3⟩,k4,k5⟩:=LH h
 cases ho:uW.any A.own
 ·obtain⟨v,σ',e1,K⟩:=ajX EI e H
  exact⟨v,σ',by rw[PL (k5 ho) ho k4];exact e1,K⟩
 ·obtain⟨v,σ1,e1,K⟩:=e [] [] emp (AB [])
  have e2:r (A.bY cB ts) []=some (v,σ1):=by
   unfold A.wrap at e1
   rw[k4,Bool.and_false,cond_false]at e1
   obtain⟨⟨q1,q2⟩,f1,f2⟩:=Option.map_eq_some_iff.1 e1
   simp only[Prod.mk.injEq,jK]at f2
   obtain⟨rfl,rfl⟩:=f2
   exact f1
  have hfr:∀b∈σ1,jr b:=by
   obtain⟨⟨bs,nW,hB⟩,_⟩:=K
   rw[List.nil_append]at nW
   subst nW
   exact hB
  have hb:σ1.all A.vo=true:=List.all_eq_true.2 hfr
  have EN:∀b∈σ1,B b:=fun b hb=>EI b (hfr b hb)
  have hw:∀v',A.xy v=true→A.vr σ.length v=v'→A.wrap true cB .k r uW σ=some (v',σ++σ1):=by
   intro v' h1 h2
   unfold A.wrap
   rw[ho,Bool.and_self,cond_true,k1,Option.bind_some,k3,e2,Option.bind_some,jK]
   simp only[h1,hb,Bool.and_self,cond_true,h2]
  rcases uE K with⟨rfl,rfl|rfl,_⟩|⟨id,g,rfl,K2⟩
  ·exact⟨.aH,_,hw _ rfl rfl,qx (KM H σ1 EN) (.inl rfl)⟩
  ·exact⟨.ez,_,hw _ rfl rfl,qx (KM H σ1 EN) (.inr rfl)⟩
  ·obtain⟨_,k2⟩:=lB K2
   refine⟨.os (id+σ.length) g sz 0 l.length,_,hw _ rfl rfl,XN (Xr H EN (by omega) ?_)⟩
   rw[List.getElem?_append_right (by omega),Nat.add_sub_cancel];exact k2
theorem Pn {c:α→List U} (hc:∀x,(c x).all A.pL=true) (l:List α):∀g g' seg,(seg=[]∨jr (.arr g sz seg))→jr (.arr g' sz (seg++l.map c)):=by
 intro g g' seg h
 show((seg++l.map c).all fun e=>e.all A.pL)=true
 rw[List.all_append,Bool.and_eq_true]
 refine⟨?_,?_⟩
 ·rcases h with rfl|h
  ·rfl
  ·exact h
 ·rw[List.all_map,List.all_eq_true];intro x _;exact hc x
theorem ahJ {ye:List U} (hc:ye.all A.pL=true):∀g g' seg k,(seg=[]∨jr (.arr g sz seg))→jr (.arr g' sz (seg.take k++[ye]++seg.drop k)):=by
 intro g g' seg k h
 have hs:∀e∈seg,e.all A.pL=true:=by
  rcases h with rfl|h
  ·intro e he;cases he
  ·exact List.all_eq_true.1 h
 show A.vo (.arr g' sz (seg.take k++[ye]++seg.drop k))=true
 unfold A.vo
 rw[List.all_eq_true]
 intro e he
 simp only[List.mem_append,List.mem_singleton]at he
 rcases he with(he|rfl)|he
 ·exact hs e (List.mem_of_mem_take he)
 ·exact hc
 ·exact hs e (List.mem_of_mem_drop he)
theorem ahI:∀g g' seg k,jr (.arr g sz seg)→jr (.arr g' sz (seg.eraseIdx k)):=by
 intro g g' seg k h
 show A.vo (.arr g' sz (seg.eraseIdx k))=true
 unfold A.vo
 rw[List.all_eq_true]
 intro e he
 exact List.all_eq_true.1 h e (List.mem_of_mem_eraseIdx he)
end
def oI (l:List bJ):Prop:=l.Pairwise fun a b=>dZ a.key b.key=true
def iT (l:List bJ) (k:aA):Nat:=(l.takeWhile fun m=>dZ m.key k).length
def sG (l:List bJ) (k:aA):Bool:=l.any fun m=>decide (m.key=k)
theorem PD (l:List bJ) (k:aA):iT l k≤l.length:=(List.takeWhile_prefix _).length_le
theorem KD {l:List bJ} {k:aA} (h:oI l):∀{i:Nat} {x:bJ},l[i]? =some x→(dZ x.key k=true↔i<iT l k):=by
 induction l with
 |nil=>intro i x hx;simp at hx
 |cons a l ih=>
  intro i x hx
  have hs:=List.pairwise_cons.1 h
  unfold iT
  rw[List.takeWhile_cons]
  cases ha:dZ a.key k
  ·simp only[Bool.false_eq_true,if_false,List.length_nil,Nat.not_lt_zero,iff_false,Bool.not_eq_true]
   cases i with
   |zero=>simp at hx;subst hx;exact ha
   |succ i=>
    simp only[List.getElem?_cons_succ]at hx
    have:=hs.1 x (List.mem_of_getElem? hx)
    cases hq:dZ x.key k
    ·rfl
    ·rw[JO this hq]at ha;cases ha
  ·simp only[if_true,List.length_cons]
   cases i with
   |zero=>simp at hx;subst hx;simp [ha]
   |succ i=>
    simp only[List.getElem?_cons_succ]at hx
    rw[ih hs.2 hx]
    unfold iT
    omega
theorem PC {l:List bJ} {k:aA} (h:oI l) {i:Nat} {x:bJ} (hi:l[i]? =some x) (hk:x.key=k):iT l k=i:=by
 have h1:¬i<iT l k:=fun q=>by
  have:=(KD h hi).2 q
  rw[hk,xk]at this;cases this
 have h2:¬iT l k<i:=fun q=>by
  have hp:iT l k<l.length:=Nat.lt_trans q (List.getElem?_eq_some_iff.1 hi).1
  have hy:l[iT l k]? =some l[iT l k]:=List.getElem?_eq_getElem hp
  have h3:¬dZ l[iT l k].key k=true:=fun q'=>Nat.lt_irrefl _ ((KD h hy).1 q')
  have h4:=List.pairwise_iff_getElem.1 h (iT l k) i hp (List.getElem?_eq_some_iff.1 hi).1 q
  rw[(List.getElem?_eq_some_iff.1 hi).2,hk]at h4
  exact h3 h4
 omega
theorem DY {l:List bJ} {k:aA} (h:oI l):((l[iT l k]?).any fun x=>decide (x.key=k))=sG l k:=by
 rw[Bool.eq_iff_iff]
 constructor
 ·intro e
  cases hx:l[iT l k]? with
  |none=>rw[hx]at e;cases e
  |some x=>rw[hx]at e;exact List.any_eq_true.2 ⟨x,List.mem_of_getElem? hx,e⟩
 ·intro e
  obtain⟨x,hm,hk⟩:=List.any_eq_true.1 e
  have hk:=of_decide_eq_true hk
  obtain⟨i,hi⟩:=List.mem_iff_getElem?.1 hm
  rw[PC h hi hk,hi];simp [hk]
theorem V5 {l:List bJ} (hs:oI l) (hl:l.length<4611686018427387904) (k:aA):DK l k=some ((iT l k:Int),sG l k):=by
 unfold DK
 refine(Vt (l:=l) (pr:=fun m=>dZ m.key k) (fun i x hx=>?_) ?_ rfl).trans ?_
 ·have hi:=(List.getElem?_eq_some_iff.1 hx).1
  have hi':((i:Int)<(l.length:Int)):=by omega
  have e:(decide (x.key.unit<k.unit)||decide (x.key.unit=k.unit)&&Op.bytesLess x.key.param.toList k.param.toList)=dZ x.key k:=rfl
  simp only[decide_eq_true hi',if_true,KF hx,Option.bind_some,wrap64 (show aZ ((i:Int)+1) by unfold aZ;omega),Bool.true_and,e]
  cases dZ x.key k<;>simp
 ·simp only[decide_eq_false (by omega:¬((l.length:Int)<(l.length:Int))),Bool.false_eq_true,if_false,Option.bind_some,Bool.false_and]
 ·show((if decide ((iT l k:Int)<(l.length:Int))=true then kf l (iT l k:Int)else some default).bind fun x9=>some ((iT l k:Int),((decide ((iT l k:Int)<(l.length:Int)))&&(decide (x9.key=k)))))=_
  rw[←DY hs]
  by_cases hp:iT l k<l.length
  ·have hx:l[iT l k]? =some l[iT l k]:=List.getElem?_eq_getElem hp
   have hp':((iT l k:Int)<(l.length:Int)):=by omega
   rw[decide_eq_true hp',if_pos rfl,KF hx,Option.bind_some,hx]
   simp
  ·have hx:l[iT l k]? =none:=List.getElem?_eq_none (by omega)
   have hp':¬((iT l k:Int)<(l.length:Int)):=by omega
   rw[decide_eq_false hp',if_neg (by decide),Option.bind_some,hx]
   simp
def sD (n:Int) (st:List bJ) (m:aS):List bJ:=
 let st1:=if sG st m.key=true then st.eraseIdx (iT st m.key)else st
 if m.release=true then st1 else st1.take (iT st m.key)++[⟨m.key,m.value,n⟩]++st1.drop (iT st m.key)
def xq (st:List bJ) (c:aO):List bJ:=c.aJ.foldl (sD c.number) st
def oW (l:List aO):List bJ:=l.foldl xq []
def nS (st:List bJ) (k:aA):Option bJ:=st.find? fun e=>decide (e.key=k)
theorem UB {n:Int} {st:List bJ} (h:oI st) (m:aS):oI (sD n st m)∧(∀k,nS (sD n st m) k=if k=m.key then(if m.release=true then none else some ⟨m.key,m.value,n⟩)else nS st k)∧(sD n st m).length≤st.length+1:=by
 obtain⟨p,hp⟩:∃p,p=iT st m.key:=⟨_,rfl⟩
 obtain⟨st1,Ez⟩:∃st1,st1=if sG st m.key=true then st.eraseIdx p else st:=⟨_,rfl⟩
 have alI:p≤st.length:=by rw[hp];exact PD _ _
 have e1:st1.take p=st.take p:=by
  rw[Ez];split
  ·rw[List.eraseIdx_eq_take_drop_succ,List.take_append_of_le_length (by simp;omega),List.take_take,Nat.min_self]
  ·rfl
 have e2:st1.drop p=if sG st m.key=true then st.drop (p+1)else st.drop p:=by
  rw[Ez];split
  ·rw[List.eraseIdx_eq_take_drop_succ,List.drop_append_of_le_length (by simp;omega),List.drop_of_length_le (by simp;omega),List.nil_append]
  ·rfl
 have hlt:∀x∈st.take p,dZ x.key m.key=true:=fun x hx=>by
  obtain⟨i,hi⟩:=List.mem_iff_getElem?.1 hx
  rw[List.getElem?_take]at hi
  split at hi
  ·rename_i q;exact(KD h hi).2 (by omega)
  ·cases hi
 have hgt:∀x∈st1.drop p,dZ m.key x.key=true:=fun x hx=>by
  rw[e2]at hx
  have key:∀i,p≤i→st[i]? =some x→x.key≠m.key→dZ m.key x.key=true:=by
   intro i hpi hi hne
   cases hq:dZ m.key x.key
   ·exfalso
    have h1:dZ x.key m.key=false:=by
     cases xX:dZ x.key m.key
     ·rfl
     ·have:=(KD h hi).1 xX;omega
    exact hne (WO h1 hq)
   ·rfl
  split at hx
  ·rename_i hh
   obtain⟨i,hi⟩:=List.mem_iff_getElem?.1 hx
   rw[List.getElem?_drop]at hi
   refine key _ (by omega) hi fun e=>?_
   have:=PC h hi e
   omega
  ·rename_i hh
   obtain⟨i,hi⟩:=List.mem_iff_getElem?.1 hx
   rw[List.getElem?_drop]at hi
   refine key _ (by omega) hi fun e=>?_
   exact hh (List.any_eq_true.2 ⟨x,List.mem_of_getElem? hi,by simp [e]⟩)
 have hs1:oI st1:=by
  rw[Ez];split
  ·exact h.sublist (List.eraseIdx_sublist _ _)
  ·exact h
 have pR:st1.length≤st.length:=by
  rw[Ez];split
  ·exact List.length_eraseIdx_le _ _
  ·exact Nat.le_refl _
 have hno:∀k,k=m.key→nS st1 k=none:=by
  rintro k rfl
  unfold nS
  rw[List.find?_eq_none]
  intro x hx hk
  have hk:=of_decide_eq_true hk
  rw[←List.take_append_drop p st1,List.mem_append]at hx
  rcases hx with hx|hx
  ·rw[e1]at hx
   have:=hlt x hx
   rw[hk,xk]at this;cases this
  ·have:=hgt x hx
   rw[hk,xk]at this;cases this
 have YK:∀k,k≠m.key→nS st1 k=nS st k:=by
  intro k hk
  rw[Ez];split
  ·rename_i hh
   unfold nS
   rw[List.eraseIdx_eq_take_drop_succ]
   have hx:st[p]? ≠none:=fun e=>by
    have:=DY (k:=m.key) h
    rw[hh,←hp,e]at this;cases this
   obtain⟨x,hx⟩:=Option.ne_none_iff_exists'.1 hx
   have hxk:x.key=m.key:=by
    have:=DY (k:=m.key) h
    rw[hh,←hp,hx]at this
    simpa using this
   have e:st=st.take p++x::st.drop (p+1):=by
    rw[←(List.getElem?_eq_some_iff.1 hx).2,List.getElem_cons_drop,List.take_append_drop]
   conv=>rhs;rw[e]
   rw[List.find?_append,List.find?_append,List.find?_cons,decide_eq_false (fun q=>hk (by rw[←q,hxk]))]
  ·rfl
 have QV:sD n st m=if m.release=true then st1 else st1.take p++[⟨m.key,m.value,n⟩]++st1.drop p:=by
  unfold sD
  rw[←hp,←Ez]
 rw[QV]
 split
 ·rename_i hr
  refine⟨hs1,fun k=>?_,by omega⟩
  by_cases hk:k=m.key
  ·rw[if_pos hk];exact hno k hk
  ·rw[if_neg hk];exact YK k hk
 ·rename_i hr
  refine⟨?_,fun k=>?_,by simp;omega⟩
  ·unfold oI
   rw[List.append_assoc,List.pairwise_append]
   refine⟨hs1.sublist (List.take_sublist _ _),?_,fun x hx y hy=>?_⟩
   ·rw[List.singleton_append,List.pairwise_cons]
    exact⟨fun y hy=>hgt y hy,hs1.sublist (List.drop_sublist _ _)⟩
   ·rw[e1]at hx
    rcases List.mem_append.1 hy with hy|hy
    ·simp at hy;subst hy;exact hlt x hx
    ·exact JO (hlt x hx) (hgt y hy)
  ·by_cases hk:k=m.key
   ·rw[if_pos hk]
    subst hk
    unfold nS
    rw[List.append_assoc,List.find?_append]
    have:(st1.take p).find? (fun e=>decide (e.key=m.key))=none:=by
     rw[List.find?_eq_none]
     intro x hx q
     rw[e1]at hx
     have:=hlt x hx
     rw[of_decide_eq_true q,xk]at this;cases this
    rw[this]
    simp
   ·rw[if_neg hk,←YK k hk]
    unfold nS
    rw[List.append_assoc,List.find?_append,List.singleton_append,List.find?_cons,decide_eq_false (fun q=>hk q.symm)]
    conv=>rhs;rw[←List.take_append_drop p st1,List.find?_append]
end
section
open HP
section
variable {B : aV → Prop} {ay σ : Heap} {R : HP}
theorem TI (x:bJ):(cz x).all A.pL=true:=rfl
theorem akU {v:U} {l:List bJ} {m:bJ} {i:Nat} (hi:i≤l.length) (hl:l.length<1099511627776) (H:Hs jr ay σ (Sl (fl cz) 5 v l*R)):
  ∃v' σ',E7 [v,.int .i64 (i:Int),.sl 5 [cz m]] σ=some (v',σ')∧Hs jr ay σ' (Sl (fl cz) 5 v' (l.take i++[m]++l.drop i)*R):=by
 obtain⟨v',σ',e,H2⟩:=XJ (most:=140737488355328 / 48) (zs:=[ah,aW,ah,ah,ah]) (yj:=E4) (B:=jr) (E:=fl cz) (y:=m) (ye:=cz m)
  (hs_eq (show pr (cz m=cz m)*(Sl (fl cz) 5 v l*R)=_ by rw[show fl cz (cz m) m=pr (cz m=cz m)from rfl];ac_rfl) (jC.2 ⟨rfl,H⟩)) hi (by omega) (by omega) (ahJ (TI m))
 refine⟨v',σ',?_,H2⟩
 unfold E7 A.wrap
 rw[Bool.false_and,cond_false,show A.bY [] [v,.int .i64 (i:Int),.sl 5 [cz m]]=[v,.int .i64 (i:Int),.sl 5 [cz m]] by simp [A.bY]]
 show(IB v (.int .i64 (i:Int)) (.sl 5 [cz m]) σ).map _=_
 rw[show IB v (.int .i64 (i:Int)) (.sl 5 [cz m]) σ=some (v',σ')from e]
 simp [jK]
theorem akp {v:U} {l:List bJ} {i:Nat} {x:bJ} (hx:l[i]? =some x) (hl:l.length≤1099511627776) (H:Hs jr ay σ (Sl (fl cz) 5 v l*R)):
  ∃v' σ',C8 [v,.int .i64 (i:Int),.int .i64 ((i+1:Nat):Int)] σ=some (v',σ')∧Hs jr ay σ' (Sl (fl cz) 5 v' (l.eraseIdx i)*R):=by
 obtain⟨v',σ',xe,_,e,H2⟩:=XI (most:=140737488355328 / 48) (zs:=[ah,aW,ah,ah,ah]) H hx (by omega) (by omega) ahI
 have H3:=jH (hs_eq (show _=pr (xe=cz x)*(Sl (fl cz) 5 v' (l.eraseIdx i)*R) by rw[show fl cz xe x=pr (xe=cz x)from rfl];ac_rfl) H2)
 refine⟨v',σ',?_,H3⟩
 unfold C8 A.wrap
 rw[Bool.false_and,cond_false,show A.bY [] [v,.int .i64 (i:Int),.int .i64 ((i+1:Nat):Int)]=[v,.int .i64 (i:Int),.int .i64 ((i+1:Nat):Int)] by simp [A.bY]]
 show(IA v (.int .i64 (i:Int)) (.int .i64 ((i+1:Nat):Int)) σ).map _=_
 rw[show IA v (.int .i64 (i:Int)) (.int .i64 ((i+1:Nat):Int)) σ=some (v',σ')from e]
 simp [jK]
theorem aeK {v:U} {l:List bJ} (H:Hs jr ay σ (Sl (fl cz) 5 v l*R)) (hs:oI l) (hl:l.length<4611686018427387904) (k:aA):DH [v,.agg (aK k)] σ=some (.aL [.int .i64 (iT l k:Int),.bool (sG l k)],σ):=
 ze (cB:=[.s 5]) (ts:=[sl 5 cz l,.agg (aK k)]) ⟨P4 JK (P0 H),uN (pY (uI k)) rfl,trivial⟩ (fun σ=>Ud (V5 hs hl k)) rfl
theorem T9 {n:Int} (ms:List aS):∀{st:List bJ},oI st→oI (ms.foldl (sD n) st)∧(ms.foldl (sD n) st).length≤st.length+ms.length:=by
 induction ms with
 |nil=>intro st h;exact⟨h,Nat.le_refl _⟩
 |cons m ms ih=>
  intro st h
  obtain⟨h1,_,h3⟩:=UB (n:=n) h m
  obtain⟨h4,h5⟩:=ih h1
  exact⟨h4,by simp only[List.foldl_cons,List.length_cons];omega⟩
theorem ahs {st:List bJ} {c:aO} (hs:oI st) (hl:st.length+c.aJ.length<1099511627776) (hm:c.aJ.length≤aY):KS FF [sl 5 cz st,.agg (aM c)] cz 5 (xq st c):=by
 intro ay σ R H
 have run:∃b:U×Heap,JC (sl 5 cz st) (.agg (aM c)) σ=some b∧Hs jr ay b.2 (Sl (fl cz) 5 b.1 (xq st c)*R):=by
  unfold JC
  obtain⟨v,s1,e1,_,K1⟩:=Kn (B:=jr) (most:=140737488355328 / 48) (m:=IC) (r:=fun _ _=>none) (r0:=L0) (c:=cz) (sz:=5) (l:=st) rfl (fun _ _=>rfl) (by omega) (Pn TI st) H
  rw[F4,Option.bind_some,e1,Option.bind_some,show A.an 10 (aM c)=some (sl 8 aF c.aJ)from rfl,Option.bind_some,cu,Option.bind_some]
  refine mj (Q:=fun q=>∃h w,q.1=.exit 0∧q.2.1=[.lbx (aM c),h,w]∧Hs jr ay q.2.2 (Sl (fl cz) 5 h (xq st c)*R)) (mY c.aJ (fun i v s=>∃h,v=[.lbx (aM c),h,.int .i64 (i:Int)]∧Hs jr ay s (Sl (fl cz) 5 h ((c.aJ.take i).foldl (sD c.number) st)*R)) ?_ ?_ ⟨v,rfl,K1⟩) ?_
  ·rintro i m w s hx ⟨h,rfl,K⟩
   have hi:=(List.getElem?_eq_some_iff.1 hx).1
   obtain⟨q1,q2⟩:=T9 (n:=c.number) (c.aJ.take i) hs
   rw[Jv _ _ _ hx]
   obtain⟨o,ho⟩:∃o,o=(c.aJ.take i).foldl (sD c.number) st:=⟨_,rfl⟩
   rw[←ho]at q1 q2 K ⊢
   have hol:o.length<1099511627776:=by simp at q2;omega
   simp only[List.getD_cons_zero,List.getD_cons_succ]
   rw[eR hx,Option.bind_some,fO,dR hx,Option.bind_some]
   simp only[A.deref,Option.bind_some]
   rw[tj,Option.bind_some,yz,Option.bind_some,sx m _ rfl,Option.bind_some,Bu,Option.bind_some,aeK K q1 (by omega) m.key,Option.bind_some,uT,Option.bind_some,ext1,Option.bind_some]
   -- what is there goes
   obtain⟨p,hp⟩:∃p,p=iT o m.key:=⟨_,rfl⟩
   obtain⟨o1,xW⟩:∃o1,o1=if sG o m.key=true then o.eraseIdx p else o:=⟨_,rfl⟩
   have hpl:p≤o1.length:=by
    have:=PD o m.key
    rw[xW];split
    ·rename_i hh
     have hx:=DY (k:=m.key) q1
     rw[hh,←hp]at hx
     cases hpx:o[p]? with
     |none=>rw[hpx]at hx;cases hx
     |some x=>
      have:=(List.getElem?_eq_some_iff.1 hpx).1
      rw[List.length_eraseIdx,if_pos this];omega
    ·omega
   have akI:o1.length<1099511627776:=by
    rw[xW];split
    ·have:=List.length_eraseIdx_le o p;omega
    ·exact hol
   rw[←hp]
   have del:∃h1 s1,(A.cond (.bool (sG o m.key)) (
     (A.add (.int .i64 (p:Int)) aI).bind fun cg=>
     (C8 [h,.int .i64 (p:Int),cg] s).bind fun fA=>
     some ([.lbx (aM c),fA.1,(U.lbx (aF m))],fA.2)) (
     some ([.lbx (aM c),h,(U.lbx (aF m))],s)))=some ([.lbx (aM c),h1,.lbx (aF m)],s1)∧Hs jr ay s1 (Sl (fl cz) 5 h1 o1*R):=by
    rw[xW]
    cases hh:sG o m.key
    ·exact⟨h,s,rfl,K⟩
    ·rw[fO,B5 (by have:=PD o m.key;omega),Option.bind_some]
     have hx:=DY (k:=m.key) q1
     rw[hh,←hp]at hx
     cases hpx:o[p]? with
     |none=>rw[hpx]at hx;cases hx
     |some x=>
      obtain⟨h1,s1,e2,K2⟩:=akp hpx (by omega) K
      rw[e2,Option.bind_some]
      exact⟨h1,s1,rfl,K2⟩
   obtain⟨h1,s1,e2,K2⟩:=del
   rw[e2,Option.bind_some]
   simp only[List.getD_cons_zero,List.getD_cons_succ]
   rw[show((A.lb (.lbx (aF m))).bind fun _=>some (4))=some 4 from rfl,Option.bind_some,show((A.lb (.lbx (aF m))).bind fun lK=>A.an 4 lK)=some (.bool m.release)from rfl,Option.bind_some,show A.not (.bool m.release)=some (.bool (!m.release))from rfl,Option.bind_some]
   have QV:sD c.number o m=if m.release=true then o1 else o1.take p++[⟨m.key,m.value,c.number⟩]++o1.drop p:=by
    unfold sD;rw[←hp,←xW]
   rw[QV]
   cases hr:m.release
   ·rw[show(!false)=true from rfl,fO]
    rw[show((A.lb (.lbx (aF m))).bind fun _=>some (0))=some 0 from rfl,Option.bind_some,show((A.lb (.lbx (aF m))).bind fun l6=>A.az 0 2 l6)=some (.agg (aK m.key))from rfl,Option.bind_some,
     show((A.lb (.lbx (aF m))).bind fun _=>some (2))=some 2 from rfl,Option.bind_some,show((A.lb (.lbx (aF m))).bind fun rQ=>A.az 2 2 rQ)=some (.agg (ou m.value))from rfl,Option.bind_some,
     show((A.lb (.lbx (aM c))).bind fun _=>some (0))=some 0 from rfl,Option.bind_some,show((A.lb (.lbx (aM c))).bind fun qV=>A.an 0 qV)=some (.int .i64 c.number)from rfl,Option.bind_some]
    rw[show((((A.cells 2 (.agg (aK m.key))).bind fun lE=>(A.splice 0 lE [ah,aW,ah,ah,ah]).bind fun jF=>(A.cells 2 (.agg (ou m.value))).bind fun uc=>(A.splice 2 uc jF).bind fun qh=>((A.cell (.int .i64 c.number)).bind fun v=>some [v]).bind fun jX=>(A.splice 4 jX qh).bind fun l7=>some l7).bind fun cs=>some (U.agg cs)))=some (.agg (cz ⟨m.key,m.value,c.number⟩))from rfl,Option.bind_some]
    rw[show((((A.cells 5 (.agg (cz ⟨m.key,m.value,c.number⟩))).bind fun qi=>(A.splice 0 qi [ah,aW,ah,ah,ah]).bind fun mw=>some mw).bind fun cs=>some (U.sl 5 (chunks 5 1 cs))))=some (.sl 5 [cz ⟨m.key,m.value,c.number⟩])from rfl,Option.bind_some]
    obtain⟨h2,s2,e3,K3⟩:=akU (m:=⟨m.key,m.value,c.number⟩) hpl akI K2
    rw[e3,Option.bind_some,Option.bind_some]
    simp only[List.getD_cons_zero,List.getD_cons_succ]
    rw[dB hx hm,Option.bind_some]
    exact⟨_,_,rfl,h2,rfl,by simpa using K3⟩
   ·rw[show(!true)=false from rfl,eC,Option.bind_some]
    simp only[List.getD_cons_zero,List.getD_cons_succ]
    rw[dB hx hm,Option.bind_some]
    exact⟨_,_,rfl,h1,rfl,by simpa using K2⟩
  ·rintro w s ⟨h,rfl,K⟩
   simp only[List.getD_cons_zero,List.getD_cons_succ]
   rw[eO,Option.bind_some,eC]
   refine⟨_,rfl,by simp,h,_,rfl,rfl,?_⟩
   rw[List.take_length]at K;exact K
  ·rintro⟨e,w,s⟩ ⟨h,w',h1,h2,K⟩
   simp only at h1 h2 K
   subst h1;subst h2
   exact⟨_,rfl,K⟩
 obtain⟨⟨v,σ'⟩,h1,h2⟩:=run
 exact⟨v,σ',wrap_eq rfl h1 (jK _),h2⟩
theorem TZ {l:List aO} (hl:∀c∈l,c.aJ.length≤2000000):∀(k:Nat) (st:List bJ),oI st→st.length≤k*2000000→oI (l.foldl xq st)∧(l.foldl xq st).length≤(k+l.length)*2000000:=by
 induction l with
 |nil=>intro k st h1 h2;exact⟨h1,h2⟩
 |cons c l ih=>
  intro k st h1 h2
  obtain⟨h3,h4⟩:=T9 (n:=c.number) c.aJ h1
  have hc:=hl c (by simp)
  obtain⟨h5,h6⟩:=ih (fun x hx=>hl x (by simp [hx])) (k+1) (xq st c) h3 (by show(c.aJ.foldl _ st).length≤_;omega)
  refine⟨h5,?_⟩
  rw[List.length_cons,show k+(l.length+1)=k+1+l.length from by omega]
  exact h6
theorem aeb {v:U} {st:List bJ} {e:U} {c:aO} (EI:∀b,jr b→B b) (hs:oI st) (hl:st.length+c.aJ.length<1099511627776) (hm:c.aJ.length≤aY) (H:Hs B ay σ (Sl (fl cz) 5 v st*R)) (he:Lt σ (.a iA) e (.agg (aM c))):
  ∃v' σ',FF [v,e] σ=some (v',σ')∧Hs B ay σ' (Sl (fl cz) 5 v' (xq st c)*(Sl (fl cz) 5 v st*R)):=
 Ym EI (cB:=[.s 5,.a iA]) (ts:=[sl 5 cz st,.agg (aM c)]) ⟨P4 JK (P0 H),he,trivial⟩ (ahs hs hl hm) H
theorem agZ (c:aO):Lt σ (.a iA) (.agg (aM c)) (.agg (aM c)):=uN (pY (Ku c)) rfl
theorem agj {l:List aO} {n:Nat} (hn:n≤l.length) (hl:l.length≤1000) (hm:∀c∈l,c.aJ.length≤2000000):KS Jj [sl 11 aM l,.int .i64 (n:Int)] cz 5 (oW (l.take n)):=by
 intro ay σ R H
 have run:∃b:U×Heap,Jm (sl 11 aM l) (.int .i64 (n:Int)) σ=some b∧Hs jr ay b.2 (Sl (fl cz) 5 b.1 (oW (l.take n))*R):=by
  unfold Jm
  rw[show A.bG 11 (sl 11 aM l) none (some (.int .i64 (n:Int))) σ=some (sl 11 aM (l.take n))from DC 11 aM l hn,Option.bind_some,cu,Option.bind_some]
  obtain⟨t,ht⟩:∃t,t=l.take n:=⟨_,rfl⟩
  have Be:t.length≤1000:=by rw[ht];simp;omega
  have ZG:∀c∈t,c.aJ.length≤2000000:=fun c hc=>hm c (by rw[ht]at hc;exact List.mem_of_mem_take hc)
  rw[←ht]
  refine mj (Q:=fun q=>∃h w,q.1=.exit 0∧q.2.1=[h,w]∧Hs jr ay q.2.2 (Sl (fl cz) 5 h (oW t)*R)) (mY t (fun i v s=>∃h,v=[h,.int .i64 (i:Int)]∧Hs jr ay s (Sl (fl cz) 5 h (oW (t.take i))*R)) ?_ ?_ ⟨.aH,rfl,qx H (.inl rfl)⟩) ?_
  ·rintro i c w s hx ⟨h,rfl,K⟩
   have hi:=(List.getElem?_eq_some_iff.1 hx).1
   obtain⟨q1,q2⟩:=TZ (l:=t.take i) (fun c hc=>ZG c (List.mem_of_mem_take hc)) 0 [] List.Pairwise.nil (Nat.zero_le _)
   have hc:=ZG c (List.mem_of_getElem? hx)
   have hbl:(oW (t.take i)).length≤2000000000:=by
    have:(t.take i).length≤1000:=by simp;omega
    unfold oW;omega
   simp only[List.getD_cons_zero,List.getD_cons_succ]
   rw[eR hx,Option.bind_some,fO,dR hx,Option.bind_some]
   simp only[A.deref,Option.bind_some]
   rw[uJ,Option.bind_some,F4,Option.bind_some,yF _ _ rfl,Option.bind_some,uJ,Option.bind_some]
   have q3:(oW (t.take i)).length+c.aJ.length<1099511627776:=by omega
   have q4:c.aJ.length≤aY:=by unfold aY;omega
   obtain⟨h',s',e1,K2⟩:=aeb (fun _ h=>h) q1 q3 q4 K (agZ c)
   have K3:=jH (hs_eq (show _=Sl (fl cz) 5 h (oW (t.take i))*(Sl (fl cz) 5 h' (xq (oW (t.take i)) c)*R) by ac_rfl) K2)
   rw[e1,Option.bind_some,dB hx (by unfold aY;omega),Option.bind_some]
   refine⟨_,_,rfl,h',rfl,?_⟩
   unfold oW
   rw[Jv _ _ _ hx]
   exact K3
  ·rintro w s ⟨h,rfl,K⟩
   simp only[List.getD_cons_zero,List.getD_cons_succ]
   rw[eO,Option.bind_some,eC]
   refine⟨_,rfl,by simp,h,_,rfl,rfl,?_⟩
   rw[List.take_length]at K;exact K
  ·rintro⟨e,w,s⟩ ⟨h,w',h1,h2,K⟩
   simp only at h1 h2 K
   subst h1;subst h2
   exact⟨_,rfl,K⟩
 obtain⟨⟨v,σ'⟩,h1,h2⟩:=run
 refine⟨v,σ',wrap_eq rfl ?_ (jK _),h2⟩
 rw[show A.bY [Sh.e 11 B6] [sl 11 aM l,.int .i64 (n:Int)]=[sl 11 aM l,.int .i64 (n:Int)]from aii l _]
 exact h1
end
def AN (n:Int) (s:List (aA×bJ)) (m:aS):List (aA×bJ):=if m.release=true then sK m.key s else gf m.key ⟨m.key,m.value,n⟩ s
def B0 (l:List aO):List (aA×bJ):=l.foldl (fun s c=>c.aJ.foldl (AN c.number) s) []
def tQ (s:List (aA×bJ)):Prop:=(s.map (·.1)).Nodup
theorem OC {ν:Type} (k k':aA) (v:ν):∀s:List (aA×ν),cr k (gf k' v s)=if k=k' then some v else cr k s
 |[]=>by by_cases h:k=k'<;>simp [gf,cr,h]
 |(a,b)::s=>by
  rw[gf]
  by_cases h1:k'=a
  ·subst h1
   simp only[if_true,cr]
   by_cases h:k=k'<;>simp [h]
  ·rw[if_neg h1,cr,cr,OC k k' v s]
   by_cases h2:k=a
   ·have:k≠k':=fun e=>h1 (by rw[←e,h2])
    simp [h2,this]
    intro e;exact absurd (e.symm) h1
   ·simp [h2]
theorem WR {ν:Type} {k:aA}:∀{s:List (aA×ν)} {x:aA×ν},x∈sK k s→x∈s
 |[],x,h=>h
 |(a,b)::s,x,h=>by
  rw[sK]at h
  split at h
  ·exact List.mem_cons_of_mem _ h
  ·rcases List.mem_cons.1 h with rfl|h
   ·exact List.mem_cons_self
   ·exact List.mem_cons_of_mem _ (WR h)
theorem UE {ν:Type} {k:aA}:∀{s:List (aA×ν)},(∀p∈s,p.1≠k)→cr k s=none
 |[],_=>rfl
 |(a,b)::s,h=>by
  rw[cr,if_neg (fun e=>h (a,b) (by simp) e.symm)]
  exact UE (fun p hp=>h p (by simp [hp]))
theorem Vp (k k':aA):∀{s:List (aA×bJ)},tQ s→cr k (sK k' s)=if k=k' then none else cr k s
 |[],_=>by simp [sK,cr]
 |(a,b)::s,h=>by
  unfold tQ at h
  rw[List.map_cons,List.nodup_cons]at h
  rw[sK]
  by_cases h1:k'=a
  ·subst h1
   rw[if_pos rfl]
   by_cases h2:k=k'
   ·subst h2
    rw[if_pos rfl]
    exact UE fun p hp e=>h.1 (List.mem_map.2 ⟨p,hp,e⟩)
   ·rw[if_neg h2,cr,if_neg h2]
  ·rw[if_neg h1,cr,cr,Vp k k' (s:=s) h.2]
   by_cases h2:k=a
   ·have:k≠k':=fun e=>h1 (by rw[←e,h2])
    rw[if_pos h2,if_pos h2,if_neg this]
   ·rw[if_neg h2,if_neg h2]
theorem WX {k:aA} {v:bJ}:∀{s:List (aA×bJ)},tQ s→tQ (gf k v s)∧∀x∈(gf k v s).map (·.1),x∈s.map (·.1)∨x=k
 |[],_=>⟨by simp [tQ,gf],by simp [gf]⟩
 |(a,b)::s,h=>by
  unfold tQ at h
  rw[List.map_cons,List.nodup_cons]at h
  rw[gf]
  split
  ·rename_i e
   subst e
   exact⟨by unfold tQ;rw[List.map_cons,List.nodup_cons];exact h,fun x hx=>.inl hx⟩
  ·rename_i e
   obtain⟨h1,h2⟩:=WX (k:=k) (v:=v) h.2
   refine⟨?_,fun x hx=>?_⟩
   ·unfold tQ
    rw[List.map_cons,List.nodup_cons]
    refine⟨fun hm=>?_,h1⟩
    rcases h2 _ hm with h3|h3
    ·exact h.1 h3
    ·exact e h3.symm
   ·rw[List.map_cons]at hx ⊢
    rcases List.mem_cons.1 hx with rfl|hx
    ·exact .inl List.mem_cons_self
    ·rcases h2 x hx with h3|h3
     ·exact .inl (List.mem_cons_of_mem _ h3)
     ·exact .inr h3
theorem WW {k:aA}:∀{s:List (aA×bJ)},tQ s→tQ (sK k s)
 |[],h=>h
 |(a,b)::s,h=>by
  unfold tQ at h
  rw[List.map_cons,List.nodup_cons]at h
  rw[sK]
  split
  ·exact h.2
  ·unfold tQ
   rw[List.map_cons,List.nodup_cons]
   refine⟨fun hm=>?_,WW h.2⟩
   obtain⟨p,hp,e⟩:=List.mem_map.1 hm
   exact h.1 (List.mem_map.2 ⟨p,WR hp,e⟩)
def B1 (s:List (aA×bJ)) (st:List bJ):Prop:=tQ s∧oI st∧∀k,cr k s=nS st k
theorem af4 {n:Int} {s:List (aA×bJ)} {st:List bJ} (h:B1 s st) (m:aS):B1 (AN n s m) (sD n st m):=by
 obtain⟨h1,h2,h3⟩:=h
 obtain⟨k1,k2,_⟩:=UB (n:=n) h2 m
 unfold AN
 refine⟨?_,k1,fun k=>?_⟩
 ·split
  ·exact WW h1
  ·exact(WX h1).1
 ·rw[k2 k]
  split
  ·rw[Vp k m.key h1,h3 k]
  ·rw[OC,h3 k]
theorem Vc {n:Int}:∀(ms:List aS) {s:List (aA×bJ)} {st:List bJ},B1 s st→B1 (ms.foldl (AN n) s) (ms.foldl (sD n) st)
 |[],_,_,h=>h
 |m::ms,_,_,h=>Vc ms (af4 h m)
theorem We:∀(l:List aO) {s:List (aA×bJ)} {st:List bJ},B1 s st→B1 (l.foldl (fun s c=>c.aJ.foldl (AN c.number) s) s) (l.foldl xq st)
 |[],_,_,h=>h
 |c::l,_,_,h=>We l (Vc c.aJ h)
theorem aeY (l:List aO):B1 (B0 l) (oW l):=We l ⟨List.Pairwise.nil,List.Pairwise.nil,fun k=>rfl⟩
theorem aiK {l:List aO} (hl:l.length≤aY) (hm:∀c∈l,c.aJ.length≤aY):FD l=some (B0 l):=by
 unfold FD B0
 rw[yy (g:=fun s c=>c.aJ.foldl (AN c.number) s) (P:=fun _ _=>True) hl trivial (fun _ _ _ _ _=>trivial) ?_]
 ·rfl
 intro i c s hc _
 rw[yy (g:=fun s m=>AN c.number s m) (P:=fun _ _=>True) (hm c (List.mem_of_getElem? hc)) trivial (fun _ _ _ _ _=>trivial) ?_]
 ·rfl
 intro j m s hm _
 unfold AN
 by_cases hr:m.release=true<;>simp [hr]
end
section
open HP
theorem agi {l:List aO} (hg:l.Pairwise fun a b=>a.number<b.number) (n:Int):kN (fun c=>decide (c.number=n)) l=if tM l n=true then(gA l n:Int)else -1:=by
 rcases wO (fun c:aO=>decide (c.number=n)) l with⟨h1,h2,_⟩|⟨k,x,h1,h2,h3,_,_⟩
 ·have:tM l n=false:=by
   rw[Bool.eq_false_iff];intro e
   obtain⟨x,hx,hp⟩:=List.any_eq_true.1 e
   rw[h2 x hx]at hp;cases hp
  rw[this,h1];rfl
 ·have:tM l n=true:=List.any_eq_true.2 ⟨x,List.mem_of_getElem? h1,h2⟩
  rw[this,if_pos rfl,h3,KC hg h1 (of_decide_eq_true h2)]
end
section
open HP
def aje (n:Int):aO:=⟨n,⟨#[]⟩,0,0,0,0,⟨1,[]⟩,false,-1,[]⟩
def newRow (n:Int):List U:=cK (aje n) .aH .aH
theorem aiy (k:aA):(((A.cells 2 (.agg (aK k))).bind fun bR=>(A.splice 0 bR [ah,aW]).bind fun ep=>some ep).bind fun cs=>some (U.sl 2 (chunks 2 1 cs)))=some (.sl 2 [aK k]):=rfl
theorem agV {st:List bJ} (h:oI st) {k:aA} (hh:sG st k=true):∃x,st[iT st k]? =some x∧nS st k=some x:=by
 have hx:=DY (k:=k) h
 rw[hh]at hx
 cases hp:st[iT st k]? with
 |none=>rw[hp]at hx;cases hx
 |some x=>
  refine⟨x,rfl,?_⟩
  unfold nS
  cases hf:st.find? fun e=>decide (e.key=k)with
  |none=>
   rw[hp]at hx
   have:=List.find?_eq_none.1 hf x (List.mem_of_getElem? hp)
   simp only[Option.any_some]at hx
   exact absurd hx this
  |some y=>
   have h1:=List.find?_some hf
   obtain⟨j,hj⟩:=List.mem_iff_getElem?.1 (List.mem_of_find?_eq_some hf)
   have:=PC h hj (of_decide_eq_true h1)
   rw[←this,hp]at hj
   exact hj.symm
theorem ah4 {st:List bJ} {k:aA} (hh:sG st k=false):nS st k=none:=by
 unfold nS
 rw[List.find?_eq_none]
 intro x hx hk
 rw[Bool.eq_false_iff]at hh
 exact hh (List.any_eq_true.2 ⟨x,hx,hk⟩)
section
variable {ay σ : Heap} {R : HP}
theorem agF {v:U} {o:List aO} (H:Hs aX ay σ (Sl dD 11 v o*R)) (ho:cH lX o):FH [v] σ=some (.aL [if lV o=0 then v else .aH,.int .i64 (lV o)],σ):=by
 have hf:DI [v] σ=some (.int .i64 (lV o),σ):=ze (cB:=[.e 11 iA]) (ts:=[sl 11 aM o]) ⟨Kw H,trivial⟩ (fun σ=>Ue (Xm o ho)) rfl
 unfold FH A.wrap
 rw[Bool.false_and,cond_false,show A.bY [] [v]=[v] by simp [A.bY]]
 show(JD v σ).map _=_
 unfold JD
 rw[hf,Option.bind_some,Eo,Option.bind_some]
 by_cases hq:lV o=0
 ·rw[decide_eq_false (by simp [hq]),eC,if_pos hq,hq];simp [jK]
 ·rw[decide_eq_true hq,fO,if_neg hq];simp [jK]
theorem aj7 {B:aV→Prop} {v:U} {l:List aA} (k:aA) (hl:l.length<1000000) (hB:∀g g' seg,(seg=[]∨B (.arr g 2 seg))→B (.arr g' 2 (seg++[aK k]))) (H:Hs B ay σ (Sl (fl aK) 2 v l*R)):
  ∃v' σ',A.append 2 (140737488355328 / 24) v (.sl 2 [aK k]) σ=some (v',σ')∧Hs B ay σ' (Sl (fl aK) 2 v' (l++[k])*R):=
 BZ (ys:=[aK k]) (xs:=[k]) (hs_eq (show pr (aK k=aK k)*(Sl (fl aK) 2 v l*R)=_ by
  rw[show els (fl aK) [aK k] [k]=pr (aK k=aK k)*emp from rfl,oT,wY];ac_rfl) (jC.2 ⟨rfl,H⟩)) (by simp;omega) hB
end
end
section
open HP
theorem Yl:aZ 0:=by unfold aZ;decide
end
section
open HP
section
variable {ay σ : Heap} {R : HP}
theorem ait {v:U} {l:List aO} {i:Nat} {x:aO} (hx:l[i]? =some x) (m:aS) (hs:iM x.aJ) (hl:x.aJ.length<1000000) (H:Hs aX ay σ (Sl dD 11 v l*R)):
  ∃p q vm v' σ1 σ2,A.aN 11 v (.int .i64 (i:Int))=some p∧A.bA 10 p=some q∧((A.deref q σ).bind fun c=>A.an 0 c)=some vm∧BI [vm,.agg (aF m)] σ=some (v',σ1)∧A.cell v'=some v'∧A.storeAt q [v'] σ1=some σ2∧Hs aX ay σ2 (Sl dD 11 v (dX l i (kF · m))*R):=by
 obtain⟨p,F,e,f1,hC,K,back⟩:=BQ H hx
 obtain⟨q,vm,b1,b2,_,b4⟩:=afU hC K hs (by omega)
 obtain⟨v',σ1,σ2,c1,c2,c3,e',K2⟩:=b4 m
 refine⟨p,q,vm,v',σ1,σ2,f1,b1,b2,c1,c2,c3,?_⟩
 rw[dX,hx]
 exact back K2
end
end
section
open HP
section
variable {ay σ : Heap} {R : HP}
theorem ajn {v:U} {l:List aO} {i:Nat} {x:aO} (hx:l[i]? =some x) (H:Hs aX ay σ (Sl dD 11 v l*R)):∃p e,A.aN 11 v (.int .i64 (i:Int))=some p∧((A.deref p σ).bind fun c=>A.az 0 11 c)=some (.agg e)∧Lt σ (.a iA) (.agg e) (.agg (aM x)):=by
 obtain⟨p,F,e,f1,hC,K,back⟩:=BQ H hx
 obtain⟨vp,vm,he,_⟩:=A1 (hs_eq (show _=nj (Sl (fl aF) 8) e x*(F e*R) by rw[show dD e x=nj (Sl (fl aF) 8) e x from rfl];ac_rfl) K)
 refine⟨p,e,f1,?_,Pw (FP (hs_eq (show _=dD e x*(F e*R) by ac_rfl) K))⟩
 rw[hC.ld K,Option.bind_some,he];rfl
theorem ahh {l:List aO} {i:Nat} {x:aO} (h:l[i]? =some x):l.set i x=l:=by
 apply List.ext_getElem?
 intro j
 rw[List.getElem?_set]
 split
 ·rename_i e;subst e;rw[h,if_pos (List.getElem?_eq_some_iff.1 h).1]
 ·rfl
end
end
section
open HP
theorem T3 (x:aS):(aF x).all A.pL=true:=rfl
section
variable {ay σ : Heap} {R : HP}
theorem QE {B:aV→Prop} {v:U} {l:List aS} (k:aS) (hl:l.length<1000000) (hB:∀g g' seg,(seg=[]∨B (.arr g 8 seg))→B (.arr g' 8 (seg++[aF k]))) (H:Hs B ay σ (Sl (fl aF) 8 v l*R)):
  ∃v' σ',A.append 8 (140737488355328 / 64) v (.sl 8 [aF k]) σ=some (v',σ')∧Hs B ay σ' (Sl (fl aF) 8 v' (l++[k])*R):=
 BZ (ys:=[aF k]) (xs:=[k]) (hs_eq (show pr (aF k=aF k)*(Sl (fl aF) 8 v l*R)=_ by
  rw[show els (fl aF) [aF k] [k]=pr (aF k=aF k)*emp from rfl,oT,wY];ac_rfl) (jC.2 ⟨rfl,H⟩)) (by simp;omega) hB
end
end
section
open HP
theorem O3 {l:List aO} {i:Nat} {g:List aS→List aS} (h:∀x,l[i]? =some x→g x.aJ=x.aJ):dX l i g=l:=by
 unfold dX
 split
 ·rename_i x hx
  rw[h x hx]
  exact ahh hx
 ·rfl
theorem tg (l:List aO) (i j:Nat) (g:List aS→List aS):(dX l i g)[j]? =if i=j then l[j]?.map (fun c=>{c with aJ:=g c.aJ})else l[j]? :=by
 by_cases h:i=j
 ·subst h
  rw[if_pos rfl]
  unfold dX
  split
  ·rename_i x hx
   rw[List.getElem?_set_self (List.getElem?_eq_some_iff.1 hx).1,hx];rfl
  ·rename_i hx;rw[hx];rfl
 ·rw[if_neg h,Ki h]
theorem aeZ (l:List aO) {i j:Nat} (h:i≠j) (g f:List aS→List aS):dX (dX l i g) j f=dX (dX l j f) i g:=by
 apply List.ext_getElem?
 intro k
 rw[tg,tg,tg,tg]
 by_cases h1:j=k
 ·subst h1;rw[if_pos rfl,if_neg h,if_neg h,if_pos rfl]
 ·rw[if_neg h1,if_neg h1]
theorem Ox (l:List aO) (i:Nat) (g f:List aS→List aS):dX (dX l i g) i f=dX l i (fun x=>f (g x)):=by
 apply List.ext_getElem?
 intro k
 rw[tg,tg,tg]
 by_cases h1:i=k
 ·subst h1
  rw[if_pos rfl,if_pos rfl,if_pos rfl]
  cases l[i]? <;>rfl
 ·rw[if_neg h1,if_neg h1,if_neg h1]
theorem adT {l:List aO} {i:Nat} {g f:List aS→List aS} (h:∀x,l[i]? =some x→g x.aJ=f x.aJ):dX l i g=dX l i f:=by
 unfold dX
 split
 ·rename_i x hx
  rw[h x hx]
 ·rfl
end
section
open HP
section
variable {ay σ : Heap} {R : HP}
theorem Pm {α:Type} {c:α→List U} {sz:Nat} {B:aV→Prop} {v:U} {l:List α} (hc:∀x,jD (c x)) (H:Hs B ay σ (Sl (fl c) sz v l*R)):∃v',A.fin ay v σ=some (v',ay)∧A.nn (.s sz) v'=sl sz c l:=by
 obtain⟨v',h1,h2,h3⟩:=Qb H hc (Nat.le_refl _) 7
 refine⟨v',KK (P0 H) h1 (fun e=>?_),h3⟩
 rcases uE H with⟨rfl,rfl|rfl,_⟩|⟨id,g,rfl,K⟩
 ·simp [A.bT]at h1;rw[h1]
 ·simp [A.bT]at h1;rw[h1]
 ·obtain⟨k1,k2⟩:=lB K
  have:=(List.getElem?_eq_some_iff.1 k2).1
  subst e;omega
end
end
section
open HP
theorem Yd {l:List U} (h:jD l):Fz (.rp l):=fun σ n d=>by cases d<;>simp [A.bT,h σ n]
theorem agM {σ:Heap} {n:Nat} (d:Nat) {es:List (U×U)} (h:∀p∈es,Fz p.1∧Fz p.2):A.xM σ n d es=some es:=by
 rw[←Po];exact Kt d h
theorem Qh {es:List (U×U)} (h:∀p∈es,Fz p.1∧Fz p.2):Fz (.fm es):=fun σ n d=>by cases d<;>simp [A.bT,agM _ h]
def Zc (st:List (aA×bJ)):U:=uY (fun x=>(U.agg (aK x))) (fun x=>(U.agg (cz x))) st
section
variable {ay σ : Heap} {R : HP}
end
end
theorem W7 {l:List aS} {k:aA} (h:iM l) {i:Nat} {x:aS} (hi:l[i]? =some x) (hk:x.key=k):dN l k=i:=by
 have h1:¬i<dN l k:=fun q=>by
  have:=(BO h hi).2 q
  rw[hk,xk]at this;cases this
 have h2:¬dN l k<i:=fun q=>by
  have hp:dN l k<l.length:=Nat.lt_trans q (List.getElem?_eq_some_iff.1 hi).1
  have hy:l[dN l k]? =some l[dN l k]:=List.getElem?_eq_getElem hp
  have h3:¬dZ l[dN l k].key k=true:=fun q'=>Nat.lt_irrefl _ ((BO h hy).1 q')
  have h4:=List.pairwise_iff_getElem.1 h (dN l k) i hp (List.getElem?_eq_some_iff.1 hi).1 q
  rw[(List.getElem?_eq_some_iff.1 hi).2,hk]at h4
  exact h3 h4
 omega
section
open HP
section
variable {ay σ : Heap} {R : HP}
theorem ach {l:List aO} (hlen:l.length≤300) (hm:∀c∈l,c.aJ.length≤2000):oI (oW l)∧(oW l).length≤600000000:=by
 obtain⟨b1,b2⟩:=TZ (l:=l) (fun c hc=>by have:=hm c hc;omega) 0 [] List.Pairwise.nil (Nat.zero_le _)
 exact⟨b1,by unfold oW;omega⟩
end
end
section
open HP Go.Sort
theorem LA (X d:Option U):A.guard (.bool false) false X d=X:=rfl
theorem CI (X d:Option U):A.guard (.bool true) true X d=X:=rfl
theorem Li (X d:Option U):A.guard (.bool true) false X d=d:=rfl
theorem Cd (X d:Option U):A.guard (.bool false) true X d=d:=rfl
theorem sQ (x y:U):A.pick (.bool false) x y=some y:=rfl
theorem sR (x y:U):A.pick (.bool true) x y=some x:=rfl
theorem Lo:A.not (.bool true)=some (.bool false):=rfl
theorem Ln:A.not (.bool false)=some (.bool true):=rfl
section
variable {ay σ : Heap} {R : HP}
end
end
section
set_option maxRecDepth 100000
noncomputable def Mz (a0:bV) (a1:bX):Option Bool:=
 some (decide (a0.name=a1.profile))
theorem abG {a0:bV} {a1:bX} {σ:Heap} {r:Bool} (h:Mz a0 a1=some r):zV [(U.agg (cA a0)),(U.rp (bQ a1))] σ=some ((U.bool r),σ):=by
 refine oo (f:=Mx) (y0:=(U.agg (cA a0))) (y1:=(U.rp (bQ a1))) (enc:=fun r:Bool=>(U.bool r)) (T:=Mz a0 a1) (bH (oH (bH rfl (bH rfl (bH (gR (fun _=>rfl) _) kE)))) rfl) rfl ?_ r h
 unfold Mx Mz
 refine ak _ rfl<|ak _ rfl<|ak _ rfl<|ak _ rfl<|ak _ (En _ _) ?_
 exact cq _ (bK _ _) ⟨rfl,rfl⟩
noncomputable def Fu (a0:bu) (a1:(List bO)) (a2:(List (aA×bJ))):Option (List bW):=
 gz a0.units (fun(rV:Nat) e9 (s3:(List bW))=>(show Option (Lr (List bW) (List bW) Unit)from
   (tq (a0.bz.length≤aY) (kN (fun x=>(decide (x.name=e9.profile))) a0.bz)).bind fun dG=>
   (kf a0.bz dG).bind fun bl=>
   gz bl.params (fun(i24:Nat) jY (gE:(List bW))=>(show Option (Lr (List bW) (List bW) Unit)from
     (show Option Int from
       if(cr (⟨e9.number,jY.name⟩:aA) a2).isSome=true then
        (Ab a1 (⟨e9.number,jY.name⟩:aA) (((cr (⟨e9.number,jY.name⟩:aA) a2).getD (⟨(⟨0,(⟨#[]⟩:ByteArray)⟩:aA),(⟨0,0⟩:iG),0⟩:bJ)).value)).bind fun jN=>
        some jN.1
       else
       some jY.default).bind fun zM=>
     if gE.length+([(⟨(⟨(⟨e9.number,jY.name⟩:aA).unit,(⟨e9.number,jY.name⟩:aA).param⟩:aA),zM⟩:bW)]:(List bW)).length≤4398046511104 then
     some (.go (gE++([(⟨(⟨(⟨e9.number,jY.name⟩:aA).unit,(⟨e9.number,jY.name⟩:aA).param⟩:aA),zM⟩:bW)]:(List bW))))
     else none)) (fun gE=>some gE) s3 (fun Cu=>
    some (.go Cu)) (fun Cu=>
    none))) (fun s3=>some s3) ([]:List bW) (fun b4=>
  some b4) (fun b4=>
  none)
theorem acP {a0:bu} {a1:(List bO)} {a2:(List (aA×bJ))} {σ:Heap} {r:(List bW)} (h:Fu a0 a1 a2=some r):Du [(U.agg (aP a0)),(sl 3 eB a1),(uY (fun x=>(U.agg (aK x))) (fun x=>(U.agg (cz x))) a2)] σ=some ((sl 3 dc r),σ):=by
 refine Ak (f:=Jc) (y0:=(U.agg (aP a0))) (y1:=(sl 3 eB a1)) (y2:=(uY (fun x=>(U.agg (aK x))) (fun x=>(U.agg (cz x))) a2)) (enc:=fun r:(List bW)=>(sl 3 dc r)) (T:=Fu a0 a1 a2) (bH (oH (bH (gR (fun _=>(bH rfl (bH rfl (bH (gR (fun _=>rfl) _) kE)))) _) (bH rfl kE))) (bH (gR (fun _=>rfl) _) rfl)) rfl ?_ r h
 unfold Jc Fu
 refine ak _ rfl<|ak (sl 4 bQ a0.units) rfl<|ak _ (cu _ _ _) ?_
 have hp1:Hp σ σ []:=Ed σ
 have hp2:Hp σ σ [(U.aH,(Ct.s 3 (List.map dc ([]:List bW))))]:=PY hp1 3
 refine jj (B:=(List bW)) (R:=Unit) (fun(rV:Nat) (s3:(List bW)) v w5=>∃hh0,v=[(U.lbx (aP a0)),hh0,(U.int .i64 (rV:Int))]∧Hp σ w5 [(hh0,(Ct.s 3 (List.map dc s3)))]) (fun(b4:(List bW)) (q:LS)=>∃u3 ZW hh0 w6,q=((AX.exit 0),([u3,hh0,ZW]:List U),w6)∧Hp σ w6 [(hh0,(Ct.s 3 (List.map dc b4)))]) (fun(b4:Unit) (q:LS)=>False) ?_ ?_ ⟨_,rfl,hp2⟩ ?_ ?_
 ·intro Ch rV e9 s3 v w5 rU hI
  obtain⟨hh0,rfl,vX⟩:=hI
  refine ak _ (eR rU)<|jo<|ak _ (dR rU)<|ak _ rfl ?_
  have GJ:Hp σ (w5++[aV.box [ah,(U.str (⟨#[]⟩:ByteArray)),ah,ah]]) [(hh0,(Ct.s 3 (List.map dc s3))),((U.op w5.length 0),(Ct.b (bQ (⟨0,(⟨#[]⟩:ByteArray),0,0⟩:bX))))]:=ajR vX _
  refine ak _ rfl ?_
  obtain⟨Bn,RF,Ev⟩:=afE (cs':=(bQ e9)) GJ 1 rfl 0 (by first|rfl|exact jh _ _ rfl)
  change Hp σ Bn [(hh0,(Ct.s 3 (List.map dc s3))),((U.op w5.length 0),(Ct.b (bQ e9)))]at Ev
  refine ak Bn RF<|ak _ rfl<|ak (sl 3 cA a0.bz) rfl ?_
  refine iq (fun dG:Int=>((U.int .i64 dG),Bn)) (fun dG GM=>(p5 (e:=fun r:Int=>((U.int .i64 r),Bn)) (fun hs=>LV _ a0.bz hs _ _ (fun x=>(decide (x.name=e9.profile))) Bn (fun x hx=>ahy Ev 1 rfl (OP _) (pY (Nr _)) rfl rfl (abG (σ:=[]) (r:=(decide (x.name=e9.profile))) rfl)))) GM) (fun dG GM=>?_)
  refine ak _ rfl<|ak (sl 3 cA a0.bz) rfl ?_
  refine iq (fun bl:bV=>(U.rp (cA bl))) (fun bl YT=>pI YT) (fun bl YT=>?_)
  refine ak _ rfl<|ak (sl 7 cm bl.params) rfl<|ak _ (cu _ _ _) ?_
  refine jj (B:=(List bW)) (R:=Unit) (fun(i24:Nat) (gE:(List bW)) v C2=>∃hh0,v=[(U.lbx (aP a0)),hh0,(U.int .i64 (i24:Int))]∧Hp σ C2 [(hh0,(Ct.s 3 (List.map dc gE))),((U.op w5.length 0),(Ct.b (bQ e9)))]) (fun(Cu:(List bW)) (q:LS)=>∃ZY hh0 wB,q=((AX.exit 2),([(U.lbx (aP a0)),hh0,ZY]:List U),wB)∧Hp σ wB [(hh0,(Ct.s 3 (List.map dc Cu))),((U.op w5.length 0),(Ct.b (bQ e9)))]) (fun(Cu:Unit) (q:LS)=>False) ?_ ?_ ⟨_,rfl,Ev⟩ ?_ ?_
  ·intro ajK i24 jY gE v C2 QZ hI
   obtain⟨hh0,rfl,vH⟩:=hI
   refine ak _ (eR QZ)<|jo<|ak _ (dR QZ)<|ak _ rfl<|ak _ rfl<|ak _ (kD _ _ rfl)<|ak _ rfl<|ak _ (by rw[aja vH 1 rfl];rfl)<|ak _ rfl<|ak (U.agg (aK (⟨e9.number,jY.name⟩:aA))) rfl<|ak (aK (⟨e9.number,jY.name⟩:aA)) rfl<|ak _ (Aw _ _ rfl)<|ak _ rfl<|ak (U.agg (aK (⟨e9.number,jY.name⟩:aA))) rfl<|ak _ (aem (ek:=(.s [0,2])) (eK:=(fun x=>(U.agg (aK x)))) (eV:=(fun x=>(U.agg (cz x)))) yD (⟨e9.number,jY.name⟩:aA) (⟨(⟨0,(⟨#[]⟩:ByteArray)⟩:aA),(⟨0,0⟩:iG),0⟩:bJ) rfl)<|ak (U.agg (cz ((cr (⟨e9.number,jY.name⟩:aA) a2).getD (⟨(⟨0,(⟨#[]⟩:ByteArray)⟩:aA),(⟨0,0⟩:iG),0⟩:bJ)))) rfl<|ak (U.bool (cr (⟨e9.number,jY.name⟩:aA) a2).isSome) rfl<|ak (cz ((cr (⟨e9.number,jY.name⟩:aA) a2).getD (⟨(⟨0,(⟨#[]⟩:ByteArray)⟩:aA),(⟨0,0⟩:iG),0⟩:bJ))) rfl<|ak _ (aga _ _ rfl) ?_
   refine Rg (ω:=Int) (fun zM a=>∃Bo,a=(([(U.lbx (aP a0)),(U.lbx (aK (⟨e9.number,jY.name⟩:aA))),(U.int .i64 zM)]:List U),Bo)∧Hp σ Bo [(hh0,(Ct.s 3 (List.map dc gE))),((U.op w5.length 0),(Ct.b (bQ e9)))]) (
     by
      refine fJ (c:=(cr (⟨e9.number,jY.name⟩:aA) a2).isSome) (fun jE=>?_) (fun jE=>?_)
      ·refine ak (U.agg (aK (⟨e9.number,jY.name⟩:aA))) rfl<|ak (U.agg (ou (((cr (⟨e9.number,jY.name⟩:aA) a2).getD (⟨(⟨0,(⟨#[]⟩:ByteArray)⟩:aA),(⟨0,0⟩:iG),0⟩:bJ)).value))) rfl ?_
       refine iq (fun jN:(Int×Int)=>((U.aL [(U.int .i64 jN.1),(U.int .i64 jN.2)]),C2)) (fun jN YP=>Tr YP) (fun jN YP=>?_)
       refine ak _ rfl<|ak _ rfl ?_
       exact bn ⟨_,rfl,vH⟩
      exact bn ⟨_,rfl,vH⟩
     ) (fun zM a ha=>?_)
   obtain⟨Bo,rfl,akO⟩:=ha
   refine ak (U.agg (aK (⟨e9.number,jY.name⟩:aA))) rfl<|ak (U.agg (dc (⟨(⟨(⟨e9.number,jY.name⟩:aA).unit,(⟨e9.number,jY.name⟩:aA).param⟩:aA),zM⟩:bW))) rfl<|ak (sl 3 dc ([(⟨(⟨(⟨e9.number,jY.name⟩:aA).unit,(⟨e9.number,jY.name⟩:aA).param⟩:aA),zM⟩:bW)]:(List bW))) rfl ?_
   refine Lb (fun hm=>?_)
   obtain⟨h33,w30,Ba,Ey⟩:=Pr (c:=dc) (ys:=([(⟨(⟨(⟨e9.number,jY.name⟩:aA).unit,(⟨e9.number,jY.name⟩:aA).param⟩:aA),zM⟩:bW)]:(List bW))) (most:=4398046511104) akO 0 rfl hm
   change Hp σ w30 [(h33,(Ct.s 3 (List.map dc (gE++([(⟨(⟨(⟨e9.number,jY.name⟩:aA).unit,(⟨e9.number,jY.name⟩:aA).param⟩:aA),zM⟩:bW)]:(List bW)))))),((U.op w5.length 0),(Ct.b (bQ e9)))]at Ey
   refine ak _ Ba<|ak _ (dB QZ ajK) ?_
   exact bn (iH ⟨_,rfl,Ey⟩)
  ·intro hl gE v C2 hI
   obtain⟨hh0,rfl,vH⟩:=hI
   refine ak _ (eO _)<|jm ?_
   exact bn ⟨by simp,⟨_,_,_,rfl,vH⟩⟩
  ·intro hl Cu q hq
   obtain⟨ZY,hh0,wB,rfl,GK⟩:=hq
   refine dS rfl<|ak _ (dB rU Ch) ?_
   exact bn (iH ⟨_,rfl,(ahV GK 1)⟩)
  ·intro hl Cu q hq
   exact False.elim hq
 ·intro hl s3 v w5 hI
  obtain⟨hh0,rfl,vX⟩:=hI
  refine ak _ (eO _)<|jm ?_
  exact bn ⟨by simp,⟨_,_,_,_,rfl,vX⟩⟩
 ·intro hl b4 q hq
  obtain⟨u3,ZW,hh0,w6,rfl,qq⟩:=hq
  refine dS rfl ?_
  obtain⟨ZT,Hh,Hi⟩:=Pp (c:=dc) (l:=b4) qq (k:=0) rfl TN
  exact cq _ (BU qq Hh) ⟨(Py Hi),rfl⟩
 ·intro hl b4 q hq
  exact False.elim hq
noncomputable def Dv (a0:(List bV)) (a1:ByteArray):Option (bV×Bool):=
 gz a0 (fun(i8:Nat) e7 (s1:Unit)=>(show Option (Lr Unit Unit (bV×Bool))from
   if e7.name=a1 then
    some (.ret (e7,true))
   else
   some (.go ()))) (fun s1=>some ()) () (fun b2=>
  some ((⟨(⟨#[]⟩:ByteArray),0,[]⟩:bV),false)) (fun b2=>
  some (b2.1,b2.2))
theorem acN {a0:(List bV)} {a1:ByteArray} {σ:Heap} {r:(bV×Bool)} (h:Dv a0 a1=some r):Bs [(sl 3 cA a0),(U.str a1)] σ=some ((U.aL [(U.agg (cA r.1)),(U.bool r.2)]),σ):=by
 refine oo (f:=Fo) (y0:=(sl 3 cA a0)) (y1:=(U.str a1)) (enc:=fun r:(bV×Bool)=>(U.aL [(U.agg (cA r.1)),(U.bool r.2)])) (T:=Dv a0 a1) rfl rfl ?_ r h
 unfold Fo Dv
 refine ak _ (cu _ _ _) ?_
 refine jj (B:=Unit) (R:=(bV×Bool)) (fun(i8:Nat) (s1:Unit) v w3=>v=[(U.lbx [(U.str (⟨#[]⟩:ByteArray)),ah,U.aH]),aD,(U.int .i64 (i8:Int))]∧σ=w3) (fun(b2:Unit) (q:LS)=>∃u5 wz,q=((AX.exit 0),([(U.lbx [(U.str (⟨#[]⟩:ByteArray)),ah,U.aH]),u5,wz]:List U),σ)) (fun(b2:(bV×Bool)) (q:LS)=>∃wz,q=(AX.ret,([(U.lbx (cA b2.1)),(U.bool b2.2),wz]:List U),σ)) ?_ ?_ ⟨rfl,rfl⟩ ?_ ?_
 ·intro lD i8 e7 s1 v w3 eS hI
  obtain⟨rfl,rfl⟩:=hI
  refine ak _ (eR eS)<|jo<|ak _ (dR eS)<|ak _ rfl<|ak _ rfl<|ak _ (jQ _ _ rfl)<|ak _ rfl<|ak _ (En _ _) ?_
  refine gU (p:=e7.name=a1) (fun c9=>?_) (fun c9=>?_)
  ·refine ak _ rfl<|ak _ rfl<|ak _ rfl<|ak _ (jQ _ _ rfl) ?_
   exact bn (ey (by simp) ⟨_,rfl⟩)
  refine ak _ (dB eS lD) ?_
  exact bn (iH ⟨rfl,rfl⟩)
 ·intro hl s1 v w3 hI
  obtain⟨rfl,rfl⟩:=hI
  refine ak _ (eO _)<|jm ?_
  exact bn ⟨by simp,⟨_,_,rfl⟩⟩
 ·intro hl b2 q hq
  obtain⟨u5,wz,rfl⟩:=hq
  refine dS rfl<|ak _ rfl<|ak [(U.str (⟨#[]⟩:ByteArray)),ah,U.aH] rfl<|ak [(U.str (⟨#[]⟩:ByteArray)),ah,U.aH] rfl<|ak (U.agg [(U.str (⟨#[]⟩:ByteArray)),ah,U.aH]) rfl ?_
  exact cq _ (bK _ _) ⟨(Lm (bH (oH (bH rfl (bH rfl (bH (by first|rfl|exact WU _ _) kE)))) (bH rfl kE))),rfl⟩
 ·intro hl b2 q hq
  obtain⟨wz,rfl⟩:=hq
  refine mm rfl<|dS rfl<|ak _ rfl ?_
  exact cq _ (bK _ _) ⟨(Lm (bH (oH (bH rfl (bH rfl (bH (gR (fun _=>rfl) _) kE)))) (bH rfl kE))),rfl⟩
noncomputable def DD (a0:bu):Option (List aA):=
 gz a0.units (fun(rV:Nat) e9 (s3:(List aA))=>(show Option (Lr (List aA) (List aA) Unit)from
   (Dv a0.bz e9.profile).bind fun cD=>
   gz cD.1.params (fun(um:Nat) jM (lF:(List aA))=>(show Option (Lr (List aA) (List aA) Unit)from
     if lF.length+([(⟨e9.number,jM.name⟩:aA)]:(List aA)).length≤5864062014805 then
     some (.go (lF++([(⟨e9.number,jM.name⟩:aA)]:(List aA))))
     else none)) (fun lF=>some lF) s3 (fun rP=>
    some (.go rP)) (fun rP=>
    none))) (fun s3=>some s3) ([]:List aA) (fun b4=>
  some b4) (fun b4=>
  none)
theorem ado {a0:bu} {σ:Heap} {r:(List aA)} (h:DD a0=some r):Nv [(U.agg (aP a0))] σ=some ((sl 2 aK r),σ):=by
 refine Aj (f:=ND) (y0:=(U.agg (aP a0))) (enc:=fun r:(List aA)=>(sl 2 aK r)) (T:=DD a0) rfl rfl ?_ r h
 unfold ND DD
 refine ak _ rfl<|ak (sl 4 bQ a0.units) rfl<|ak _ (cu _ _ _) ?_
 have hp1:Hp σ σ []:=Ed σ
 have hp2:Hp σ σ [(U.aH,(Ct.s 2 (List.map aK ([]:List aA))))]:=PY hp1 2
 refine jj (B:=(List aA)) (R:=Unit) (fun(rV:Nat) (s3:(List aA)) v w5=>∃hh0,v=[(U.lbx (aP a0)),hh0,(U.int .i64 (rV:Int))]∧Hp σ w5 [(hh0,(Ct.s 2 (List.map aK s3)))]) (fun(b4:(List aA)) (q:LS)=>∃u1 jt hh0 w6,q=((AX.exit 0),([u1,hh0,jt]:List U),w6)∧Hp σ w6 [(hh0,(Ct.s 2 (List.map aK b4)))]) (fun(b4:Unit) (q:LS)=>False) ?_ ?_ ⟨_,rfl,hp2⟩ ?_ ?_
 ·intro Ch rV e9 s3 v w5 rU hI
  obtain⟨hh0,rfl,vX⟩:=hI
  refine ak _ (eR rU)<|jo<|ak _ (dR rU)<|ak _ rfl<|ak _ rfl<|ak _ (jh _ _ rfl)<|ak _ rfl<|ak (sl 3 cA a0.bz) rfl<|ak _ rfl ?_
  refine iq (fun cD:(bV×Bool)=>((U.aL [(U.agg (cA cD.1)),(U.bool cD.2)]),w5)) (fun cD sH=>acN sH) (fun cD sH=>?_)
  refine ak _ rfl<|ak _ rfl<|ak _ rfl<|ak _ (jQ _ _ rfl)<|ak (sl 7 cm cD.1.params) rfl<|ak _ (cu _ _ _) ?_
  refine jj (B:=(List aA)) (R:=Unit) (fun(um:Nat) (lF:(List aA)) v wA=>∃hh0,v=[(U.lbx (aP a0)),hh0,(U.lbx (bQ e9)),(U.int .i64 (um:Int))]∧Hp σ wA [(hh0,(Ct.s 2 (List.map aK lF)))]) (fun(rP:(List aA)) (q:LS)=>∃u5 ZX hh0 E0,q=((AX.exit 2),([(U.lbx (aP a0)),hh0,u5,ZX]:List U),E0)∧Hp σ E0 [(hh0,(Ct.s 2 (List.map aK rP)))]) (fun(rP:Unit) (q:LS)=>False) ?_ ?_ ⟨_,rfl,vX⟩ ?_ ?_
  ·intro Ql um jM lF v wA Cf hI
   obtain⟨hh0,rfl,A4⟩:=hI
   refine ak _ (eR Cf)<|jo<|ak _ (dR Cf)<|ak _ rfl<|ak _ rfl<|ak _ (kD _ _ rfl)<|ak _ rfl<|ak _ rfl<|ak _ rfl<|ak (U.agg (aK (⟨e9.number,jM.name⟩:aA))) rfl<|ak (sl 2 aK ([(⟨e9.number,jM.name⟩:aA)]:(List aA))) rfl ?_
   refine Lb (fun hm=>?_)
   obtain⟨h23,wB,RG,vH⟩:=Pr (c:=aK) (ys:=([(⟨e9.number,jM.name⟩:aA)]:(List aA))) (most:=5864062014805) A4 0 rfl hm
   change Hp σ wB [(h23,(Ct.s 2 (List.map aK (lF++([(⟨e9.number,jM.name⟩:aA)]:(List aA))))))]at vH
   refine ak _ RG<|ak _ (dB Cf Ql) ?_
   exact bn (iH ⟨_,rfl,vH⟩)
  ·intro hl lF v wA hI
   obtain⟨hh0,rfl,A4⟩:=hI
   refine ak _ (eO _)<|jm ?_
   exact bn ⟨by simp,⟨_,_,_,_,rfl,A4⟩⟩
  ·intro hl rP q hq
   obtain⟨u5,ZX,hh0,E0,rfl,akL⟩:=hq
   refine dS rfl<|ak _ (dB rU Ch) ?_
   exact bn (iH ⟨_,rfl,akL⟩)
  ·intro hl rP q hq
   exact False.elim hq
 ·intro hl s3 v w5 hI
  obtain⟨hh0,rfl,vX⟩:=hI
  refine ak _ (eO _)<|jm ?_
  exact bn ⟨by simp,⟨_,_,_,_,rfl,vX⟩⟩
 ·intro hl b4 q hq
  obtain⟨u1,jt,hh0,w6,rfl,qq⟩:=hq
  refine dS rfl ?_
  obtain⟨ZT,Hh,Hi⟩:=Pp (c:=aK) (l:=b4) qq (k:=0) rfl uI
  exact cq _ (BU qq Hh) ⟨(Py Hi),rfl⟩
 ·intro hl b4 q hq
  exact False.elim hq
noncomputable def FB (a0:bu) (a1:(List bO)) (a2:(List bJ)):Option (List bW):=
 (DD a0).bind fun r1=>
 gz r1 (fun(qu:Nat) gp (s4:(List bW))=>(show Option (Lr (List bW) (List bW) Unit)from
   (tq (fU a0) (jB a0 gp)).bind fun pS=>
   (DK a2 gp).bind fun fR=>
   (show Option Int from
     if fR.2=true then
      (kf a2 fR.1).bind fun bw=>
      (Ah a1 gp bw.value).bind fun dG=>
      some dG.1
     else
     some pS.1.default).bind fun zL=>
   if s4.length+([(⟨(⟨gp.unit,gp.param⟩:aA),zL⟩:bW)]:(List bW)).length≤4398046511104 then
   some (.go (s4++([(⟨(⟨gp.unit,gp.param⟩:aA),zL⟩:bW)]:(List bW))))
   else none)) (fun s4=>some s4) ([]:List bW) (fun b5=>
  some b5) (fun b5=>
  none)
theorem adp {a0:bu} {a1:(List bO)} {a2:(List bJ)} {σ:Heap} {r:(List bW)} (h:FB a0 a1 a2=some r):Jl [(U.agg (aP a0)),(sl 3 eB a1),(sl 5 cz a2)] σ=some ((sl 3 dc r),σ):=by
 refine Ak (f:=NG) (y0:=(U.agg (aP a0))) (y1:=(sl 3 eB a1)) (y2:=(sl 5 cz a2)) (enc:=fun r:(List bW)=>(sl 3 dc r)) (T:=FB a0 a1 a2) (bH (oH (bH (gR (fun _=>(bH rfl (bH rfl (bH (gR (fun _=>rfl) _) kE)))) _) (bH rfl kE))) (bH (gR (fun _=>rfl) _) (bH rfl rfl))) rfl ?_ r h
 unfold NG FB
 refine ak _ rfl<|ak _ rfl ?_
 refine iq (fun r1:(List aA)=>((sl 2 aK r1),σ)) (fun r1 j0=>ado j0) (fun r1 j0=>?_)
 refine ak _ (cu _ _ _) ?_
 have hp2:Hp σ σ []:=Ed σ
 have RX:Hp σ σ [(U.aH,(Ct.s 3 (List.map dc ([]:List bW))))]:=PY hp2 3
 refine jj (B:=(List bW)) (R:=Unit) (fun(qu:Nat) (s4:(List bW)) v w6=>∃hh0,v=[(U.lbx (aP a0)),hh0,(U.int .i64 (qu:Int))]∧Hp σ w6 [(hh0,(Ct.s 3 (List.map dc s4)))]) (fun(b5:(List bW)) (q:LS)=>∃u3 H7 hh0 w7,q=((AX.exit 0),([u3,hh0,H7]:List U),w7)∧Hp σ w7 [(hh0,(Ct.s 3 (List.map dc b5)))]) (fun(b5:Unit) (q:LS)=>False) ?_ ?_ ⟨_,rfl,RX⟩ ?_ ?_
 ·intro Gl qu gp s4 v w6 vF hI
  obtain⟨hh0,rfl,qq⟩:=hI
  refine ak _ (eR vF)<|jo<|ak _ (dR vF)<|ak _ rfl<|ak _ rfl<|ak _ (Aw _ _ rfl)<|ak _ rfl<|ak _ rfl ?_
  refine iq (fun pS:(dI×Bool)=>((U.aL [(U.agg (cm pS.1)),(U.bool pS.2)]),w6)) (fun pS YM=>(p5 (e:=fun r:(dI×Bool)=>((U.aL [(U.agg (cm r.1)),(U.bool r.2)]),w6)) (fun hs=>Fv a0 hs gp w6)) YM) (fun pS YM=>?_)
  refine ak _ rfl<|ak _ rfl<|ak _ rfl<|ak _ (kD _ _ rfl)<|ak _ rfl<|ak _ rfl ?_
  refine iq (fun fR:(Int×Bool)=>((U.aL [(U.int .i64 fR.1),(U.bool fR.2)]),w6)) (fun fR GL=>Ud GL) (fun fR GL=>?_)
  refine ak _ rfl<|ak _ rfl ?_
  refine Rg (ω:=Int) (fun zL a=>∃SE,a=(([(U.lbx (aP a0)),(U.lbx (aK gp)),(U.int .i64 zL)]:List U),SE)∧Hp σ SE [(hh0,(Ct.s 3 (List.map dc s4)))]) (
    by
     refine fJ (c:=fR.2) (fun jW=>?_) (fun jW=>?_)
     ·refine ak _ rfl ?_
      refine iq (fun bw:bJ=>(U.rp (cz bw))) (fun bw YS=>pI YS) (fun bw YS=>?_)
      refine ak _ rfl<|ak _ rfl ?_
      refine iq (fun dG:(Int×Int)=>(U.aL [(U.int .i64 dG.1),(U.int .i64 dG.2)])) (fun dG GM=>(quiet_of (Uc GM))) (fun dG GM=>?_)
      refine ak _ rfl<|ak _ rfl ?_
      exact bn ⟨_,rfl,qq⟩
     exact bn ⟨_,rfl,qq⟩
    ) (fun zL a ha=>?_)
  obtain⟨SE,rfl,akM⟩:=ha
  refine ak _ rfl<|ak (U.agg (dc (⟨(⟨gp.unit,gp.param⟩:aA),zL⟩:bW))) rfl<|ak (sl 3 dc ([(⟨(⟨gp.unit,gp.param⟩:aA),zL⟩:bW)]:(List bW))) rfl ?_
  refine Lb (fun hm=>?_)
  obtain⟨h23,wB,RG,vH⟩:=Pr (c:=dc) (ys:=([(⟨(⟨gp.unit,gp.param⟩:aA),zL⟩:bW)]:(List bW))) (most:=4398046511104) akM 0 rfl hm
  change Hp σ wB [(h23,(Ct.s 3 (List.map dc (s4++([(⟨(⟨gp.unit,gp.param⟩:aA),zL⟩:bW)]:(List bW))))))]at vH
  refine ak _ RG<|ak _ (dB vF Gl) ?_
  exact bn (iH ⟨_,rfl,vH⟩)
 ·intro hl s4 v w6 hI
  obtain⟨hh0,rfl,qq⟩:=hI
  refine ak _ (eO _)<|jm ?_
  exact bn ⟨by simp,⟨_,_,_,_,rfl,qq⟩⟩
 ·intro hl b5 q hq
  obtain⟨u3,H7,hh0,w7,rfl,HE⟩:=hq
  refine dS rfl ?_
  obtain⟨ZT,Hh,Hi⟩:=Pp (c:=dc) (l:=b5) HE (k:=0) rfl TN
  exact cq _ (BU HE Hh) ⟨(Py Hi),rfl⟩
 ·intro hl b5 q hq
  exact False.elim hq
noncomputable def E9 (a0:(List jk)) (a1:(List jk)):Option Bool:=
 if ¬((a0.length:Int)=(a1.length:Int))then
  some false
 else
 gz a0 (fun(i8:Nat) e7 (s1:Unit)=>(show Option (Lr Unit Unit Unit)from
   (kf a1 (i8:Int)).bind fun x9=>
   if ¬(e7=x9)then
    some (.ret ())
   else
   some (.go ()))) (fun s1=>some ()) () (fun b2=>
  some true) (fun b2=>
  some false)
theorem aa5 {a0:(List jk)} {a1:(List jk)} {σ:Heap} {r:Bool} (h:E9 a0 a1=some r):L2 [(sl 3 cZ a0),(sl 3 cZ a1)] σ=some ((U.bool r),σ):=by
 refine oo (f:=L4) (y0:=(sl 3 cZ a0)) (y1:=(sl 3 cZ a1)) (enc:=fun r:Bool=>(U.bool r)) (T:=E9 a0 a1) rfl rfl ?_ r h
 unfold L4 E9
 refine ak _ (cu _ _ _)<|ak _ (cu _ _ _)<|ak _ (gB _ _ _) ?_
 refine gU (p:=¬((a0.length:Int)=(a1.length:Int))) (fun dw=>?_) (fun dw=>?_)
 ·exact cq _ (bK _ _) ⟨rfl,rfl⟩
 refine ak _ (cu _ _ _) ?_
 refine jj (B:=Unit) (R:=Unit) (fun(i8:Nat) (s1:Unit) v w3=>v=[aD,(U.int .i64 (i8:Int))]∧σ=w3) (fun(b2:Unit) (q:LS)=>∃u4 jt,q=((AX.exit 0),([u4,jt]:List U),σ)) (fun(b2:Unit) (q:LS)=>∃jt,q=(AX.ret,([aD,jt]:List U),σ)) ?_ ?_ ⟨rfl,rfl⟩ ?_ ?_
 ·intro lD i8 e7 s1 v w3 eS hI
  obtain⟨rfl,rfl⟩:=hI
  refine ak _ (eR eS)<|jo<|ak _ (dR eS)<|ak _ rfl ?_
  refine iq (fun x9:jk=>(U.rp (cZ x9))) (fun x9 mB=>pI mB) (fun x9 mB=>?_)
  refine ak _ rfl<|ak _ (aic _ _) ?_
  refine gU (p:=¬(e7=x9)) (fun dr=>?_) (fun dr=>?_)
  ·exact bn (ey (by simp) ⟨_,rfl⟩)
  refine ak _ (dB eS lD) ?_
  exact bn (iH ⟨rfl,rfl⟩)
 ·intro hl s1 v w3 hI
  obtain⟨rfl,rfl⟩:=hI
  refine ak _ (eO _)<|jm ?_
  exact bn ⟨by simp,⟨_,_,rfl⟩⟩
 ·intro hl b2 q hq
  obtain⟨u4,jt,rfl⟩:=hq
  refine dS rfl ?_
  exact cq _ (bK _ _) ⟨rfl,rfl⟩
 ·intro hl b2 q hq
  obtain⟨jt,rfl⟩:=hq
  refine mm rfl<|dS rfl ?_
  exact cq _ (bK _ _) ⟨rfl,rfl⟩
noncomputable def M5 (a0:bV) (a1:bX):Option Bool:=
 some (decide (a0.name=a1.profile))
theorem ack {a0:bV} {a1:bX} {σ:Heap} {r:Bool} (h:M5 a0 a1=some r):uA [(U.agg (cA a0)),(U.rp (bQ a1))] σ=some ((U.bool r),σ):=by
 refine oo (f:=MY) (y0:=(U.agg (cA a0))) (y1:=(U.rp (bQ a1))) (enc:=fun r:Bool=>(U.bool r)) (T:=M5 a0 a1) (bH (oH (bH rfl (bH rfl (bH (gR (fun _=>rfl) _) kE)))) rfl) rfl ?_ r h
 unfold MY M5
 refine ak _ rfl<|ak _ rfl<|ak _ rfl<|ak _ rfl<|ak _ (En _ _) ?_
 exact cq _ (bK _ _) ⟨rfl,rfl⟩
noncomputable def Fq (a0:(List bW)) (a1:aA) (a2:Int):Option Int:=
 gz a0 (fun(i8:Nat) e7 (s1:Unit)=>(show Option (Lr Unit Unit Int)from
   if e7.key=a1 then
    some (.ret e7.level)
   else
   some (.go ()))) (fun s1=>some ()) () (fun b2=>
  some a2) (fun b2=>
  some b2)
theorem acM {a0:(List bW)} {a1:aA} {a2:Int} {σ:Heap} {r:Int} (h:Fq a0 a1 a2=some r):sZ [(sl 3 dc a0),(U.agg (aK a1)),(U.int .i64 a2)] σ=some ((U.int .i64 r),σ):=by
 refine Ak (f:=Nb) (y0:=(sl 3 dc a0)) (y1:=(U.agg (aK a1))) (y2:=(U.int .i64 a2)) (enc:=fun r:Int=>(U.int .i64 r)) (T:=Fq a0 a1 a2) rfl rfl ?_ r h
 unfold Nb Fq
 refine ak _ rfl<|ak _ (cu _ _ _) ?_
 refine jj (B:=Unit) (R:=Int) (fun(i8:Nat) (s1:Unit) v w3=>v=[(U.lbx (aK a1)),ah,(U.int .i64 (i8:Int))]∧σ=w3) (fun(b2:Unit) (q:LS)=>∃u4 u6 sV,q=((AX.exit 0),([u4,u6,sV]:List U),σ)) (fun(b2:Int) (q:LS)=>∃u4 sV,q=(AX.ret,([u4,(U.int .i64 b2),sV]:List U),σ)) ?_ ?_ ⟨rfl,rfl⟩ ?_ ?_
 ·intro lD i8 e7 s1 v w3 eS hI
  obtain⟨rfl,rfl⟩:=hI
  refine ak _ (eR eS)<|jo<|ak _ (dR eS)<|ak _ rfl<|ak _ rfl<|ak _ (Bx _ _ rfl)<|ak _ rfl<|ak _ rfl<|ak _ (Ge _ _) ?_
  refine gU (p:=e7.key=a1) (fun c9=>?_) (fun c9=>?_)
  ·refine ak _ rfl ?_
   exact bn (ey (by simp) ⟨_,_,rfl⟩)
  refine ak _ (dB eS lD) ?_
  exact bn (iH ⟨rfl,rfl⟩)
 ·intro hl s1 v w3 hI
  obtain⟨rfl,rfl⟩:=hI
  refine ak _ (eO _)<|jm ?_
  exact bn ⟨by simp,⟨_,_,_,rfl⟩⟩
 ·intro hl b2 q hq
  obtain⟨u4,u6,sV,rfl⟩:=hq
  refine dS rfl ?_
  exact cq _ (bK _ _) ⟨rfl,rfl⟩
 ·intro hl b2 q hq
  obtain⟨u4,sV,rfl⟩:=hq
  refine mm rfl<|dS rfl ?_
  exact cq _ (bK _ _) ⟨rfl,rfl⟩
end
section
set_option maxRecDepth 100000
noncomputable def FO (a0:bu) (a1:(List bW)) (a2:Int):Option Bool:=
 gz a1 (fun(i8:Nat) e7 (s1:Bool)=>(show Option (Lr Bool Bool Unit)from
   (tq (fU a0) (jB a0 e7.key)).bind fun r9=>
   if((decide (¬(e7.key.unit=a2)))||(decide (¬(r9.1.group=1))))=true then
    some (.go s1)
   else
   if ¬(e7.level=0)then
    some (.ret ())
   else
   some (.go true))) (fun s1=>some s1) false (fun b2=>
  some b2) (fun b2=>
  some false)
theorem afD {a0:bu} {a1:(List bW)} {a2:Int} {σ:Heap} {r:Bool} (h:FO a0 a1 a2=some r):tc [(U.agg (aP a0)),(sl 3 dc a1),(U.int .i64 a2)] σ=some ((U.bool r),σ):=by
 refine Ak (f:=Ou) (y0:=(U.agg (aP a0))) (y1:=(sl 3 dc a1)) (y2:=(U.int .i64 a2)) (enc:=fun r:Bool=>(U.bool r)) (T:=FO a0 a1 a2) (bH (oH (bH (gR (fun _=>(bH rfl (bH rfl (bH (gR (fun _=>rfl) _) kE)))) _) (bH rfl kE))) (bH rfl rfl)) rfl ?_ r h
 unfold Ou FO
 refine ak _ rfl<|ak _ (cu _ _ _) ?_
 refine jj (B:=Bool) (R:=Unit) (fun(i8:Nat) (s1:Bool) v w3=>v=[(U.lbx (aP a0)),aD,(U.bool s1),(U.int .i64 (i8:Int))]∧σ=w3) (fun(b2:Bool) (q:LS)=>∃u3 u6 H6,q=((AX.exit 0),([u3,u6,(U.bool b2),H6]:List U),σ)) (fun(b2:Unit) (q:LS)=>∃u3 u7 H6,q=(AX.ret,([u3,aD,u7,H6]:List U),σ)) ?_ ?_ ⟨rfl,rfl⟩ ?_ ?_
 ·intro lD i8 e7 s1 v w3 eS hI
  obtain⟨rfl,rfl⟩:=hI
  refine ak _ (eR eS)<|jo<|ak _ (dR eS)<|ak _ rfl<|ak _ rfl<|ak _ (Bx _ _ rfl)<|ak _ rfl<|ak _ rfl ?_
  refine iq (fun r9:(dI×Bool)=>((U.aL [(U.agg (cm r9.1)),(U.bool r9.2)]),σ)) (fun r9 HI=>(p5 (e:=fun r:(dI×Bool)=>((U.aL [(U.agg (cm r.1)),(U.bool r.2)]),σ)) (fun hs=>Fv a0 hs e7.key σ)) HI) (fun r9 HI=>?_)
  refine ak _ rfl<|ak _ rfl<|ak _ rfl<|ak _ (kD _ _ rfl)<|ak _ rfl<|ak _ (gB _ _ _)<|eX (U.int .i64 r9.1.group) (fun hg=>rfl)<|eX (U.bool (decide (¬(r9.1.group=1)))) (fun hg=>by(try rw[hg]);exact(gB _ _ _))<|ak _ (pK _ _) ?_
  refine fJ (c:=((decide (¬(e7.key.unit=a2)))||(decide (¬(r9.1.group=1))))) (fun dw=>?_) (fun dw=>?_)
  ·refine ak _ (dB eS lD) ?_
   exact bn (iH ⟨rfl,rfl⟩)
  refine ak _ rfl<|ak _ (gB _ _ _) ?_
  refine gU (p:=¬(e7.level=0)) (fun dr=>?_) (fun dr=>?_)
  ·exact bn (ey (by simp) ⟨_,_,_,rfl⟩)
  refine ak _ (dB eS lD) ?_
  exact bn (iH ⟨rfl,rfl⟩)
 ·intro hl s1 v w3 hI
  obtain⟨rfl,rfl⟩:=hI
  refine ak _ (eO _)<|jm ?_
  exact bn ⟨by simp,⟨_,_,_,rfl⟩⟩
 ·intro hl b2 q hq
  obtain⟨u3,u6,H6,rfl⟩:=hq
  refine dS rfl ?_
  exact cq _ (bK _ _) ⟨rfl,rfl⟩
 ·intro hl b2 q hq
  obtain⟨u3,u7,H6,rfl⟩:=hq
  refine mm rfl<|dS rfl ?_
  exact cq _ (bK _ _) ⟨rfl,rfl⟩
end
theorem PV {α:Type} {l:List α} {body:Nat→α→Unit→Option (Lr Unit Unit Unit)} {K:Unit→Option Bool} (hl:l.length≤aY) (hb:∀i x,l[i]? =some x→body i x ()=some (.go ())):gz l body (fun s=>some ()) () (fun _=>some true) K=some true:=by
 rw[DN (p:=fun _=>false) (r:=fun _=>()) hl (fun i x hx=>by rw[hb i x hx];rfl)]
 have:l.find? (fun _=>false)=none:=by simp
 rw[this]
theorem agl (l:List kL) (hl:l.length≤aY):Db l l=some true:=by
 unfold Db
 simp only[not_true_eq_false,if_false]
 refine PV hl fun i x hx=>?_
 rw[yG (x:=x) (by omega) (by simpa using hx)]
 simp
theorem agk (l:List aS) (hl:l.length≤aY):Dd l l=some true:=by
 unfold Dd
 simp only[not_true_eq_false,if_false]
 refine PV hl fun i x hx=>?_
 rw[yG (x:=x) (by omega) (by simpa using hx)]
 simp
theorem af3 (c:aO) (h:lX c):Ft c c=some true:=by
 unfold Ft
 have h1:c.dg.points.length≤aY:=h.2.2.2.2.2.2.1.2.1
 have h2:c.aJ.length≤aY:=h.2.2.2.2.2.2.2.2.1
 simp only[decide_true,Bool.and_self,if_true,agl _ h1,agk _ h2,Option.bind_some]
theorem aeX (l:List aO) (hl:cH lX l) (σ:Heap):MT [sl 11 aM l,sl 11 aM l] σ=some (.bool true,σ):=by
 have hd:∀x∈l,A.tab (fun _ _=>none) [(201,zY)] 201 [.agg (aM x),.agg (aM x)] σ=some (.bool true,σ):=fun x hx=>acO (af3 x (hl.2 x hx))
 have key:Iw (A.tab (fun _ _=>none) [(201,zY)]) [sl 11 aM l,sl 11 aM l,.fn 201 []] σ=some (.bool true,σ):=by
  refine wrap_eq rfl ?_ rfl
  show Iy _ (sl 11 aM l) (sl 11 aM l) (.fn 201 []) σ=_
  unfold Iy
  rw[cu,Option.bind_some,Option.bind_some,gB,Option.bind_some,decide_eq_false (by simp)]
  show((A.loop _ _ _).bind _)=_
  have ajO:∀(pre rest:List aO),l=pre++rest→∃n,A.iter (fun v5 s6=>
    (A.lss (v5.getD 1 U.undef) (.int .i64 (l.length:Int))).bind fun x8=>
    A.cond x8 (
     (A.aN 11 (sl 11 aM l) (v5.getD 1 U.undef)).bind fun x9=>
     ((A.deref x9 s6).bind fun dr=>A.az 0 11 dr).bind fun bN=>
     (A.cells 11 bN).bind fun bR=>
     (A.splice 0 bR [ah,aW,ah,ah,ah,ah,ah,U.aH,aD,ah,U.aH]).bind fun ep=>
     (A.aN 11 (sl 11 aM l) (v5.getD 1 U.undef)).bind fun bw=>
     ((A.deref bw s6).bind fun fV=>A.az 0 11 fV).bind fun bl=>
     (A.cells 11 bl).bind fun iN=>
     (A.splice 0 iN [ah,aW,ah,ah,ah,ah,ah,U.aH,aD,ah,U.aH]).bind fun eu=>
     (A.az 0 11 ep).bind fun cg=>
     (A.az 0 11 eu).bind fun bI=>
     (A.iI (A.tab (fun _ _=>none) [(201,zY)]) (.fn 201 []) [cg,bI] s6).bind fun dV=>
     (A.not dV.1).bind fun bB=>
     A.cond bB (
      some (AX.ret,[aD,(v5.getD 1 U.undef)],dV.2)) (
      (A.add (v5.getD 1 U.undef) aI).bind fun ct=>
      some (AX.normal,[(v5.getD 0 U.undef),ct],dV.2))) (
     some (AX.exit 0,[(v5.getD 0 U.undef),(v5.getD 1 U.undef)],s6))) n [.bool false,.int .i64 (pre.length:Int)] σ=some (.exit 0,[.bool false,.int .i64 (l.length:Int)],σ):=by
   intro pre rest
   induction rest generalizing pre with
   |nil=>
    intro h
    rw[List.append_nil]at h
    subst h
    refine qC ?_ (by simp)
    simp only[List.getD_cons_zero,List.getD_cons_succ]
    rw[eO];rfl
   |cons x rest ih=>
    intro h
    have hx:l[pre.length]? =some x:=by rw[h];simp
    have oM:=hd x (List.mem_of_getElem? hx)
    refine wS (σ':=σ) (v':=[.bool false,.int .i64 ((pre.length+1:Nat):Int)]) ?_ ?_
    ·simp only[List.getD_cons_zero,List.getD_cons_succ]
     rw[eR hx,Option.bind_some]
     show((A.aN 11 (sl 11 aM l) (.int .i64 (pre.length:Int))).bind _)=_
     rw[dR hx,Option.bind_some]
     have hsp:A.splice 0 (aM x) [ah,aW,ah,ah,ah,ah,ah,U.aH,aD,ah,U.aH]=some (aM x):=yF _ _ rfl
     simp only[A.deref,Option.bind_some,uJ,F4,hsp,dR hx,A.iI,List.append_nil]
     rw[oM,Option.bind_some,show A.not (.bool true)=some (.bool false)from rfl,Option.bind_some]
     simp only[A.cond,cond_false]
     rw[dB hx hl.1];rfl
    ·have:=ih (pre++[x]) (by rw[h];simp)
     rwa[List.length_append,List.length_singleton]at this
  obtain⟨n,hn⟩:=ajO [] l rfl
  rw[List.length_nil]at hn
  erw[wG hn]
  exact bK _ _
 refine wrap_eq rfl ?_ rfl
 rw[show A.bY [Sh.e 11 B6,Sh.e 11 B6] [sl 11 aM l,sl 11 aM l]=[sl 11 aM l,sl 11 aM l]from bH (gR (fun _=>rfl) _) (bH (gR (fun _=>rfl) _) kE)]
 show I2 (sl 11 aM l) (sl 11 aM l) σ=_
 unfold I2
 rw[key,Option.bind_some]
 exact bK _ _
def vn (au:List bO) (st:aA→Option bJ) (k:aA) (d:Int):Int:=match st k with
 |some e=>(Ao au k e.value).1
 |none=>d
def Xv (au:List bO) (st:aA→Option bJ) (u:bX) (x:dI):bW:=⟨⟨u.number,x.name⟩,vn au st ⟨u.number,x.name⟩ x.default⟩
def Gb (gC:List bV) (au:List bO) (st:aA→Option bJ) (u:bX):List bW:=(eP u.profile gC).1.params.map (Xv au st u)
def yE (r:bu) (au:List bO) (st:aA→Option bJ):List bW:=r.units.flatMap (Gb r.bz au st)
theorem UJ (gC:List bV):∀(l pre:List bX),xJ gC pre l=0→∀u∈l,(eP u.profile gC).2=true
 |[],pre,h,u,hu=>by simp at hu
 |v::l,pre,h,u,hu=>by
  rw[xJ]at h
  split at h
  ·simp at h
  split at h
  ·simp at h
  split at h
  ·simp at h
  rename_i h3
  split at h
  ·simp at h
  split at h
  ·simp at h
  simp only[List.mem_cons]at hu
  rcases hu with rfl|hu
  ·simpa using h3
  ·exact UJ gC l _ h u hu
theorem U8 {r:bu} (h:dO r=0):∀u∈r.units,(eP u.profile r.bz).2=true:=by
 unfold dO at h
 split at h
 ·split at h
  ·simp at h
  ·exact UJ _ _ _ h
 ·rename_i h2;exact absurd h h2
theorem T6 (size:Int):∀(l pre:List dI),uS size pre l=0→(∀x∈l,fu x.name (pre.map (·.name))=false)∧(l.map (·.name)).Nodup
 |[],pre,h=>⟨by simp,by simp⟩
 |x::l,pre,h=>by
  rw[uS]at h
  split at h
  ·simp at h
  split at h
  ·simp at h
  rename_i h2
  split at h
  ·simp at h
  split at h
  ·simp at h
  split at h
  ·simp at h
  split at h
  case isFalse=>rename_i h6;exact absurd h h6
  obtain⟨q1,q2⟩:=T6 size l _ h
  refine⟨fun y hy=>?_,?_⟩
  ·simp only[List.mem_cons]at hy
   rcases hy with rfl|hy
   ·simpa using h2
   ·have:=q1 y hy
    cases hc:fu y.name (pre.map (·.name))
    ·rfl
    ·rw[BJ]at hc
     have h3:fu y.name ((pre++[x]).map (·.name))=true:=BJ.2 (by rw[List.map_append];exact List.mem_append.2 (.inl hc))
     rw[this]at h3;cases h3
  ·rw[List.map_cons,List.nodup_cons]
   refine⟨fun hx=>?_,q2⟩
   obtain⟨y,hy,e⟩:=List.mem_map.1 hx
   have:=q1 y hy
   have h3:fu y.name ((pre++[x]).map (·.name))=true:=BJ.2 (by rw[List.map_append];exact List.mem_append.2 (.inr (by simp [e])))
   rw[this]at h3;cases h3
theorem OK {α β:Type} [DecidableEq β] (f:α→β):∀(l:List α),(l.map f).Nodup→∀x∈l,l.find? (fun y=>decide (f y=f x))=some x
 |[],_,x,hx=>by simp at hx
 |z::l,h,x,hx=>by
  rw[List.map_cons,List.nodup_cons]at h
  rw[List.find?_cons]
  by_cases e:f z=f x
  ·rw[decide_eq_true e]
   simp only[List.mem_cons]at hx
   rcases hx with rfl|hx
   ·rfl
   ·exact absurd (List.mem_map.2 ⟨x,hx,e.symm⟩) h.1
  ·rw[decide_eq_false e]
   simp only[List.mem_cons]at hx
   rcases hx with rfl|hx
   ·exact absurd rfl e
   ·exact OK f l h.2 x hx
theorem ady {r:bu} (h:dO r=0) (nm:ByteArray):((eP nm r.bz).1.params.map (·.name)).Nodup:=by
 rw[vg]
 cases hf:r.bz.find? (fun x:bV=>decide (x.name=nm))with
 |none=>exact List.nodup_nil
 |some p=>
  have:=NZ (O1 h) p (List.mem_of_find?_eq_some hf)
  unfold mW at this
  repeat' split at this
  all_goals first|(simp at this;done)|exact(T6 _ _ _ this).2
theorem N5 {r:bu} (h:dO r=0) {u:bX} (hu:u∈r.units) {x:dI} (hx:x∈(eP u.profile r.bz).1.params):jB r ⟨u.number,x.name⟩=(x,true):=by
 unfold jB
 have hs:(r.units.map (·.number)).Nodup:=(DB h).imp fun q=>by omega
 have h1:r.units.find? (fun v=>decide (v.number=(⟨u.number,x.name⟩:aA).unit))=some u:=OK (·.number) r.units hs u hu
 rw[h1,Option.elim_some]
 unfold tC
 have h2:(eP u.profile r.bz).1.params.find? (fun y=>decide (y.name=(⟨u.number,x.name⟩:aA).param))=some x:=OK (·.name) _ (ady h _) x hx
 rw[h2,Option.elim_some]
theorem Nt {r:bu} (h:dO r=0) (au:List bO) (st:aA→Option bJ):(jI r).map (fun k=>(⟨k,vn au st k (jB r k).1.default⟩:bW))=yE r au st:=by
 unfold jI yE
 rw[List.map_flatMap]
 have key:∀(l:List bX),(∀u∈l,u∈r.units)→(l.flatMap fun a=>(lz r.bz a).map fun k=>(⟨k,vn au st k (jB r k).1.default⟩:bW))=l.flatMap (Gb r.bz au st):=by
  intro l
  induction l with
  |nil=>intro _;rfl
  |cons u l ih=>
   intro hl
   rw[List.flatMap_cons,List.flatMap_cons,ih fun v hv=>hl v (by simp [hv])]
   congr 1
   unfold lz Gb
   rw[List.map_map]
   refine List.map_congr_left fun x hx=>?_
   show(⟨⟨u.number,x.name⟩,_⟩:bW)=_
   rw[N5 h (hl u (by simp)) hx]
   rfl
 exact key r.units fun u hu=>hu
theorem foldl_push {α β:Type} (f:α→β):∀(l:List α) (s:List β),l.foldl (fun s x=>s++[f x]) s=s++l.map f
 |[],s=>by simp
 |x::l,s=>by rw[List.foldl_cons,foldl_push f l];simp
theorem NY {α β:Type} (f:α→List β):∀(l:List α) (s:List β),l.foldl (fun s x=>s++f x) s=s++l.flatMap f
 |[],s=>by simp
 |x::l,s=>by rw[List.foldl_cons,NY f l];simp
theorem agT {r:bu} (hr:fU r) (h:dO r=0) {au:List bO} (hp:cH mV au) (st:List (aA×bJ)):Fu r au st=some (yE r au fun k=>cr k st):=by
 unfold Fu
 have hu:=uC h
 rw[yy (g:=fun s u=>s++Gb r.bz au (fun k=>cr k st) u) (P:=fun i s=>s.length≤i*40) hr.2.1 (by simp) ?_ ?_]
 ·show some (List.foldl _ [] r.units)=_
  rw[NY];rfl
 ·intro i u s hi hs
  have:=Bz h u.profile
  rw[List.length_append,Nat.succ_mul]
  unfold Gb
  rw[List.length_map];omega
 ·intro i u s hi hs
  have hil:=(List.getElem?_eq_some_iff.1 hi).1
  have B4:=U8 h u (List.mem_of_getElem? hi)
  have hpl:=Bz h u.profile
  have RS:((tq (r.bz.length≤aY) (kN (fun x=>decide (x.name=u.profile)) r.bz)).bind fun dG=>kf r.bz dG)=some (eP u.profile r.bz).1:=by
   rw[qH hr.1.1,Option.bind_some]
   rw[vg]at B4 ⊢
   rcases wO (fun x:bV=>decide (x.name=u.profile)) r.bz with⟨_,_,h3⟩|⟨k,x,h1,h2,h3,h4,_⟩
   ·rw[h3]at B4;simp at B4
   ·rw[h3,h4,yG (x:=x) (by omega) (by simpa using h1)]
  rw[←Option.bind_assoc,RS,Option.bind_some]
  have hs':i*40≤16000:=by omega
  rw[yy (g:=fun s x=>s++[Xv au (fun k=>cr k st) u x]) (P:=fun j s=>s.length≤16000+j) (by unfold aY;omega) (by omega) (fun j x s _ hq=>by rw[List.length_append,List.length_singleton];omega) ?_]
  ·rw[Option.bind_some,foldl_push];rfl
  intro j x s hj hq
  have hjl:=(List.getElem?_eq_some_iff.1 hj).1
  have e1:(if(cr (⟨u.number,x.name⟩:aA) st).isSome=true then(Ab au (⟨u.number,x.name⟩:aA) (((cr (⟨u.number,x.name⟩:aA) st).getD (⟨(⟨0,(⟨#[]⟩:ByteArray)⟩:aA),(⟨0,0⟩:iG),0⟩:bJ)).value)).bind fun jN=>some jN.1 else some x.default)=some (vn au (fun k=>cr k st) ⟨u.number,x.name⟩ x.default):=by
   unfold vn
   cases hf:cr (⟨u.number,x.name⟩:aA) st with
   |none=>simp [hf]
   |some e=>simp [hf,Ws au hp]
  show((if(cr (⟨u.number,x.name⟩:aA) st).isSome=true then _ else _):Option Int).bind _=_
  rw[e1,Option.bind_some,if_pos (by simp;omega)]
  rfl
theorem aea {l:List bV} (hl:l.length≤aY) (nm:ByteArray):Dv l nm=some (eP nm l):=by
 unfold Dv
 rw[DN (p:=fun p=>decide (p.name=nm)) (r:=fun p=>(p,true)) hl (by intro i x _;simp only[decide_eq_true_eq,BH]),vg]
 cases l.find? fun p=>decide (p.name=nm)<;>rfl
theorem afe {r:bu} (hr:fU r) (h:dO r=0):DD r=some (jI r):=by
 unfold DD
 have hu:=uC h
 rw[yy (g:=fun s u=>s++lz r.bz u) (P:=fun i s=>s.length≤i*40) hr.2.1 (by simp) ?_ ?_]
 ·show some (List.foldl _ [] r.units)=_
  rw[NY];rfl
 ·intro i u s hi hs
  have:=Bz h u.profile
  rw[List.length_append,Nat.succ_mul]
  unfold lz
  rw[List.length_map];omega
 ·intro i u s hi hs
  have hil:=(List.getElem?_eq_some_iff.1 hi).1
  have hpl:=Bz h u.profile
  rw[aea hr.1.1,Option.bind_some]
  have hs':i*40≤16000:=by omega
  rw[yy (g:=fun s x=>s++[(⟨u.number,x.name⟩:aA)]) (P:=fun j s=>s.length≤16000+j) (by unfold aY;omega) (by omega) (fun j x s _ hq=>by rw[List.length_append,List.length_singleton];omega) ?_]
  ·rw[Option.bind_some,foldl_push (fun x:dI=>(⟨u.number,x.name⟩:aA))];rfl
  intro j x s hj hq
  have hjl:=(List.getElem?_eq_some_iff.1 hj).1
  rw[if_pos (by simp;omega)]
theorem afI {r:bu} (hr:fU r) (h:dO r=0) {au:List bO} (hp:cH mV au) {st:List bJ} (hs:oI st) (hl:st.length<4611686018427387904):FB r au st=some (yE r au (nS st)):=by
 unfold FB
 have rj:=FU h
 rw[afe hr h,Option.bind_some]
 rw[yy (g:=fun s k=>s++[(⟨k,vn au (nS st) k (jB r k).1.default⟩:bW)]) (P:=fun j s=>s.length≤j) (by unfold aY;omega) (by simp) (fun j x s _ hq=>by rw[List.length_append,List.length_singleton];omega) ?_]
 ·show some (List.foldl _ [] (jI r))=_
  rw[foldl_push (fun k=>(⟨k,vn au (nS st) k (jB r k).1.default⟩:bW)),←Nt h];rfl
 intro j k s hj hq
 have hjl:=(List.getElem?_eq_some_iff.1 hj).1
 rw[qH hr,Option.bind_some,V5 hs hl,Option.bind_some]
 have e1:(if sG st k=true then(kf st (iT st k:Int)).bind fun bw=>(Ah au k bw.value).bind fun dG=>some dG.1 else some (jB r k).1.default)=some (vn au (nS st) k (jB r k).1.default):=by
  unfold vn
  cases hh:sG st k
  ·rw[if_neg (by decide),ah4 hh]
  ·obtain⟨e,g1,g2⟩:=agV hs hh
   rw[if_pos rfl,yG (x:=e) (by omega) (by simpa using g1),Option.bind_some,Vw au hp,g2];rfl
 show((if sG st k=true then _ else _):Option Int).bind _=_
 rw[e1,Option.bind_some,if_pos (by simp;omega)]
def fP (r:bu) (k:aA):Int:=(jB r k).1.group
def nR (L:List bW) (k:aA):Int:=match L.find? fun s=>decide (s.key=k)with
 |some s=>s.level
 |none=>0
def EB (r:bu) (au:List bO) (st:aA→Option bJ) (k:aA):Int:=vn au st k (jB r k).1.default
def eE (r:bu) (au:List bO) (l:List aO) (i:Nat):List bW:=yE r au (nS (oW (l.take (i+1))))
def oA (r:bu) (u:Int):List aA:=(jI r).filter fun k=>decide (k.unit=u)&&decide (fP r k=1)
def KV (r:bu) (L:List bW) (u:Int):Bool:=!(oA r u).isEmpty&&!((oA r u).any fun k=>decide (0<nR L k))
def pE (r:bu) (c:aO) (u:Int):List aS:=c.aJ.filter fun m=>decide (m.key.unit=u)&&decide (¬(fP r m.key=1))
theorem JN {f:aA→Int} {k:aA}:∀{ks:List aA},k∈ks→nR (ks.map fun k=>⟨k,f k⟩) k=f k
 |[],h=>by simp at h
 |j::ks,h=>by
  unfold nR
  rw[List.map_cons,List.find?_cons]
  by_cases e:j=k
  ·subst e;simp
  ·rw[decide_eq_false e]
   simp only[List.mem_cons]at h
   exact JN (h.resolve_left fun q=>e q.symm)
theorem Uf {f:aA→Int} {k:aA}:∀{ks:List aA},¬k∈ks→nR (ks.map fun k=>⟨k,f k⟩) k=0
 |[],h=>rfl
 |j::ks,h=>by
  unfold nR
  rw[List.map_cons,List.find?_cons]
  simp only[List.mem_cons,not_or]at h
  rw[decide_eq_false (fun q=>h.1 q.symm)]
  exact Uf h.2
theorem Xw {r:bu} (h:dO r=0) (au:List bO) (st:aA→Option bJ):yE r au st=(jI r).map fun k=>⟨k,EB r au st k⟩:=(Nt h au st).symm
theorem aff {L:List bW} (hl:L.length≤aY) (k:aA):Fq L k 0=some (nR L k):=by
 unfold Fq nR
 rw[DN (p:=fun s=>decide (s.key=k)) (r:=fun s=>s.level) hl (by intro i x _;simp only[decide_eq_true_eq,BH])]
 cases L.find? fun s=>decide (s.key=k)<;>rfl
theorem OE {x a b:Int} (h:aU x a b=true):a≤x:=by
 unfold aU at h
 simp at h;omega
theorem Wu {α:Type} {f:Nat→α→Int} {l:List α} (h:i6 f l 0=0) {x:α} (hx:x∈l):∃i,l[i]? =some x∧f i x=0:=by
 obtain⟨i,hi⟩:=List.mem_iff_getElem?.1 hx
 have:=(JI l 0).1 h i x hi
 rw[Nat.zero_add]at this
 exact⟨i,hi,this⟩
theorem aiG {r:bu} {au:List bO} (h:oV r au=0) {p:bO} (hp:p∈au) {s:bW} (hs:s∈p.iY):0≤s.level:=by
 unfold oV at h
 by_cases h0:dO r=0
 case neg=>rw[if_pos h0]at h;exact absurd h h0
 rw[if_neg (by simp [h0])]at h
 split at h
 ·cases h
 obtain⟨i,_,hi⟩:=Wu h hp
 unfold D8 at hi
 split at hi
 ·cases hi
 split at hi
 ·cases hi
 split at hi
 ·cases hi
 split at hi
 ·cases hi
 obtain⟨j,_,hj⟩:=Wu hi hs
 unfold Em at hj
 split at hj
 ·cases hj
 split at hj
 ·cases hj
 rename_i h2
 exact OE (by simpa using h2)
theorem aeu {r:bu} {au:List bO} (h:oV r au=0) (k:aA) (v:iG):0≤(Ao au k v).1:=by
 unfold Ao
 split
 ·exact Int.le_refl 0
 split
 ·exact Int.le_refl 0
 rename_i h2
 split
 ·exact OE (by simpa using h2)
 split
 ·exact Int.le_refl 0
 rename_i p hp
 split
 ·exact Int.le_refl 0
 rename_i s hs
 exact aiG h (List.mem_of_find?_eq_some hp) (List.mem_of_find?_eq_some hs)
theorem VE (size:Int):∀(l pre:List dI),uS size pre l=0→∀x∈l,0≤x.default
 |[],pre,h,x,hx=>by simp at hx
 |y::l,pre,h,x,hx=>by
  rw[uS]at h
  split at h
  ·simp at h
  split at h
  ·simp at h
  split at h
  ·simp at h
  split at h
  ·simp at h
  rename_i h4
  split at h
  ·simp at h
  split at h
  case isFalse=>rename_i h6;exact absurd h h6
  simp only[List.mem_cons]at hx
  rcases hx with rfl|hx
  ·have:aU x.default 0 65535=true:=by
    cases q:aU x.default 0 65535
    ·exact absurd (.inr (.inr q)) h4
    ·rfl
   exact OE this
  ·exact VE size l _ h x hx
theorem ael {r:bu} (h:dO r=0) (k:aA):0≤(jB r k).1.default:=by
 unfold jB
 cases r.units.find? fun u=>decide (u.number=k.unit)with
 |none=>exact Int.le_refl 0
 |some u=>
  rw[Option.elim_some]
  unfold tC
  cases hf:(eP u.profile r.bz).1.params.find? fun x=>decide (x.name=k.param)with
  |none=>exact Int.le_refl 0
  |some x=>
   rw[Option.elim_some]
   have hx:=List.mem_of_find?_eq_some hf
   rw[vg]at hx
   cases hq:r.bz.find? (fun x:bV=>decide (x.name=u.profile))with
   |none=>rw[hq]at hx;simp at hx
   |some p=>
    rw[hq]at hx
    have:=NZ (O1 h) p (List.mem_of_find?_eq_some hq)
    unfold mW at this
    repeat' split at this
    all_goals first|(simp at this;done)|exact VE _ _ _ this x hx
theorem ah3 {r:bu} (h:dO r=0) {au:List bO} (hp:oV r au=0) (st:aA→Option bJ) (k:aA):0≤EB r au st k:=by
 unfold EB vn
 split
 ·exact aeu hp _ _
 ·exact ael h k
def xE (r:bu) (u:Int):List bW→Bool→Bool
 |[],any=>any
 |s::L,any=>if(decide (¬(s.key.unit=u))||decide (¬(fP r s.key=1)))=true then xE r u L any else if ¬(s.level=0)then false else xE r u L true
theorem ahD {r:bu} (hr:fU r) {L:List bW} (hl:L.length≤aY) (u:Int):FO r L u=some (xE r u L false):=by
 unfold FO
 rw[BL hl]
 have key:∀(rest:List bW) (i:Nat) (s:Bool),kM (fun(i8:Nat) e7 (s1:Bool)=>(show Option (Lr Bool Bool Unit)from
   (tq (fU r) (jB r e7.key)).bind fun r9=>
   if((decide (¬(e7.key.unit=u)))||(decide (¬(r9.1.group=1))))=true then
    some (.go s1)
   else
   if ¬(e7.level=0)then
    some (.ret ())
   else
   some (.go true))) (fun s1=>some s1) rest i s=some (.inl (xE r u rest s))∨(kM (fun(i8:Nat) e7 (s1:Bool)=>(show Option (Lr Bool Bool Unit)from
   (tq (fU r) (jB r e7.key)).bind fun r9=>
   if((decide (¬(e7.key.unit=u)))||(decide (¬(r9.1.group=1))))=true then
    some (.go s1)
   else
   if ¬(e7.level=0)then
    some (.ret ())
   else
   some (.go true))) (fun s1=>some s1) rest i s=some (.inr ())∧xE r u rest s=false):=by
  intro rest
  induction rest with
  |nil=>intro i s;exact .inl rfl
  |cons x rest ih=>
   intro i s
   rw[kM,xE,qH hr]
   simp only[Option.bind_some]
   unfold fP
   by_cases h1:(decide (¬(x.key.unit=u))||decide (¬((jB r x.key).1.group=1)))=true
   ·rw[if_pos h1,if_pos h1]
    exact ih (i+1) s
   ·rw[if_neg h1,if_neg h1]
    by_cases h2:x.level=0
    ·rw[if_neg (by simp [h2]),if_neg (by simp [h2])]
     exact ih (i+1) true
    ·rw[if_pos h2,if_pos h2]
     exact .inr ⟨rfl,rfl⟩
 rcases key L 0 false with h|⟨h,e⟩
 ·rw[h];rfl
 ·rw[h,e];rfl
theorem Og (r:bu) (u:Int) (f:aA→Int):∀(ks:List aA) (any:Bool),xE r u (ks.map fun k=>⟨k,f k⟩) any=(if((ks.filter fun k=>decide (k.unit=u)&&decide (fP r k=1)).any fun k=>decide (¬(f k=0)))=true then false else any||!(ks.filter fun k=>decide (k.unit=u)&&decide (fP r k=1)).isEmpty)
 |[],any=>by simp [xE]
 |k::ks,any=>by
  rw[List.map_cons,xE]
  by_cases h1:k.unit=u∧fP r k=1
  ·rw[List.filter_cons_of_pos (by simp [h1.1,h1.2]),if_neg (by simp [h1.1,h1.2])]
   by_cases h3:f k=0
   ·rw[if_neg (by simp [h3]),Og r u f ks]
    simp [h3]
   ·rw[if_pos h3]
    simp [h3]
  ·have hb:¬(decide (k.unit=u)&&decide (fP r k=1))=true:=fun q=>h1 (by simpa using q)
   have hb2:(decide (¬(k.unit=u))||decide (¬(fP r k=1)))=true:=by
    by_cases a:k.unit=u
    ·have:¬fP r k=1:=fun q=>h1 ⟨a,q⟩
     simp [a,this]
    ·simp [a]
   rw[List.filter_cons_of_neg (p:=fun k=>decide (k.unit=u)&&decide (fP r k=1)) hb,if_pos hb2,Og r u f ks]
theorem afr {r:bu} (h:dO r=0) {au:List bO} (hp:oV r au=0) (st:aA→Option bJ) (u:Int):xE r u (yE r au st) false=KV r (yE r au st) u:=by
 rw[Xw h,Og]
 unfold KV oA
 have e:((jI r).filter fun k=>decide (k.unit=u)&&decide (fP r k=1)).any (fun k=>decide (¬(EB r au st k=0)))=((jI r).filter fun k=>decide (k.unit=u)&&decide (fP r k=1)).any fun k=>decide (0<nR ((jI r).map fun k=>⟨k,EB r au st k⟩) k):=by
  rw[Bool.eq_iff_iff,List.any_eq_true,List.any_eq_true]
  constructor
  ·rintro⟨k,hk,hf⟩
   refine⟨k,hk,?_⟩
   rw[JN (List.mem_filter.1 hk).1]
   have:=ah3 h hp st k
   have hf:=of_decide_eq_true hf
   exact decide_eq_true (by omega)
  ·rintro⟨k,hk,hf⟩
   refine⟨k,hk,?_⟩
   rw[JN (List.mem_filter.1 hk).1]at hf
   have hf:=of_decide_eq_true hf
   exact decide_eq_true (by omega)
 rw[e,Bool.false_or]
 cases(((jI r).filter fun k=>decide (k.unit=u)&&decide (fP r k=1)).any fun k=>decide (0<nR ((jI r).map fun k=>⟨k,EB r au st k⟩) k))<;>simp
def pH (dk:Nat→Bool) (tn:Nat→List aS):Nat→Nat
 |0=>0
 |j+1=>if(dk j&&(tn (j+1)).isEmpty)=true then pH dk tn j else j+1
def kO (dk:Nat→Int→Bool) (tn:Nat→Int→List aS) (ch:Nat→aA→Bool) (l:List aO) (i:Nat) (u:bX):List jk:=
 if(!dk (i-1) u.number||dk i u.number)=true then[]else if(!(tn i u.number).any fun m=>ch i m.key)=true then[]else
  [⟨u.number,((l[pH (fun j=>dk j u.number) (fun j=>tn j u.number) (i-1)]?).map (·.number)).getD 0,((l[i]?).map (·.number)).getD 0⟩]
def td (dk:Nat→Int→Bool) (tn:Nat→Int→List aS) (ch:Nat→aA→Bool) (us:List bX) (l:List aO) (n:Nat):List jk:=(List.range n).flatMap fun i=>us.flatMap (kO dk tn ch l (i+1))
def cG (r:bu) (au:List bO) (l:List aO) (i:Nat) (u:Int):Bool:=KV r (eE r au l i) u
def dA (r:bu) (l:List aO) (i:Nat) (u:Int):List aS:=match l[i]? with
 |some c=>pE r c u
 |none=>[]
def gn (r:bu) (au:List bO) (l:List aO) (i:Nat) (k:aA):Bool:=decide (¬(nR (eE r au l (i-1)) k=nR (eE r au l i) k))
def ji (r:bu) (au:List bO) (l:List aO):List jk:=td (cG r au l) (dA r l) (gn r au l) r.units l (l.length-1)
section
open HP Go.Sort
section
variable {ay σ : Heap} {R : HP}
theorem FV {α:Type} {c:α→List U} {sz:Nat} {cB:List Sh} {r:List U→Heap→Option (U×Heap)} {uW ts:List U} {l:List α} (hc:∀x,jD (c x)) (h:EF σ cB uW ts) (e:KS (A.wrap true cB .k r) ts c sz l):A.ij (.s sz) (A.wrap true cB .k r) uW σ=some (sl sz c l,σ):=by
 obtain⟨v,σ',e1,K⟩:=Ym (B:=aX) (fun _ _=>trivial) h e (AB σ)
 obtain⟨v',e2,e3⟩:=Pm hc K
 unfold A.ij
 rw[e1,Option.bind_some]
 simp only
 rw[e2,Option.map_some]
 simp only
 rw[e3]
end
end
section
open HP
theorem jP {r:bu} {au:List bO} {l:List aO} (h:jT r au l=0):dO r=0∧lV l=0:=by
 unfold jT at h
 by_cases h0:oV r au=0
 case neg=>rw[if_pos h0]at h;exact absurd h h0
 rw[if_neg (by simp [h0])]at h
 by_cases h1:lV l=0
 case neg=>rw[if_pos h1]at h;exact absurd h h1
 exact⟨Tu h0,h1⟩
theorem BX (r:bu) (au:List bO) (l:List aO) (cS:List U):A.bY [lJ,qL,(.e 11 eZ)] (.agg (aP r)::sl 3 eB au::sl 11 aM l::cS)=.agg (aP r)::sl 3 eB au::sl 11 aM l::cS:=
 bH (oH (bH (gR (fun _=>(bH rfl (bH rfl (bH (gR (fun _=>rfl) _) kE)))) _) (bH rfl kE))) (bH (gR (fun _=>rfl) _) (bH (gR (fun _=>rfl) _) rfl))
theorem adt {r:bu} (h:dO r=0) (au:List bO) (st:aA→Option bJ):(yE r au st).length≤16000:=by
 rw[←Nt h,List.length_map];exact FU h
end
section
open HP
def jU (L:List bW):List U:=[sl 3 dc L]
theorem WM {f:List U→Heap→Option LS} {Q:LS→Prop} (I:Nat→List U→Heap→Prop) (hstep:∀n v σ,I n v σ→(∃m v' σ',m<n∧f v σ=some (.normal,v',σ')∧I m v' σ')∨∃q,f v σ=some q∧q.1≠.normal∧Q q) {n:Nat} {v0:List U} {σ:Heap} (h0:I n v0 σ):∃q,A.loop f v0 σ=some q∧Q q:=by
 have key:∀(k n:Nat) v σ,n≤k→I n v σ→∃q,(∃m,A.iter f m v σ=some q)∧Q q:=by
  intro k
  induction k with
  |zero=>
   intro n v σ hn hI
   rcases hstep n v σ hI with⟨m,_,_,hm,_⟩|⟨q,h1,h2,h3⟩
   ·omega
   ·exact⟨q,qC h1 h2,h3⟩
  |succ k ih=>
   intro n v σ hn hI
   rcases hstep n v σ hI with⟨m,v',σ',hm,h1,h2⟩|⟨q,h1,h2,h3⟩
   ·obtain⟨q,hq,hQ⟩:=ih m v' σ' (by omega) h2
    exact⟨q,wS h1 hq,hQ⟩
   ·exact⟨q,qC h1 h2,h3⟩
 obtain⟨q,⟨m,hm⟩,hQ⟩:=key n n v0 σ (Nat.le_refl _) h0
 exact⟨q,wG hm,hQ⟩
theorem U6 {r:bu} (hr:fU r) {c:aO} (hc:c.aJ.length≤900000) (u:Int):KS sv [.agg (aP r),.agg (aM c),.int .i64 u] aF 8 (pE r c u):=by
 intro ay σ R H
 have run:∃q:U×Heap,Jp (.agg (aP r)) (.agg (aM c)) (.int .i64 u) σ=some q∧Hs jr ay q.2 (Sl (fl aF) 8 q.1 (pE r c u)*R):=by
  unfold Jp pE
  rw[show A.cells 2 (.agg (aP r))=some (aP r)from rfl,Option.bind_some,show A.cells 11 (.agg (aM c))=some (aM c)from rfl,Option.bind_some,show A.an 10 (aM c)=some (sl 8 aF c.aJ)from rfl,Option.bind_some,cu,Option.bind_some]
  refine mj (Q:=fun q=>∃h w,q.1=.exit 0∧q.2.1=[.lbx (aP r),h,w]∧Hs jr ay q.2.2 (Sl (fl aF) 8 h (c.aJ.filter fun m=>decide (m.key.unit=u)&&decide (¬(fP r m.key=1)))*R)) (mY c.aJ (fun i v s=>∃h,v=[.lbx (aP r),h,.int .i64 (i:Int)]∧Hs jr ay s (Sl (fl aF) 8 h ((c.aJ.take i).filter fun m=>decide (m.key.unit=u)&&decide (¬(fP r m.key=1)))*R)) ?_ ?_ ⟨.aH,rfl,qx H (.inl rfl)⟩) ?_
  ·rintro i m w s hx ⟨h,rfl,K⟩
   have hi:=(List.getElem?_eq_some_iff.1 hx).1
   simp only[List.getD_cons_zero,List.getD_cons_succ]
   rw[eR hx,Option.bind_some,fO,dR hx,Option.bind_some]
   simp only[A.deref,Option.bind_some]
   rw[show A.az 0 8 (aF m)=some (.agg (aF m))from rfl,Option.bind_some,show A.cells 8 (.agg (aF m))=some (aF m)from rfl,Option.bind_some,sx m _ rfl,Option.bind_some,show((A.lb (.lbx (aP r))).bind fun gh=>A.az 0 2 gh)=some (.agg (aP r))from rfl,Option.bind_some,show A.az 0 2 (aF m)=some (.agg (aK m.key))from rfl,Option.bind_some,
    Fv r hr m.key s,Option.bind_some,uT,Option.bind_some,ext1,Option.bind_some,show A.cells 7 (.agg (cm (jB r m.key).1))=some (cm (jB r m.key).1)from rfl,Option.bind_some,kD _ _ rfl,Option.bind_some,show A.an 0 (aF m)=some (.int .i64 m.key.unit)from rfl,Option.bind_some,l5,Option.bind_some]
   have hg:A.an 1 (cm (jB r m.key).1)=some (.int .i64 (fP r m.key)):=rfl
   rw[hg]
   have Gk:∀(K:U→Option LS),((A.guard (.bool (decide (m.key.unit=u))) true (some (.int .i64 (fP r m.key))) aj).bind fun x24=>
    (A.guard (.bool (decide (m.key.unit=u))) true (A.neq .i x24 aI) aj).bind fun x25=>
    (A.pick (.bool (decide (m.key.unit=u))) x25 aD).bind K)=K (.bool (decide (m.key.unit=u)&&decide (¬(fP r m.key=1)))):=by
    intro K
    cases decide (m.key.unit=u)
    ·simp only[Cd,sQ,Option.bind_some,Bool.false_and]
    ·simp only[CI,Option.bind_some]
     rw[gB]
     simp only[CI,sR,Option.bind_some,Bool.true_and]
   rw[Gk]
   have e:(c.aJ.take (i+1)).filter (fun m=>decide (m.key.unit=u)&&decide (¬(fP r m.key=1)))=(c.aJ.take i).filter (fun m=>decide (m.key.unit=u)&&decide (¬(fP r m.key=1)))++if(decide (m.key.unit=u)&&decide (¬(fP r m.key=1)))=true then[m]else[]:=by
    rw[List.take_add_one,hx,Option.toList_some,List.filter_append,List.filter_cons,List.filter_nil]
   cases hh:(decide (m.key.unit=u)&&decide (¬(fP r m.key=1)))
   ·rw[hh]at e
    rw[eC,Option.bind_some]
    simp only[List.getD_cons_zero,List.getD_cons_succ]
    rw[dB hx (by unfold aY;omega),Option.bind_some]
    refine⟨_,_,rfl,h,rfl,?_⟩
    rw[e]
    simpa using K
   ·rw[hh]at e
    rw[fO,show A.az 0 8 (aF m)=some (.agg (aF m))from rfl,Option.bind_some,F0,Option.bind_some]
    have hfl:=List.length_filter_le (fun m:aS=>decide (m.key.unit=u)&&decide (¬(fP r m.key=1))) (c.aJ.take i)
    obtain⟨h',s',e1,K2⟩:=QE m (by rw[List.length_take]at hfl;omega) (Pn T3 [m]) K
    rw[e1,Option.bind_some,Option.bind_some]
    simp only[List.getD_cons_zero,List.getD_cons_succ]
    rw[dB hx (by unfold aY;omega),Option.bind_some]
    refine⟨_,_,rfl,h',rfl,?_⟩
    rw[e,if_pos rfl]
    exact K2
  ·rintro w s ⟨h,rfl,K⟩
   simp only[List.getD_cons_zero,List.getD_cons_succ]
   rw[eO,Option.bind_some,eC]
   refine⟨_,rfl,by simp,h,_,rfl,rfl,?_⟩
   rw[List.take_length]at K;exact K
  ·rintro⟨e,w,s⟩ ⟨h,w',h1,h2,K⟩
   simp only at h1 h2 K
   subst h1;subst h2
   exact⟨_,rfl,K⟩
 obtain⟨⟨v,σ'⟩,h1,h2⟩:=run
 refine⟨v,σ',wrap_eq rfl ?_ (jK _),h2⟩
 rw[show A.bY [lJ,(.a eZ)] [.agg (aP r),.agg (aM c),.int .i64 u]=[.agg (aP r),.agg (aM c),.int .i64 u]from bH (oH (bH (gR (fun _=>(bH rfl (bH rfl (bH (gR (fun _=>rfl) _) kE)))) _) (bH rfl kE))) (bH (oH rfl) rfl)]
 exact h1
theorem adx {r:bu} (hr:fU r) {c:aO} (hc:c.aJ.length≤900000) (u:Int) (σ:Heap):A.quiet ((A.ij (.s 8) sv) [.agg (aP r),.agg (aM c),.int .i64 u] σ) σ=some (sl 8 aF (pE r c u)):=
 quiet_of (FV (σ:=σ) Ai (cB:=[lJ,(.a eZ)]) (uW:=[.agg (aP r),.agg (aM c),.int .i64 u]) (ts:=[.agg (aP r),.agg (aM c),.int .i64 u]) ⟨uN (pY (WI _)) rfl,uN (pY (Ku _)) rfl,BW _,trivial⟩ (U6 hr hc u))
end
section
open HP
theorem gT (X d:Option U):A.guard (.bool true) true X d=X:=by have h:A.guard (.bool true) true X d=X:=rfl;exact h.trans (Eq.refl X)
theorem gF (X d:Option U):A.guard (.bool false) false X d=X:=by have h:A.guard (.bool false) false X d=X:=rfl;exact h.trans (Eq.refl X)
theorem Lz (X d:Option U):A.guard (.bool false) true X d=d:=by have h:A.guard (.bool false) true X d=d:=rfl;exact h.trans (Eq.refl d)
theorem RH (X d:Option U):A.guard (.bool true) false X d=d:=by have h:A.guard (.bool true) false X d=d:=rfl;exact h.trans (Eq.refl d)
theorem bS {α β:Type} (a:α) (f:α→Option β):(some a).bind f=f a:=by have h:(some a).bind f=f a:=rfl;exact h.trans (Eq.refl (f a))
theorem iw (cs:List U) (σ:Heap):A.deref (.rp cs) σ=some cs:=by have h:A.deref (.rp cs) σ=some cs:=rfl;exact h.trans (Eq.refl _)
section
variable {r : bu} {au : List bO} {l : List aO} (hr : fU r) (hp : cH mV au) (hl : cH lX l) (hz : jT r au l = 0)
theorem acn (h:jT r au l=0):oV r au=0:=by
 unfold jT at h
 by_cases h0:oV r au=0
 ·exact h0
 ·rw[if_pos h0]at h;exact absurd h h0
theorem OT (h:dO r=0) (i:Nat):(eE r au l i).length≤16000:=adt h au _
def tK (r:bu) (au:List bO) (l:List aO):List (List bW):=(List.range l.length).map (eE r au l)
theorem F2 {i:Nat} (hi:i<l.length):(tK r au l)[i]? =some (eE r au l i):=by
 unfold tK
 rw[List.getElem?_map,List.getElem?_range hi];rfl
include hr hz
theorem RE (i:Nat) (u:Int) (σ:Heap):A.quiet (tc [.agg (aP r),sl 3 dc (eE r au l i),.int .i64 u] σ) σ=some (.bool (cG r au l i u)):=by
 have dP:=(jP hz).1
 have:=quiet_of (afD (σ:=σ) (ahD hr (L:=eE r au l i) (by have:=OT (au:=au) (l:=l) dP i;unfold aY;omega) u))
 rw[this]
 unfold cG eE
 rw[afr dP (acn hz)]
theorem ZU {i:Nat} {c:aO} (hc:l[i]? =some c) (u:Int) (σ:Heap):A.quiet ((A.ij (.s 8) sv) [.agg (aP r),.agg (aM c),.int .i64 u] σ) σ=some (sl 8 aF (dA r l i u)):=by
 have hg:=pX (jP hz).2
 have:=(hg.mv c (List.mem_of_getElem? hc)).1
 rw[adx hr (by omega) u σ]
 unfold dA
 rw[hc]
omit hr hz
theorem ai3 {β:Type} (u:bX) (hall n:U) (gu:Heap) (K:U→Option β):
 ((A.guard aD true ((A.lb (U.lbx (aP r))).bind fun zz=>A.az 0 2 zz) aj).bind fun vM=>
             (A.guard aD true (some hall) aj).bind fun x101=>
             (A.guard aD true (some n) aj).bind fun x102=>
             (A.guard aD true (A.sub x102 aI) aj).bind fun tU=>
             (A.guard aD true (A.aN 1 x101 tU) aj).bind fun x104=>
             (A.guard aD true ((A.deref x104 gu).bind fun p6=>A.an 0 p6) aj).bind fun sL=>
             ((A.lb (U.lbx (bQ u))).bind fun _=>some (0)).bind fun zg=>
                          (A.guard aD true ((A.lb (U.lbx (bQ u))).bind fun yV=>A.an zg yV) aj).bind fun tV=>
             (A.guard aD true (A.quiet (tc [vM,sL,tV] gu) gu) aj).bind fun lI=>
             (A.pick aD lI aD).bind K)=K (.bool false):=by
 simp only[Cd,sQ,Option.bind_some,A.lb]
theorem Xn {β:Type} (u:bX) (n:U) (gu:Heap) (K:U→Option β):
 ((A.guard aD true ((A.lb (U.lbx (aP r))).bind fun yW=>A.az 0 2 yW) aj).bind fun x113=>
             (A.guard aD true (some (sl 11 aM l)) aj).bind fun x114=>
             (A.guard aD true (some n) aj).bind fun x115=>
             (A.guard aD true (A.aN 11 x114 x115) aj).bind fun vN=>
             (A.guard aD true ((A.deref vN gu).bind fun rE=>A.az 0 11 rE) aj).bind fun rK=>
             ((A.lb (U.lbx (bQ u))).bind fun _=>some (0)).bind fun zh=>
                          (A.guard aD true ((A.lb (U.lbx (bQ u))).bind fun yX=>A.an zh yX) aj).bind fun rM=>
             (A.guard aD true (A.quiet ((A.ij (.s 8) sv) [x113,rK,rM] gu) gu) aj).bind fun vO=>
             (A.guard aD true (A.aT vO) aj).bind fun vP=>
             (A.guard aD true (A.eql .i vP ah) aj).bind fun tW=>
             (A.pick aD tW aD).bind K)=K (.bool false):=by
 simp only[Cd,sQ,Option.bind_some,A.lb]
include hr hz
theorem ai4 {β:Type} {ay gu:Heap} {R:HP} (u:bX) {hall:U} {j:Nat} (hj:j<l.length) (H:Hs aX ay gu (Sl (fl jU) 1 hall (tK r au l)*R)) (K:U→Option β):
 ((A.guard br true ((A.lb (U.lbx (aP r))).bind fun zz=>A.az 0 2 zz) aj).bind fun vM=>
             (A.guard br true (some hall) aj).bind fun x101=>
             (A.guard br true (some (U.int .i64 ((j+1:Nat):Int))) aj).bind fun x102=>
             (A.guard br true (A.sub x102 aI) aj).bind fun tU=>
             (A.guard br true (A.aN 1 x101 tU) aj).bind fun x104=>
             (A.guard br true ((A.deref x104 gu).bind fun p6=>A.an 0 p6) aj).bind fun sL=>
             ((A.lb (U.lbx (bQ u))).bind fun _=>some (0)).bind fun zg=>
                          (A.guard br true ((A.lb (U.lbx (bQ u))).bind fun yV=>A.an zg yV) aj).bind fun tV=>
             (A.guard br true (A.quiet (tc [vM,sL,tV] gu) gu) aj).bind fun lI=>
             (A.pick br lI aD).bind K)=K (.bool (cG r au l j u.number)):=by
 have hg:=pX (jP hz).2
 have hlen:=hg.len
 obtain⟨p,e1,e2⟩:=Ej H (F2 hj)
 simp only[CI,Option.bind_some,A.lb]
 rw[show A.az 0 2 (aP r)=some (.agg (aP r))from rfl,Option.bind_some,uQ,Option.bind_some,wrap64 (by unfold aZ;omega),show(((j+1:Nat):Int) -1)=(j:Int) by omega,e1,Option.bind_some,e2,Option.bind_some,show A.an 0 (jU (eE r au l j))=some (sl 3 dc (eE r au l j))from rfl,Option.bind_some,show A.an 0 (bQ u)=some (.int .i64 u.number)from rfl,Option.bind_some,RE hr hz j u.number,Option.bind_some]
 simp only[sR,Option.bind_some]
theorem ai5 {β:Type} (u:bX) {j:Nat} {c:aO} (hc:l[j]? =some c) (gu:Heap) (K:U→Option β):
 ((A.guard br true ((A.lb (U.lbx (aP r))).bind fun yW=>A.az 0 2 yW) aj).bind fun x113=>
             (A.guard br true (some (sl 11 aM l)) aj).bind fun x114=>
             (A.guard br true (some (U.int .i64 (j:Int))) aj).bind fun x115=>
             (A.guard br true (A.aN 11 x114 x115) aj).bind fun vN=>
             (A.guard br true ((A.deref vN gu).bind fun rE=>A.az 0 11 rE) aj).bind fun rK=>
             ((A.lb (U.lbx (bQ u))).bind fun _=>some (0)).bind fun zh=>
                          (A.guard br true ((A.lb (U.lbx (bQ u))).bind fun yX=>A.an zh yX) aj).bind fun rM=>
             (A.guard br true (A.quiet ((A.ij (.s 8) sv) [x113,rK,rM] gu) gu) aj).bind fun vO=>
             (A.guard br true (A.aT vO) aj).bind fun vP=>
             (A.guard br true (A.eql .i vP ah) aj).bind fun tW=>
             (A.pick br tW aD).bind K)=K (.bool (dA r l j u.number).isEmpty):=by
 simp only[gT,bS,A.lb]
 rw[show A.az 0 2 (aP r)=some (.agg (aP r))from rfl,Option.bind_some,dR hc,Option.bind_some]
 simp only[A.deref,bS]
 rw[uJ,Option.bind_some,show A.an 0 (bQ u)=some (.int .i64 u.number)from rfl,Option.bind_some,ZU hr hz hc u.number,Option.bind_some,cu,Option.bind_some,l5,Option.bind_some]
 simp only[sR,bS]
 congr 2
 cases dA r l j u.number
 ·simp
 ·simp;omega
theorem aer {ay s:Heap} {R:HP} (u:bX) {hall:U} {n:Nat} (hn:n<l.length) (H:Hs aX ay s (Sl (fl jU) 1 hall (tK r au l)*R)):
 ∃ q, A.loop (fun fL gu =>
             (A.gtr (fL.getD 2 U.undef) ah).bind fun x98=>
             (A.guard x98 true ((A.lb (fL.getD 0 U.undef)).bind fun zz=>A.az 0 2 zz) aj).bind fun vM=>
             (A.guard x98 true (some hall) aj).bind fun x101=>
             (A.guard x98 true (some (fL.getD 2 U.undef)) aj).bind fun x102=>
             (A.guard x98 true (A.sub x102 aI) aj).bind fun tU=>
             (A.guard x98 true (A.aN 1 x101 tU) aj).bind fun x104=>
             (A.guard x98 true ((A.deref x104 gu).bind fun p6=>A.an 0 p6) aj).bind fun sL=>
             ((A.lb (fL.getD 1 U.undef)).bind fun _=>some (0)).bind fun zg=>
                          (A.guard x98 true ((A.lb (fL.getD 1 U.undef)).bind fun yV=>A.an zg yV) aj).bind fun tV=>
             (A.guard x98 true (A.quiet (tc [vM,sL,tV] gu) gu) aj).bind fun lI=>
             (A.pick x98 lI aD).bind fun iU=>
             (A.guard iU true ((A.lb (fL.getD 0 U.undef)).bind fun yW=>A.az 0 2 yW) aj).bind fun x113=>
             (A.guard iU true (some (sl 11 aM l)) aj).bind fun x114=>
             (A.guard iU true (some (fL.getD 2 U.undef)) aj).bind fun x115=>
             (A.guard iU true (A.aN 11 x114 x115) aj).bind fun vN=>
             (A.guard iU true ((A.deref vN gu).bind fun rE=>A.az 0 11 rE) aj).bind fun rK=>
             ((A.lb (fL.getD 1 U.undef)).bind fun _=>some (0)).bind fun zh=>
                          (A.guard iU true ((A.lb (fL.getD 1 U.undef)).bind fun yX=>A.an zh yX) aj).bind fun rM=>
             (A.guard iU true (A.quiet ((A.ij (.s 8) sv) [x113,rK,rM] gu) gu) aj).bind fun vO=>
             (A.guard iU true (A.aT vO) aj).bind fun vP=>
             (A.guard iU true (A.eql .i vP ah) aj).bind fun tW=>
             (A.pick iU tW aD).bind fun Cq=>
             A.cond Cq (
              (A.sub (fL.getD 2 U.undef) aI).bind fun GZ=>
              some (AX.normal,[(fL.getD 0 U.undef),(fL.getD 1 U.undef),GZ],gu)) (
              some (AX.exit 8,[(fL.getD 0 U.undef),(fL.getD 1 U.undef),(fL.getD 2 U.undef)],gu))) [.lbx (aP r),.lbx (bQ u),.int .i64 (n:Int)] s=some q∧q=(.exit 8,[.lbx (aP r),.lbx (bQ u),.int .i64 (pH (fun j=>cG r au l j u.number) (fun j=>dA r l j u.number) n:Nat)],s):=by
 have hg:=pX (jP hz).2
 have hlen:=hg.len
 refine WM (fun m v w=>v=[.lbx (aP r),.lbx (bQ u),.int .i64 (m:Int)]∧w=s∧m<l.length∧pH (fun j=>cG r au l j u.number) (fun j=>dA r l j u.number) m=pH (fun j=>cG r au l j u.number) (fun j=>dA r l j u.number) n) ?_ ⟨rfl,rfl,hn,rfl⟩
 rintro m v w ⟨rfl,rfl,hm,hF⟩
 simp only[List.getD_cons_zero,List.getD_cons_succ]
 rw[B7,Option.bind_some]
 cases m with
 |zero=>
  refine .inr ?_
  rw[decide_eq_false (by omega),ai3,Xn,eC]
  exact⟨_,rfl,by simp,by rw[←hF];rfl⟩
 |succ j=>
  rw[decide_eq_true (by omega),ai4 hr hz u (by omega) H]
  rw[pH]at hF
  cases hd:cG r au l j u.number
  ·refine .inr ?_
   rw[Xn,eC]
   rw[hd,Bool.false_and,if_neg (by decide)]at hF
   exact⟨_,rfl,by simp,by rw[←hF]⟩
  ·rw[ai5 hr hz u (List.getElem?_eq_getElem hm)]
   rw[hd,Bool.true_and]at hF
   cases ht:(dA r l (j+1) u.number).isEmpty
   ·refine .inr ?_
    rw[ht,if_neg (by decide)]at hF
    rw[eC]
    exact⟨_,rfl,by simp,by rw[←hF]⟩
   ·refine .inl ?_
    rw[ht,if_pos rfl]at hF
    rw[fO,uQ,Option.bind_some,wrap64 (by unfold aZ;omega),show(((j+1:Nat):Int) -1)=(j:Int) by omega]
    exact⟨j,_,_,Nat.lt_succ_self j,rfl,rfl,rfl,by omega,hF⟩
end
end
section
open HP
section
variable {r : bu} {au : List bO} {l : List aO} (hr : fU r) (hp : cH mV au) (hl : cH lX l) (hz : jT r au l = 0)
theorem Yn (dP:dO r=0) (i:Nat) (k:aA) (σ:Heap):A.quiet (sZ [sl 3 dc (eE r au l i),.agg (aK k),.int .i64 0] σ) σ=some (.int .i64 (nR (eE r au l i) k)):=
 quiet_of (acM (aff (by have:=OT (au:=au) (l:=l) dP i;unfold aY;omega) k))
theorem ajm {β:Type} (m:aS) (hall n:U) (eU:Heap) (K:U→Option β):
 ((A.guard br false (some hall) aj).bind fun kn=>
            (A.guard br false (some n) aj).bind fun gY=>
            (A.guard br false (A.sub gY aI) aj).bind fun gP=>
            (A.guard br false (A.aN 1 kn gP) aj).bind fun gI=>
            (A.guard br false ((A.deref gI eU).bind fun nA=>A.an 0 nA) aj).bind fun qA=>
            (A.guard br false (A.az 0 2 (aF m)) aj).bind fun lP=>
            (A.guard br false (A.quiet (sZ [qA,lP,ah] eU) eU) aj).bind fun sj=>
            (A.guard br false (some hall) aj).bind fun oR=>
            (A.guard br false (some n) aj).bind fun nD=>
            (A.guard br false (A.aN 1 oR nD) aj).bind fun nE=>
            (A.guard br false ((A.deref nE eU).bind fun ue=>A.an 0 ue) aj).bind fun qB=>
            (A.guard br false (A.az 0 2 (aF m)) aj).bind fun oS=>
            (A.guard br false (A.quiet (sZ [qB,oS,ah] eU) eU) aj).bind fun ko=>
            (A.guard br false (A.neq .i sj ko) aj).bind fun ve=>
            (A.pick br br ve).bind K)=K (.bool true):=by
 simp only[RH,sR,bS]
include hr hz
theorem ajl {β:Type} {ay eU:Heap} {R:HP} (m:aS) {hall:U} {i:Nat} (hi:i+1<l.length) (H:Hs aX ay eU (Sl (fl jU) 1 hall (tK r au l)*R)) (K:U→Option β):
 ((A.guard aD false (some hall) aj).bind fun kn=>
            (A.guard aD false (some (U.int .i64 ((i+1:Nat):Int))) aj).bind fun gY=>
            (A.guard aD false (A.sub gY aI) aj).bind fun gP=>
            (A.guard aD false (A.aN 1 kn gP) aj).bind fun gI=>
            (A.guard aD false ((A.deref gI eU).bind fun nA=>A.an 0 nA) aj).bind fun qA=>
            (A.guard aD false (A.az 0 2 (aF m)) aj).bind fun lP=>
            (A.guard aD false (A.quiet (sZ [qA,lP,ah] eU) eU) aj).bind fun sj=>
            (A.guard aD false (some hall) aj).bind fun oR=>
            (A.guard aD false (some (U.int .i64 ((i+1:Nat):Int))) aj).bind fun nD=>
            (A.guard aD false (A.aN 1 oR nD) aj).bind fun nE=>
            (A.guard aD false ((A.deref nE eU).bind fun ue=>A.an 0 ue) aj).bind fun qB=>
            (A.guard aD false (A.az 0 2 (aF m)) aj).bind fun oS=>
            (A.guard aD false (A.quiet (sZ [qB,oS,ah] eU) eU) aj).bind fun ko=>
            (A.guard aD false (A.neq .i sj ko) aj).bind fun ve=>
            (A.pick aD br ve).bind K)=K (.bool (gn r au l (i+1) m.key)):=by
 have hg:=pX (jP hz).2
 have hlen:=hg.len
 have dP:=(jP hz).1
 obtain⟨p,e1,e2⟩:=Ej H (F2 (r:=r) (au:=au) (show i<l.length by omega))
 obtain⟨p',e3,e4⟩:=Ej H (F2 (r:=r) (au:=au) hi)
 simp only[gF,bS]
 rw[uQ,bS,wrap64 (by unfold aZ;omega),show(((i+1:Nat):Int) -1)=(i:Int) by omega,e1,bS,e2,bS,show A.an 0 (jU (eE r au l i))=some (sl 3 dc (eE r au l i))from rfl,bS,show A.az 0 2 (aF m)=some (.agg (aK m.key))from rfl,bS,Yn dP,bS,e3,bS,e4,bS,show A.an 0 (jU (eE r au l (i+1)))=some (sl 3 dc (eE r au l (i+1)))from rfl,bS,bS,Yn dP,bS,gB,bS]
 simp only[sQ,bS]
 rfl
theorem afR {ay s:Heap} {R:HP} (u:bX) {T:List aS} (hT:T.length≤100000) {hall:U} {i:Nat} (hi:i+1<l.length) (H:Hs aX ay s (Sl (fl jU) 1 hall (tK r au l)*R)):
 ∃q,A.loop (fun v64 eU=>
           (A.lss (v64.getD 3 U.undef) (U.int .i64 (T.length:Int))).bind fun gX=>
           A.cond gX (
            (A.aN 8 (sl 8 aF T) (v64.getD 3 U.undef)).bind fun kj=>
            ((A.deref kj eU).bind fun zu=>A.az 0 8 zu).bind fun kU=>
            (A.cells 8 kU).bind fun kQ=>
            (A.splice 0 kQ [ah,aW,ah,ah,aD,aD,ah,ah]).bind fun xV=>
            (A.guard (v64.getD 2 U.undef) false (some hall) aj).bind fun kn=>
            (A.guard (v64.getD 2 U.undef) false (some (U.int .i64 ((i+1:Nat):Int))) aj).bind fun gY=>
            (A.guard (v64.getD 2 U.undef) false (A.sub gY aI) aj).bind fun gP=>
            (A.guard (v64.getD 2 U.undef) false (A.aN 1 kn gP) aj).bind fun gI=>
            (A.guard (v64.getD 2 U.undef) false ((A.deref gI eU).bind fun nA=>A.an 0 nA) aj).bind fun qA=>
            (A.guard (v64.getD 2 U.undef) false (A.az 0 2 xV) aj).bind fun lP=>
            (A.guard (v64.getD 2 U.undef) false (A.quiet (sZ [qA,lP,ah] eU) eU) aj).bind fun sj=>
            (A.guard (v64.getD 2 U.undef) false (some hall) aj).bind fun oR=>
            (A.guard (v64.getD 2 U.undef) false (some (U.int .i64 ((i+1:Nat):Int))) aj).bind fun nD=>
            (A.guard (v64.getD 2 U.undef) false (A.aN 1 oR nD) aj).bind fun nE=>
            (A.guard (v64.getD 2 U.undef) false ((A.deref nE eU).bind fun ue=>A.an 0 ue) aj).bind fun qB=>
            (A.guard (v64.getD 2 U.undef) false (A.az 0 2 xV) aj).bind fun oS=>
            (A.guard (v64.getD 2 U.undef) false (A.quiet (sZ [qB,oS,ah] eU) eU) aj).bind fun ko=>
            (A.guard (v64.getD 2 U.undef) false (A.neq .i sj ko) aj).bind fun ve=>
            (A.pick (v64.getD 2 U.undef) br ve).bind fun sk=>
            (A.add (v64.getD 3 U.undef) aI).bind fun x90=>
            some (AX.normal,[(v64.getD 0 U.undef),(v64.getD 1 U.undef),sk,x90],eU)) (
            some (AX.exit 6,[(v64.getD 0 U.undef),(v64.getD 1 U.undef),(v64.getD 2 U.undef),(v64.getD 3 U.undef)],eU))) [.lbx (aP r),.lbx (bQ u),.bool false,.int .i64 0] s=some q∧∃w,q=(.exit 6,[.lbx (aP r),.lbx (bQ u),.bool (T.any fun m=>gn r au l (i+1) m.key),w],s):=by
 refine mY T (fun j v w=>v=[.lbx (aP r),.lbx (bQ u),.bool ((T.take j).any fun m=>gn r au l (i+1) m.key),.int .i64 (j:Int)]∧w=s) ?_ ?_ ⟨rfl,rfl⟩
 ·rintro j m v w hx ⟨rfl,rfl⟩
  simp only[List.getD_cons_zero,List.getD_cons_succ]
  rw[eR hx,bS,fO,dR hx,bS,iw,bS,show A.az 0 8 (aF m)=some (.agg (aF m))from rfl,bS,show A.cells 8 (.agg (aF m))=some (aF m)from rfl,bS,sx m _ rfl,bS]
  have e:(T.take (j+1)).any (fun m=>gn r au l (i+1) m.key)=((T.take j).any (fun m=>gn r au l (i+1) m.key)||gn r au l (i+1) m.key):=by
   rw[List.take_add_one,hx,Option.toList_some,List.any_append]
   simp
  cases ha:(T.take j).any fun m=>gn r au l (i+1) m.key
  ·rw[ha,Bool.false_or]at e
   rw[ajl hr hz m hi H,dB hx (by unfold aY;omega),bS]
   exact⟨_,_,rfl,by rw[e],rfl⟩
  ·rw[ha,Bool.true_or]at e
   rw[ajm,dB hx (by unfold aY;omega),bS]
   exact⟨_,_,rfl,by rw[e],rfl⟩
 ·rintro v w ⟨rfl,rfl⟩
  simp only[List.getD_cons_zero,List.getD_cons_succ]
  rw[eO,bS,eC]
  exact⟨_,rfl,by simp,_,by rw[List.take_length]⟩
theorem agE {β:Type} {ay iC:Heap} {R:HP} (u:bX) {hall:U} {i:Nat} (hi:i+1<l.length) (H:Hs aX ay iC (Sl (fl jU) 1 hall (tK r au l)*R)) (K:U→Option β):
 ((A.guard (U.bool (!cG r au l i u.number)) false (some (U.agg (aP r))) aj).bind fun ia=>
        (A.guard (U.bool (!cG r au l i u.number)) false (some hall) aj).bind fun dK=>
        (A.guard (U.bool (!cG r au l i u.number)) false (some (U.int .i64 ((i+1:Nat):Int))) aj).bind fun gG=>
        (A.guard (U.bool (!cG r au l i u.number)) false (A.aN 1 dK gG) aj).bind fun ig=>
        (A.guard (U.bool (!cG r au l i u.number)) false ((A.deref ig iC).bind fun kG=>A.an 0 kG) aj).bind fun ef=>
        (A.guard (U.bool (!cG r au l i u.number)) false (some (U.int .i64 u.number)) aj).bind fun eM=>
        (A.guard (U.bool (!cG r au l i u.number)) false (A.quiet (tc [ia,ef,eM] iC) iC) aj).bind fun kg=>
        (A.pick (U.bool (!cG r au l i u.number)) br kg).bind K)=K (.bool (!cG r au l i u.number||cG r au l (i+1) u.number)):=by
 obtain⟨p,e1,e2⟩:=Ej H (F2 (r:=r) (au:=au) hi)
 cases cG r au l i u.number
 ·simp only[Bool.not_false,RH,sR,bS,Bool.true_or]
 ·simp only[Bool.not_true,gF,bS]
  rw[e1,bS,e2,bS,show A.an 0 (jU (eE r au l (i+1)))=some (sl 3 dc (eE r au l (i+1)))from rfl,bS,RE hr hz (i+1) u.number,bS]
  simp only[sQ,bS,Bool.false_or]
end
end
section
open HP
theorem Wb (a b c:Int):((((A.cell (.int .i64 a)).bind fun v=>some [v]).bind fun B9=>(A.splice 0 B9 [ah,ah,ah]).bind fun Gy=>((A.cell (.int .i64 b)).bind fun v=>some [v]).bind fun Gz=>(A.splice 1 Gz Gy).bind fun Ca=>((A.cell (.int .i64 c)).bind fun v=>some [v]).bind fun GA=>(A.splice 2 GA Ca).bind fun GB=>some GB).bind fun cs=>some (U.agg cs))=some (.agg (cZ ⟨a,b,c⟩)):=rfl
theorem Va (m:jk):(((A.cells 3 (.agg (cZ m))).bind fun GC=>(A.splice 0 GC [ah,ah,ah]).bind fun GD=>some GD).bind fun cs=>some (U.sl 3 (chunks 3 1 cs)))=some (.sl 3 [cZ m]):=rfl
theorem X7 {ay σ:Heap} {R:HP} {v:U} {l:List jk} (k:jk) (hl:l.length<1000000) (H:Hs aX ay σ (Sl (fl cZ) 3 v l*R)):∃v' σ',A.append 3 (140737488355328 / 24) v (.sl 3 [cZ k]) σ=some (v',σ')∧Hs aX ay σ' (Sl (fl cZ) 3 v' (l++[k])*R):=
 BZ (ys:=[cZ k]) (xs:=[k]) (hs_eq (show pr (cZ k=cZ k)*(Sl (fl cZ) 3 v l*R)=_ by
  rw[show els (fl cZ) [cZ k] [k]=pr (cZ k=cZ k)*emp from rfl,oT,wY];ac_rfl) (jC.2 ⟨rfl,H⟩)) (by simp;omega) (fun _ _ _ _=>trivial)
theorem ajA {ay σ:Heap} {R:HP} {v:U} {l:List (List bW)} (k:List bW) (hl:l.length<1000000) (H:Hs aX ay σ (Sl (fl jU) 1 v l*R)):∃v' σ',A.append 1 (140737488355328 / 24) v (.sl 1 [jU k]) σ=some (v',σ')∧Hs aX ay σ' (Sl (fl jU) 1 v' (l++[k])*R):=
 BZ (ys:=[jU k]) (xs:=[k]) (hs_eq (show pr (jU k=jU k)*(Sl (fl jU) 1 v l*R)=_ by
  rw[show els (fl jU) [jU k] [k]=pr (jU k=jU k)*emp from rfl,oT,wY];ac_rfl) (jC.2 ⟨rfl,H⟩)) (by simp;omega) (fun _ _ _ _=>trivial)
theorem aiz (L:List bW):((((A.cell (sl 3 dc L)).bind fun v=>some [v]).bind fun bR=>(A.splice 0 bR [U.aH]).bind fun ep=>some ep).bind fun cs=>some (U.sl 1 (chunks 1 1 cs)))=some (.sl 1 [jU L]):=rfl
section
variable {r : bu} {au : List bO} {l : List aO}
theorem ag2 (dk:Nat→Int→Bool) (tn:Nat→Int→List aS) (ch:Nat→aA→Bool) (i:Nat) (u:bX):(kO dk tn ch l i u).length≤1:=by
 unfold kO
 split
 ·exact Nat.zero_le _
 split
 ·exact Nat.zero_le _
 ·exact Nat.le_refl _
theorem JP (dk:Nat→Int→Bool) (tn:Nat→Int→List aS) (ch:Nat→aA→Bool) (i:Nat):∀us:List bX,(us.flatMap (kO dk tn ch l i)).length≤us.length
 |[]=>Nat.zero_le _
 |u::us=>by
  have h1:=ag2 (l:=l) dk tn ch i u
  have h2:=JP dk tn ch i us
  rw[List.flatMap_cons,List.length_append,List.length_cons];omega
theorem Dn (dk:Nat→Int→Bool) (tn:Nat→Int→List aS) (ch:Nat→aA→Bool) (us:List bX):∀n,(td dk tn ch us l n).length≤n*us.length
 |0=>by simp [td]
 |n+1=>by
  have h1:=Dn dk tn ch us n
  have h2:=JP (l:=l) dk tn ch (n+1) us
  unfold td at h1 ⊢
  rw[List.range_succ,List.flatMap_append,List.length_append,Nat.succ_mul,List.flatMap_cons,List.flatMap_nil,List.append_nil]
  omega
theorem Ta (dk:Nat→Int→Bool) (tn:Nat→Int→List aS) (ch:Nat→aA→Bool) (us:List bX) (n:Nat):td dk tn ch us l (n+1)=td dk tn ch us l n++us.flatMap (kO dk tn ch l (n+1)):=by
 unfold td
 rw[List.range_succ,List.flatMap_append,List.flatMap_cons,List.flatMap_nil,List.append_nil]
theorem Bf {X:Option LS} {P:List U→Heap→Prop} (h:∃b,X=some b∧∃v s,b=(AX.normal,v,s)∧P v s):∃v s,X=some (.normal,v,s)∧P v s:=by
 obtain⟨b,h1,v,s,rfl,h2⟩:=h
 exact⟨v,s,h1,h2⟩
theorem qZ (n:Nat) {α:Type} {X Y:α}:(bif (AX.exit n==AX.exit n)then X else Y)=X:=by rw[show(AX.exit n==AX.exit n)=true from beq_self_eq_true _];rfl
theorem UN {α β:Type} {f:α→List β} {l:List α} {j:Nat} {x:α} (hx:l[j]? =some x):(l.take (j+1)).flatMap f=(l.take j).flatMap f++f x:=by
 rw[List.take_add_one,hx,Option.toList_some,List.flatMap_append,List.flatMap_cons,List.flatMap_nil,List.append_nil]
theorem J6 (dk:Nat→Bool) (tn:Nat→List aS):∀n,pH dk tn n≤n
 |0=>Nat.le_refl 0
 |n+1=>by
  rw[pH]
  split
  ·exact Nat.le_succ_of_le (J6 dk tn n)
  ·exact Nat.le_refl _
theorem ajy (hr:fU r) (hz:jT r au l=0) {σ s:Heap} {hall o:U} {i:Nat} (hi:i+1<l.length) {M:List jk} (hM:M.length≤200000) (K:Hs aX σ s (Sl (fl jU) 1 hall (tK r au l)*(Sl (fl cZ) 3 o M*emp))):
 ∃q,A.loop (fun fS iC=>
       (A.lss (fS.getD 2 U.undef) (U.int .i64 (r.units.length:Int))).bind fun cO=>
       A.cond cO (
        (A.aN 4 (sl 4 bQ r.units) (fS.getD 2 U.undef)).bind fun x31=>
        ((A.deref x31 iC).bind fun vQ=>A.az 0 4 vQ).bind fun gj=>
        (A.cells 4 gj).bind fun tZ=>
        (A.splice 0 tZ [ah,aW,ah,ah]).bind fun lE=>
        ((A.lb (fS.getD 0 U.undef)).bind fun jF=>A.az 0 2 jF).bind fun cV=>
        (A.sub (U.int .i64 ((i+1:Nat):Int)) aI).bind fun x38=>
        (A.aN 1 hall x38).bind fun gy=>
        ((A.deref gy iC).bind fun l7=>A.an 0 l7).bind fun fW=>
        (A.an 0 lE).bind fun fZ=>
        (A.quiet (tc [cV,fW,fZ] iC) iC).bind fun fM=>
        (A.not fM).bind fun dH=>
        (A.guard dH false ((A.lb (fS.getD 0 U.undef)).bind fun rR=>A.az 0 2 rR) aj).bind fun ia=>
        (A.guard dH false (some hall) aj).bind fun dK=>
        (A.guard dH false (some (U.int .i64 ((i+1:Nat):Int))) aj).bind fun gG=>
        (A.guard dH false (A.aN 1 dK gG) aj).bind fun ig=>
        (A.guard dH false ((A.deref ig iC).bind fun kG=>A.an 0 kG) aj).bind fun ef=>
        (A.guard dH false (A.an 0 lE) aj).bind fun eM=>
        (A.guard dH false (A.quiet (tc [ia,ef,eM] iC) iC) aj).bind fun kg=>
        (A.pick dH br kg).bind fun ga=>
        A.cond ga (
         (A.add (fS.getD 2 U.undef) aI).bind fun iP=>
         some (AX.normal,[(fS.getD 0 U.undef),(fS.getD 1 U.undef),iP],iC)) (
         ((A.lb (fS.getD 0 U.undef)).bind fun CA=>A.az 0 2 CA).bind fun jf=>
         (A.aN 11 (sl 11 aM l) (U.int .i64 ((i+1:Nat):Int))).bind fun gb=>
         ((A.deref gb iC).bind fun mz=>A.az 0 11 mz).bind fun iQ=>
         (A.an 0 lE).bind fun gH=>
         (A.quiet ((A.ij (.s 8) sv) [jf,iQ,gH] iC) iC).bind fun gW=>
         (A.aT gW).bind fun dW=>
         (A.loop (fun v64 eU=>
           (A.lss (v64.getD 3 U.undef) dW).bind fun gX=>
           A.cond gX (
            (A.aN 8 gW (v64.getD 3 U.undef)).bind fun kj=>
            ((A.deref kj eU).bind fun zu=>A.az 0 8 zu).bind fun kU=>
            (A.cells 8 kU).bind fun kQ=>
            (A.splice 0 kQ [ah,aW,ah,ah,aD,aD,ah,ah]).bind fun xV=>
            (A.guard (v64.getD 2 U.undef) false (some hall) aj).bind fun kn=>
            (A.guard (v64.getD 2 U.undef) false (some (U.int .i64 ((i+1:Nat):Int))) aj).bind fun gY=>
            (A.guard (v64.getD 2 U.undef) false (A.sub gY aI) aj).bind fun gP=>
            (A.guard (v64.getD 2 U.undef) false (A.aN 1 kn gP) aj).bind fun gI=>
            (A.guard (v64.getD 2 U.undef) false ((A.deref gI eU).bind fun nA=>A.an 0 nA) aj).bind fun qA=>
            (A.guard (v64.getD 2 U.undef) false (A.az 0 2 xV) aj).bind fun lP=>
            (A.guard (v64.getD 2 U.undef) false (A.quiet (sZ [qA,lP,ah] eU) eU) aj).bind fun sj=>
            (A.guard (v64.getD 2 U.undef) false (some hall) aj).bind fun oR=>
            (A.guard (v64.getD 2 U.undef) false (some (U.int .i64 ((i+1:Nat):Int))) aj).bind fun nD=>
            (A.guard (v64.getD 2 U.undef) false (A.aN 1 oR nD) aj).bind fun nE=>
            (A.guard (v64.getD 2 U.undef) false ((A.deref nE eU).bind fun ue=>A.an 0 ue) aj).bind fun qB=>
            (A.guard (v64.getD 2 U.undef) false (A.az 0 2 xV) aj).bind fun oS=>
            (A.guard (v64.getD 2 U.undef) false (A.quiet (sZ [qB,oS,ah] eU) eU) aj).bind fun ko=>
            (A.guard (v64.getD 2 U.undef) false (A.neq .i sj ko) aj).bind fun ve=>
            (A.pick (v64.getD 2 U.undef) br ve).bind fun sk=>
            (A.add (v64.getD 3 U.undef) aI).bind fun x90=>
            some (AX.normal,[(v64.getD 0 U.undef),(v64.getD 1 U.undef),sk,x90],eU)) (
            some (AX.exit 6,[(v64.getD 0 U.undef),(v64.getD 1 U.undef),(v64.getD 2 U.undef),(v64.getD 3 U.undef)],eU))) [(fS.getD 0 U.undef),(U.lbx lE),aD,ah] iC).bind fun rY=>
         bif rY.1==AX.exit 6 then(
          (A.not (rY.2.1.getD 2 U.undef)).bind fun wC=>
          A.cond wC (
           (A.add (fS.getD 2 U.undef) aI).bind fun x93=>
           some (AX.normal,[(rY.2.1.getD 0 U.undef),(fS.getD 1 U.undef),x93],rY.2.2)) (
           (A.sub (U.int .i64 ((i+1:Nat):Int)) aI).bind fun ux=>
           (A.loop (fun fL gu=>
             (A.gtr (fL.getD 2 U.undef) ah).bind fun x98=>
             (A.guard x98 true ((A.lb (fL.getD 0 U.undef)).bind fun zz=>A.az 0 2 zz) aj).bind fun vM=>
             (A.guard x98 true (some hall) aj).bind fun x101=>
             (A.guard x98 true (some (fL.getD 2 U.undef)) aj).bind fun x102=>
             (A.guard x98 true (A.sub x102 aI) aj).bind fun tU=>
             (A.guard x98 true (A.aN 1 x101 tU) aj).bind fun x104=>
             (A.guard x98 true ((A.deref x104 gu).bind fun p6=>A.an 0 p6) aj).bind fun sL=>
             ((A.lb (fL.getD 1 U.undef)).bind fun _=>some (0)).bind fun zg=>
                          (A.guard x98 true ((A.lb (fL.getD 1 U.undef)).bind fun yV=>A.an zg yV) aj).bind fun tV=>
             (A.guard x98 true (A.quiet (tc [vM,sL,tV] gu) gu) aj).bind fun lI=>
             (A.pick x98 lI aD).bind fun iU=>
             (A.guard iU true ((A.lb (fL.getD 0 U.undef)).bind fun yW=>A.az 0 2 yW) aj).bind fun x113=>
             (A.guard iU true (some (sl 11 aM l)) aj).bind fun x114=>
             (A.guard iU true (some (fL.getD 2 U.undef)) aj).bind fun x115=>
             (A.guard iU true (A.aN 11 x114 x115) aj).bind fun vN=>
             (A.guard iU true ((A.deref vN gu).bind fun rE=>A.az 0 11 rE) aj).bind fun rK=>
             ((A.lb (fL.getD 1 U.undef)).bind fun _=>some (0)).bind fun zh=>
                          (A.guard iU true ((A.lb (fL.getD 1 U.undef)).bind fun yX=>A.an zh yX) aj).bind fun rM=>
             (A.guard iU true (A.quiet ((A.ij (.s 8) sv) [x113,rK,rM] gu) gu) aj).bind fun vO=>
             (A.guard iU true (A.aT vO) aj).bind fun vP=>
             (A.guard iU true (A.eql .i vP ah) aj).bind fun tW=>
             (A.pick iU tW aD).bind fun Cq=>
             A.cond Cq (
              (A.sub (fL.getD 2 U.undef) aI).bind fun GZ=>
              some (AX.normal,[(fL.getD 0 U.undef),(fL.getD 1 U.undef),GZ],gu)) (
              some (AX.exit 8,[(fL.getD 0 U.undef),(fL.getD 1 U.undef),(fL.getD 2 U.undef)],gu))) [(rY.2.1.getD 0 U.undef),(rY.2.1.getD 1 U.undef),ux] rY.2.2).bind fun qd=>
           bif qd.1==AX.exit 8 then(
            ((A.lb (qd.2.1.getD 1 U.undef)).bind fun _=>some (0)).bind fun Ra=>
            ((A.lb (qd.2.1.getD 1 U.undef)).bind fun Gx=>A.an Ra Gx).bind fun G0=>
            (A.aN 11 (sl 11 aM l) (qd.2.1.getD 2 U.undef)).bind fun Ri=>
            (A.bA 0 Ri).bind fun Rj=>
            ((A.deref Rj qd.2.2).bind fun QL=>A.an 0 QL).bind fun G1=>
            (A.aN 11 (sl 11 aM l) (U.int .i64 ((i+1:Nat):Int))).bind fun G2=>
            (A.bA 0 G2).bind fun Rk=>
            ((A.deref Rk qd.2.2).bind fun QM=>A.an 0 QM).bind fun Rl=>
            ((((A.cell G0).bind fun v=>some [v]).bind fun B9=>(A.splice 0 B9 [ah,ah,ah]).bind fun Gy=>((A.cell G1).bind fun v=>some [v]).bind fun Gz=>(A.splice 1 Gz Gy).bind fun Ca=>((A.cell Rl).bind fun v=>some [v]).bind fun GA=>(A.splice 2 GA Ca).bind fun GB=>some GB).bind fun cs=>some (U.agg cs)).bind fun G3=>
            (((A.cells 3 G3).bind fun GC=>(A.splice 0 GC [ah,ah,ah]).bind fun GD=>some GD).bind fun cs=>some (U.sl 3 (chunks 3 1 cs))).bind fun Rm=>
            (A.append 3 (140737488355328 / 24) (fS.getD 1 U.undef) Rm qd.2.2).bind fun GX=>
            (A.add (fS.getD 2 U.undef) aI).bind fun x150=>
            some (AX.normal,[(qd.2.1.getD 0 U.undef),GX.1,x150],GX.2))else
           none))else
         none)) (
        some (AX.exit 4,[(fS.getD 0 U.undef),(fS.getD 1 U.undef),(fS.getD 2 U.undef)],iC))) [.lbx (aP r),o,.int .i64 0] s=some q∧
  ∃o' w s',q=(.exit 4,[.lbx (aP r),o',w],s')∧Hs aX σ s' (Sl (fl jU) 1 hall (tK r au l)*(Sl (fl cZ) 3 o' (M++r.units.flatMap (kO (cG r au l) (dA r l) (gn r au l) l (i+1)))*emp)):=by
 have dP:=(jP hz).1
 have hg:=pX (jP hz).2
 have hlen:=hg.len
 have ET:=uC dP
 refine mY r.units (fun j v s=>∃o,v=[.lbx (aP r),o,.int .i64 (j:Int)]∧Hs aX σ s (Sl (fl jU) 1 hall (tK r au l)*(Sl (fl cZ) 3 o (M++(r.units.take j).flatMap (kO (cG r au l) (dA r l) (gn r au l) l (i+1)))*emp))) ?_ ?_ ⟨o,rfl,by simpa using K⟩
 ·rintro j u v s hx ⟨o,rfl,K⟩
  have hj:=(List.getElem?_eq_some_iff.1 hx).1
  obtain⟨p,e1,e2⟩:=Ej K (F2 (r:=r) (au:=au) (show i<l.length by omega))
  simp only[List.getD_cons_zero,List.getD_cons_succ]
  rw[eR hx,bS,fO,dR hx,bS,iw,bS,jA,bS,jx,bS,jh u _ rfl,bS,show((A.lb (.lbx (aP r))).bind fun jF=>A.az 0 2 jF)=some (.agg (aP r))from rfl,bS,uQ,bS,wrap64 (by unfold aZ;omega),show(((i+1:Nat):Int) -1)=(i:Int) by omega,e1,bS,e2,bS,show A.an 0 (jU (eE r au l i))=some (sl 3 dc (eE r au l i))from rfl,bS,show A.an 0 (bQ u)=some (.int .i64 u.number)from rfl,bS,RE hr hz i u.number,bS,show A.not (.bool (cG r au l i u.number))=some (.bool (!cG r au l i u.number))from rfl,bS]
  rw[agE hr hz u hi K]
  have Qj:=UN (f:=kO (cG r au l) (dA r l) (gn r au l) l (i+1)) hx
  have hrl:=JP (l:=l) (cG r au l) (dA r l) (gn r au l) (i+1) (r.units.take j)
  have hone:∀{X:List jk},kO (cG r au l) (dA r l) (gn r au l) l (i+1) u=X→(r.units.take (j+1)).flatMap (kO (cG r au l) (dA r l) (gn r au l) l (i+1))=(r.units.take j).flatMap (kO (cG r au l) (dA r l) (gn r au l) l (i+1))++X:=fun e=>by rw[Qj,e]
  cases hd:(!cG r au l i u.number||cG r au l (i+1) u.number)
  case true=>
   rw[fO,dB hx (by unfold aY;omega),bS]
   have:=hone (X:=[]) (by unfold kO;rw[show i+1-1=i by omega,hd,if_pos rfl])
   rw[List.append_nil]at this
   exact⟨_,_,rfl,o,rfl,by rw[this];exact K⟩
  have hc:l[i+1]? =some l[i+1]:=List.getElem?_eq_getElem hi
  generalize l[i+1]=c at hc
  have hcm:=(hg.mv c (List.mem_of_getElem? hc)).1
  have Be:(dA r l (i+1) u.number).length≤100000:=by
   unfold dA;rw[hc]
   have:=List.length_filter_le (fun m:aS=>decide (m.key.unit=u.number)&&decide (¬(fP r m.key=1))) c.aJ
   unfold pE
   simp only
   omega
  rw[eC,bS,dR hc,bS,iw,bS,uJ,bS,bS,ZU hr hz hc u.number,bS,cu,bS]
  refine Bf (mj (afR hr hz u Be hi K) ?_)
  rintro q ⟨w,rfl⟩
  simp only[qZ,List.getD_cons_zero,List.getD_cons_succ]
  rw[show A.not (.bool ((dA r l (i+1) u.number).any fun m=>gn r au l (i+1) m.key))=some (.bool (!((dA r l (i+1) u.number).any fun m=>gn r au l (i+1) m.key)))from rfl,bS]
  cases ha:(!((dA r l (i+1) u.number).any fun m=>gn r au l (i+1) m.key))
  case true=>
   rw[fO,dB hx (by unfold aY;omega),bS]
   have:=hone (X:=[]) (by unfold kO;rw[show i+1-1=i by omega,hd,if_neg (by decide),ha,if_pos rfl])
   rw[List.append_nil]at this
   exact⟨_,rfl,_,_,rfl,o,rfl,by rw[this];exact K⟩
  rw[eC,bS]
  refine mj (aer hr hz u (show i<l.length by omega) K) ?_
  rintro q rfl
  simp only[qZ,List.getD_cons_zero,List.getD_cons_succ]
  have hfl:pH (fun j=>cG r au l j u.number) (fun j=>dA r l j u.number) i≤i:=J6 _ _ i
  have B3:=hone (by unfold kO;rw[show i+1-1=i by omega,hd,if_neg (by decide),ha,if_neg (by decide)])
  generalize pH (fun j=>cG r au l j u.number) (fun j=>dA r l j u.number) i=a at hfl B3
  have hca:l[a]? =some l[a]:=List.getElem?_eq_getElem (by omega)
  generalize l[a]=ca at hca
  rw[hc,hca]at B3
  rw[show((A.lb (.lbx (bQ u))).bind fun _=>some 0)=some 0 from rfl,bS,show((A.lb (.lbx (bQ u))).bind fun Gx=>A.an 0 Gx)=some (.int .i64 u.number)from rfl,bS,dR hca,bS,show A.bA 0 (.rp (aM ca))=some (.rp (aM ca))from rfl,bS,iw,bS,show A.an 0 (aM ca)=some (.int .i64 ca.number)from rfl,bS,bS,show A.bA 0 (.rp (aM c))=some (.rp (aM c))from rfl,bS,iw,bS,show A.an 0 (aM c)=some (.int .i64 c.number)from rfl,bS,Wb,bS,Va,bS]
  obtain⟨o',s',e3,K2⟩:=X7 ⟨u.number,ca.number,c.number⟩ (by rw[List.length_append];rw[List.length_take]at hrl;omega) (hs_eq (show _=Sl (fl cZ) 3 o (M++(r.units.take j).flatMap (kO (cG r au l) (dA r l) (gn r au l) l (i+1)))*(Sl (fl jU) 1 hall (tK r au l)*emp) by ac_rfl) K)
  rw[e3,bS,dB hx (by unfold aY;omega),bS]
  refine⟨_,rfl,_,_,rfl,o',rfl,?_⟩
  rw[B3,←List.append_assoc]
  exact hs_eq (by ac_rfl) K2
 ·rintro v s ⟨o,rfl,K⟩
  simp only[List.getD_cons_zero,List.getD_cons_succ]
  rw[eO,bS,eC]
  refine⟨_,rfl,by simp,o,_,_,rfl,?_⟩
  rw[List.take_length]at K
  exact K
theorem V0 (hr:fU r) (hp:cH mV au) (hz:jT r au l=0) (σ:Heap):FG [.agg (aP r),sl 3 eB au,sl 11 aM l] σ=some (sl 3 cZ (ji r au l),σ):=by
 have dP:=(jP hz).1
 have hform:=(jP hz).2
 have hg:=pX hform
 have hlen:=hg.len
 have ET:=uC dP
 have run:∃b,Ob (.agg (aP r)) (sl 3 eB au) (sl 11 aM l) σ=some b∧b.2=σ∧A.nn (.s 3) b.1=sl 3 cZ (ji r au l):=by
  unfold Ob
  rw[show A.cells 2 (.agg (aP r))=some (aP r)from rfl,bS,cu,bS]
  refine mj (Q:=fun q=>∃h,q.1=.exit 0∧q.2.1=[.lbx (aP r),h,.int .i64 (l.length:Int)]∧Hs aX σ q.2.2 (Sl (fl jU) 1 h (tK r au l)*emp)) (mY l (fun i v s=>∃h,v=[.lbx (aP r),h,.int .i64 (i:Int)]∧Hs aX σ s (Sl (fl jU) 1 h ((List.range i).map (eE r au l))*emp)) ?_ ?_ ⟨.aH,rfl,qx (AB σ) (.inl rfl)⟩) ?_
  ·rintro i c v s hx ⟨h,rfl,K⟩
   have hi:=(List.getElem?_eq_some_iff.1 hx).1
   have hb:A.ij (.s 5) Jj [sl 11 aM l,.int .i64 ((i+1:Nat):Int)] s=some (sl 5 cz (oW (l.take (i+1))),s):=FV JK (cB:=[.e 11 iA]) (uW:=[sl 11 aM l,.int .i64 ((i+1:Nat):Int)]) (ts:=[sl 11 aM l,.int .i64 ((i+1:Nat):Int)]) ⟨uN (xF Ku _) rfl,BW _,trivial⟩ (agj (l:=l) (n:=i+1) (by omega) (by omega) (fun c hc=>by have:=(hg.mv c hc).1;omega))
   obtain⟨b1,b2⟩:=ach (l:=l.take (i+1)) (by simp;omega) (fun c hc=>(hg.mv c (List.mem_of_mem_take hc)).1)
   have hlv:Jl [.agg (aP r),sl 3 eB au,sl 5 cz (oW (l.take (i+1)))] s=some (sl 3 dc (eE r au l i),s):=
    adp (afI hr dP hp b1 (by omega))
   simp only[List.getD_cons_zero,List.getD_cons_succ]
   rw[eR hx,bS,fO,show((A.lb (.lbx (aP r))).bind fun c7=>A.az 0 2 c7)=some (.agg (aP r))from rfl,bS,dB hx (by unfold aY;omega),bS,quiet_of hb,bS,quiet_of hlv,bS,aiz,bS]
   obtain⟨h',s',e1,K2⟩:=ajA (eE r au l i) (by simp;omega) K
   rw[e1,bS,bS]
   refine⟨_,_,rfl,h',rfl,?_⟩
   rw[List.range_succ,List.map_append]
   exact K2
  ·rintro v s ⟨h,rfl,K⟩
   simp only[List.getD_cons_zero,List.getD_cons_succ]
   rw[eO,bS,eC]
   exact⟨_,rfl,by simp,h,rfl,rfl,K⟩
  rintro⟨x,v,s⟩ ⟨h,h1,h2,K⟩
  simp only at h1 h2 K
  subst h1;subst h2
  simp only[Ly,List.getD_cons_zero,List.getD_cons_succ]
  refine mj (Q:=fun q=>∃o w,q.1=.exit 2∧q.2.1=[.lbx (aP r),o,w]∧Hs aX σ q.2.2 (Sl (fl cZ) 3 o (ji r au l)*emp)) (mY (l.drop 1) (fun i v s=>∃o,v=[.lbx (aP r),o,.int .i64 ((i+1:Nat):Int)]∧Hs aX σ s (Sl (fl jU) 1 h (tK r au l)*(Sl (fl cZ) 3 o (td (cG r au l) (dA r l) (gn r au l) r.units l i)*emp))) ?_ ?_ ⟨.aH,rfl,hs_eq (by unfold td;ac_rfl) (qx (E:=fl cZ) (sz:=3) K (.inl rfl))⟩) ?_
  ·rintro i c v s hx ⟨o,rfl,K⟩
   rw[List.getElem?_drop,Nat.add_comm]at hx
   have hi:=(List.getElem?_eq_some_iff.1 hx).1
   simp only[List.getD_cons_zero,List.getD_cons_succ]
   rw[bS,vC,bS,decide_eq_true (by omega),fO,show((A.lb (.lbx (aP r))).bind fun _=>some 1)=some 1 from rfl,bS,show((A.lb (.lbx (aP r))).bind fun eH=>A.an 1 eH)=some (sl 4 bQ r.units)from rfl,bS,cu,bS]
   have hml:=Dn (l:=l) (cG r au l) (dA r l) (gn r au l) r.units i
   have uj:i*r.units.length≤300*400:=Nat.mul_le_mul (by omega) ET
   refine Bf (mj (ajy hr hz hi (by omega) K) ?_)
   rintro q ⟨o',w,s',rfl,K2⟩
   simp only[qZ,List.getD_cons_zero,List.getD_cons_succ]
   rw[B5 (by omega),bS]
   exact⟨_,rfl,_,_,rfl,o',rfl,by rw[Ta];exact K2⟩
  ·rintro v s ⟨o,rfl,K⟩
   simp only[List.getD_cons_zero,List.getD_cons_succ]
   rw[bS,vC,bS,decide_eq_false (by rw[List.length_drop];omega),eC]
   rw[List.length_drop]at K
   exact⟨_,rfl,by simp,o,_,rfl,rfl,jH K⟩
  ·rintro⟨x,v,s⟩ ⟨o,w,h1,h2,K⟩
   simp only at h1 h2 K
   subst h1;subst h2
   simp only[qZ,List.getD_cons_zero,List.getD_cons_succ]
   obtain⟨v',j1,j2⟩:=Pm VU K
   exact⟨_,j1,rfl,j2⟩
 obtain⟨⟨b,s⟩,h1,h2,h3⟩:=run
 simp only at h2 h3
 subst h2
 refine wrap_eq rfl ?_ h3
 rw[BX]
 exact h1
end
end
section
open HP
section
variable {B : aV → Prop} {ay σ : Heap} {R : HP} {id : Nat}
theorem xu {cs:List U} (H:Hs B ay σ (blk id (.box cs)*R)) (o:Nat):A.deref (.op id o) σ=some (cs.drop o):=by
 simp only[A.deref,(lB H).2]
theorem Gd {cs cs' new:List U} {o:Nat} (H:Hs aX ay σ (blk id (.box cs)*R)) (h:A.splice o new cs=some cs'):∃σ',A.storeAt (.op id o) new σ=some σ'∧Hs aX ay σ' (blk id (.box cs')*R):=by
 refine⟨σ.set id (.box cs'),?_,Ee H trivial⟩
 simp only[A.storeAt,(lB H).2,h,Option.map_some]
variable {κ ν : Type} [DecidableEq κ] {ek : A.EK} {eK : κ → U} {eV : ν → U} {l : List (κ × ν)}
theorem P5 (hq:∀a b,A.ff ek (eK a) (eK b)=some (decide (a=b))) {x:κ} (hok:A.jS ek (eK x)=true) (v:ν) (H:Hs aX ay σ (blk id (.map (l.map fun p=>(eK p.1,eV p.2)))*R)):∃σ',A.hG ek (.om id) (eK x) (eV v) σ=some σ'∧Hs aX ay σ' (blk id (.map ((gf x v l).map fun p=>(eK p.1,eV p.2)))*R):=by
 refine⟨σ.set id (.map ((gf x v l).map fun p=>(eK p.1,eV p.2))),?_,Ee H trivial⟩
 simp only[A.hG,hok,cond_true,(lB H).2,Qx hq,Option.map_some]
theorem ah9 (hq:∀a b,A.ff ek (eK a) (eK b)=some (decide (a=b))) {x:κ} (hok:A.jS ek (eK x)=true) (z:U) (H:Hs B ay σ (blk id (.map (l.map fun p=>(eK p.1,eV p.2)))*R)):A.look ek (.om id) (eK x) z σ=some (((cr x l).map eV).getD z):=by
 simp only[A.look,hok,cond_true,A.entries,(lB H).2,Option.bind_some,Ec hq,Option.map_some]
theorem aiZ {cs:List U} (H:Hs B ay σ (blk id (.box cs)*R)) (hz:jD cs) {cB:List Sh} {eo:Sh} {r:List U→Heap→Option (U×Heap)} {x v:U} (hx:Fz x) (HN:A.own x=false) (hs:A.xP v=true) (e:A.wrap true cB eo r [x,.rp cs] []=some (v,[])):A.wrap true cB eo r [x,.op id 0] σ=some (v,σ):=by
 have h3:=(lB H).2
 refine F1 (args':=[x,.rp cs]) (by simp [A.own,A.vK]) ?_ (by rw[List.any_cons,HN];rfl) e hs
 have q:A.sB σ 0 7 cs=some cs:=by rw[D4];exact hz σ 0 7
 simp [A.fE,hx σ 0 8,A.bT,h3,q]
end
def eK:aA→U:=fun k=>.agg (aK k)
def eN:Int→U:=fun n=>.int .i64 n
def iL (g:List (aA×Int)):List (U×U):=g.map fun p=>(eK p.1,eN p.2)
def nq (es:List (Int×U)):List (U×U):=es.map fun p=>(eN p.1,(fun v:U=>v) p.2)
def tN (u:bX) (x:dI):aA:=⟨u.number,x.name⟩
def oF (u:bX) (ps:List dI) (g:List (aA×Int)):List (aA×Int):=ps.foldl (fun g x=>gf (tN u x) x.group g) g
def fT (u:bX) (ps:List dI):List aA:=(ps.filter fun x=>decide (x.group=1)).map (tN u)
def vB (u:bX) (ps:List dI) (S:List (Int×List aA)):List (Int×List aA):=if fT u ps=[]then S else S++[(u.number,fT u ps)]
def lZ (L:List bW):List (aA×Int):=L.foldl (fun m s=>gf s.key s.level m) []
def pZ (r:bu) (u:bX):List dI:=(eP u.profile r.bz).1.params
def sF (r:bu) (us:List bX):List (aA×Int):=us.foldl (fun g u=>oF u (pZ r u) g) []
def n5 (r:bu) (us:List bX):List (Int×List aA):=us.foldl (fun S u=>vB u (pZ r u) S) []
def jV:List (Int×U)→List (Int×List aA)→HP
 |[],[]=>emp
 |p::es,x::l=>pr (p.1=x.1∧x.2≠[])*Sl (fl aK) 2 p.2 x.2*jV es l
 |_,_=>pr False
theorem W9:∀{es:List (Int×U)} {S:List (Int×List aA)} {p:Int×U} {x:Int×List aA} {ay σ:Heap} {R:HP},p.1=x.1→x.2≠[]→Hs aX ay σ (jV es S*(Sl (fl aK) 2 p.2 x.2*R))→Hs aX ay σ (jV (es++[p]) (S++[x])*R)
 |[],[],p,x,ay,σ,R,h1,h2,H=>by
  rw[jV,wY]at H
  have K:=jC.2 ⟨(⟨h1,h2⟩:p.1=x.1∧x.2≠[]),H⟩
  exact hs_eq (by show _=pr (p.1=x.1∧x.2≠[])*Sl (fl aK) 2 p.2 x.2*emp*R;rw[O6,oT]) K
 |[],_::_,p,x,ay,σ,R,h1,h2,H=>(jC.1 (show Hs aX ay σ (pr False*_)from H)).1.elim
 |_::_,[],p,x,ay,σ,R,h1,h2,H=>(jC.1 (show Hs aX ay σ (pr False*_)from H)).1.elim
 |q::es,y::S,p,x,ay,σ,R,h1,h2,H=>by
  rw[jV]at H
  have K:=W9 (es:=es) (S:=S) (p:=p) (x:=x) (R:=pr (q.1=y.1∧y.2≠[])*Sl (fl aK) 2 q.2 y.2*R) h1 h2 (hs_eq (by ac_rfl) H)
  rw[List.cons_append,List.cons_append,jV]
  exact hs_eq (by ac_rfl) K
theorem Wf:∀{es:List (Int×U)} {S:List (Int×List aA)} {ay σ:Heap} {R:HP},Hs aX ay σ (jV es S*R)→es.map (·.1)=S.map (·.1)
 |[],[],_,_,_,_=>rfl
 |[],_::_,ay,σ,R,H=>(jC.1 (show Hs aX ay σ (pr False*R)from H)).1.elim
 |_::_,[],ay,σ,R,H=>(jC.1 (show Hs aX ay σ (pr False*R)from H)).1.elim
 |q::es,y::S,ay,σ,R,H=>by
  rw[jV]at H
  have h1:=(jC.1 (hs_eq (show _=pr (q.1=y.1∧y.2≠[])*(Sl (fl aK) 2 q.2 y.2*jV es S*R) by ac_rfl) H)).1.1
  have h2:=Wf (es:=es) (S:=S) (R:=pr (q.1=y.1∧y.2≠[])*Sl (fl aK) 2 q.2 y.2*R) (hs_eq (by ac_rfl) H)
  rw[List.map_cons,List.map_cons,h1,h2]
theorem UD {κ ν:Type} [DecidableEq κ] {k:κ}:∀{l:List (κ×ν)},(∀p∈l,p.1≠k)→cr k l=none
 |[],_=>rfl
 |p::l,h=>by
  obtain⟨a,b⟩:=p
  rw[cr,if_neg (fun q=>h (a,b) (by simp) q.symm)]
  exact UD fun p hp=>h p (by simp [hp])
theorem UC {κ ν:Type} [DecidableEq κ] {k:κ} {v:ν}:∀{l:List (κ×ν)},(∀p∈l,p.1≠k)→cr k (l++[(k,v)])=some v
 |[],_=>by simp [cr]
 |p::l,h=>by
  obtain⟨a,b⟩:=p
  rw[List.cons_append,cr,if_neg (fun q=>h (a,b) (by simp) q.symm)]
  exact UC fun p hp=>h p (by simp [hp])
theorem Vr {κ ν:Type} [DecidableEq κ] {k:κ} {v:ν}:∀{l:List (κ×ν)},(∀p∈l,p.1≠k)→gf k v l=l++[(k,v)]
 |[],_=>rfl
 |p::l,h=>by
  obtain⟨a,b⟩:=p
  rw[gf,if_neg (fun q=>h (a,b) (by simp) q.symm),Vr fun p hp=>h p (by simp [hp])]
  rfl
theorem Vq {κ ν:Type} [DecidableEq κ] {k:κ} {v w:ν}:∀{l:List (κ×ν)},(∀p∈l,p.1≠k)→gf k v (l++[(k,w)])=l++[(k,v)]
 |[],_=>by simp [gf]
 |p::l,h=>by
  obtain⟨a,b⟩:=p
  rw[List.cons_append,gf,if_neg (fun q=>h (a,b) (by simp) q.symm),Vq fun p hp=>h p (by simp [hp])]
  rfl
theorem ajo (u:bX) (x:dI):((((A.cell (.int .i64 u.number)).bind fun v=>some [v]).bind fun qW=>(A.splice 0 qW [ah,aW]).bind fun rR=>((A.cell (.str x.name)).bind fun v=>some [v]).bind fun qj=>(A.splice 1 qj rR).bind fun rS=>some rS).bind fun cs=>some (U.agg cs))=some (.agg (aK (tN u x))):=rfl
theorem vU (a b:Int):A.ff .i (eN a) (eN b)=some (decide (a=b)):=ahG _ a b
theorem KX (a b:aA):A.ff (.s [0,2]) (eK a) (eK b)=some (decide (a=b)):=yD a b
section
variable {r : bu} {ay s : Heap} {ib gid eA ub : Nat}
def p7 (u:bX) (h:U) (ks:List aA):List (Int×U):=if ks=[]then[]else[(u.number,h)]
theorem aiD {u:bX} {ps:List dI} (hps:ps.length≤40) {g0:List (aA×Int)} {pre:List (Int×U)} {S:List (Int×List aA)} (hpre:∀p∈pre,p.1≠u.number)
  (K:Hs aX ay s (blk ib (.box [.om gid,.aH,.om eA])*(blk ub (.box (bQ u))*(blk gid (.map (iL g0))*(blk eA (.map (nq pre))*(jV pre S*emp)))))):
  ∃q,A.loop (fun v31 nC=>
      (A.lss (v31.getD 1 U.undef) (U.int .i64 (ps.length:Int))).bind fun x34=>
      A.cond x34 (
       (A.aN 7 (sl 7 cm ps) (v31.getD 1 U.undef)).bind fun fB=>
       ((A.deref fB nC).bind fun jF=>A.az 0 7 jF).bind fun cV=>
       (A.cells 7 cV).bind fun qh=>
       (A.splice 0 qh [aW,ah,ah,ah,ah,aD,U.aH]).bind fun jX=>
       (A.bA 0 (U.op ub 0)).bind fun fG=>
       ((A.deref fG nC).bind fun nw=>A.an 0 nw).bind fun fZ=>
       (A.an 0 jX).bind fun fM=>
       ((((A.cell fZ).bind fun v=>some [v]).bind fun qW=>(A.splice 0 qW [ah,aW]).bind fun rR=>((A.cell fM).bind fun v=>some [v]).bind fun qj=>(A.splice 1 qj rR).bind fun rS=>some rS).bind fun cs=>some (U.agg cs)).bind fun gG=>
       (A.cells 2 gG).bind fun vR=>
       (A.splice 0 vR [ah,aW]).bind fun kG=>
       (A.gZ (U.op ib 0)).bind fun ef=>
       (A.bA 0 ef).bind fun eM=>
       ((A.deref eM nC).bind fun Cz=>A.an 0 Cz).bind fun ga=>
       (A.az 0 2 kG).bind fun iP=>
       (A.an 1 jX).bind fun gO=>
       (A.hG (.s [0,2]) ga iP gO nC).bind fun mA=>
       (A.an 1 jX).bind fun gb=>
       (A.eql .i gb aI).bind fun jv=>
       (A.cond jv (
        (A.gZ (U.op ib 0)).bind fun gH=>
        (A.bA 2 gH).bind fun gW=>
        ((A.deref gW mA).bind fun zq=>A.an 0 zq).bind fun kT=>
        (A.bA 0 (U.op ub 0)).bind fun fH=>
        ((A.deref fH mA).bind fun oK=>A.an 0 oK).bind fun gX=>
        (A.gZ (U.op ib 0)).bind fun kj=>
        (A.bA 2 kj).bind fun jg=>
        ((A.deref jg mA).bind fun CD=>A.an 0 CD).bind fun uw=>
        (A.bA 0 (U.op ub 0)).bind fun kV=>
        ((A.deref kV mA).bind fun zw=>A.an 0 zw).bind fun gY=>
        (A.look .i uw gY U.aH mA).bind fun gP=>
        (A.az 0 2 kG).bind fun gI=>
        (((A.cells 2 gI).bind fun nA=>(A.splice 0 nA [ah,aW]).bind fun ud=>some ud).bind fun cs=>some (U.sl 2 (chunks 2 1 cs))).bind fun lP=>
        (A.append 2 (140737488355328 / 24) gP lP mA).bind fun jd=>
        (A.hG .i kT gX jd.1 jd.2).bind fun Hl=>
        some ([(v31.getD 0 U.undef)],Hl)) (
        some ([(v31.getD 0 U.undef)],mA))).bind fun sS=>
       (A.add (v31.getD 1 U.undef) aI).bind fun nD=>
       some (AX.normal,[(sS.1.getD 0 U.undef),nD],sS.2)) (
       some (AX.exit 2,[(v31.getD 0 U.undef),(v31.getD 1 U.undef)],nC))) [.lbx (aP r),.int .i64 0] s=some q∧
   ∃w s' pre',q=(.exit 2,[.lbx (aP r),w],s')∧Hs aX ay s' (blk ib (.box [.om gid,.aH,.om eA])*(blk gid (.map (iL (oF u ps g0)))*(blk eA (.map (nq pre'))*(jV pre' (vB u ps S)*emp)))):=by
 refine mY ps (fun j v s=>∃h,v=[.lbx (aP r),.int .i64 (j:Int)]∧(fT u (ps.take j)=[]→h=.aH)∧Hs aX ay s (blk ib (.box [.om gid,.aH,.om eA])*(blk ub (.box (bQ u))*(blk gid (.map (iL (oF u (ps.take j) g0)))*(blk eA (.map (nq (pre++p7 u h (fT u (ps.take j)))))*(Sl (fl aK) 2 h (fT u (ps.take j))*(jV pre S*emp))))))) ?_ ?_ ⟨.aH,rfl,fun _=>rfl,?_⟩
 ·rintro j x v s hx ⟨h,rfl,hh,K⟩
  have hj:=(List.getElem?_eq_some_iff.1 hx).1
  have hg:oF u (ps.take (j+1)) g0=gf (tN u x) x.group (oF u (ps.take j) g0):=by
   unfold oF;rw[List.take_add_one,hx,Option.toList_some,List.foldl_append];rfl
  have hk:fT u (ps.take (j+1))=fT u (ps.take j)++(if x.group=1 then[tN u x]else[]):=by
   unfold fT;rw[List.take_add_one,hx,Option.toList_some,List.filter_append,List.map_append]
   by_cases e:x.group=1<;>simp [e]
  simp only[List.getD_cons_zero,List.getD_cons_succ]
  rw[eR hx,bS,fO,dR hx,bS,iw,bS,mT,bS,mS,bS,kD x _ rfl,bS,show A.bA 0 (.op ub 0)=some (.op ub 0)from rfl,bS]
  rw[xu (hs_eq (show _=blk ub (.box (bQ u))*(blk ib (.box [.om gid,.aH,.om eA])*(blk gid (.map (iL (oF u (ps.take j) g0)))*(blk eA (.map (nq (pre++p7 u h (fT u (ps.take j)))))*(Sl (fl aK) 2 h (fT u (ps.take j))*(jV pre S*emp))))) by ac_rfl) K) 0,bS,show A.an 0 (List.drop 0 (bQ u))=some (.int .i64 u.number)from rfl,bS,show A.an 0 (cm x)=some (.str x.name)from rfl,bS,ajo,bS,show A.cells 2 (.agg (aK (tN u x)))=some (aK (tN u x))from rfl,bS,Aw _ _ rfl,bS,show A.gZ (.op ib 0)=some (.op ib 0)from rfl,bS,show A.bA 0 (.op ib 0)=some (.op ib 0)from rfl,bS,xu K 0,bS,show A.an 0 (List.drop 0 [.om gid,.aH,.om eA])=some (.om gid)from rfl,bS,Ky,bS,show A.an 1 (cm x)=some (.int .i64 x.group)from rfl,bS]
  obtain⟨s1,e1,K1⟩:=P5 (eK:=eK) (eV:=eN) (x:=tN u x) KX rfl x.group (hs_eq (show _=blk gid (.map (iL (oF u (ps.take j) g0)))*(blk ib (.box [.om gid,.aH,.om eA])*(blk ub (.box (bQ u))*(blk eA (.map (nq (pre++p7 u h (fT u (ps.take j)))))*(Sl (fl aK) 2 h (fT u (ps.take j))*(jV pre S*emp))))) by ac_rfl) K)
  rw[show A.hG (.s [0,2]) (.om gid) (.agg (aK (tN u x))) (.int .i64 x.group) s=some s1 from e1,bS,bS,l5,bS]
  have hsh:Hs aX ay s1 (blk gid (.map (iL (oF u (ps.take (j+1)) g0)))*(blk ib (.box [.om gid,.aH,.om eA])*(blk ub (.box (bQ u))*(blk eA (.map (nq (pre++p7 u h (fT u (ps.take j)))))*(Sl (fl aK) 2 h (fT u (ps.take j))*(jV pre S*emp)))))):=by rw[hg];exact K1
  by_cases hx1:x.group=1
  case neg=>
   rw[if_neg hx1,List.append_nil]at hk
   rw[decide_eq_false hx1,eC,bS]
   simp only[List.getD_cons_zero,List.getD_cons_succ]
   rw[dB hx (by unfold aY;omega),bS]
   refine⟨_,_,rfl,h,rfl,by rw[hk];exact hh,?_⟩
   rw[hk]
   exact hs_eq (by ac_rfl) hsh
  rw[if_pos hx1]at hk
  have d2:A.deref (.op ib 2) s1=some [.om eA]:=xu (hs_eq (show _=blk ib (.box [.om gid,.aH,.om eA])*(blk gid (.map (iL (oF u (ps.take (j+1)) g0)))*(blk ub (.box (bQ u))*(blk eA (.map (nq (pre++p7 u h (fT u (ps.take j)))))*(Sl (fl aK) 2 h (fT u (ps.take j))*(jV pre S*emp))))) by ac_rfl) hsh) 2
  have du:A.deref (.op ub 0) s1=some (bQ u):=xu (hs_eq (show _=blk ub (.box (bQ u))*(blk gid (.map (iL (oF u (ps.take (j+1)) g0)))*(blk ib (.box [.om gid,.aH,.om eA])*(blk eA (.map (nq (pre++p7 u h (fT u (ps.take j)))))*(Sl (fl aK) 2 h (fT u (ps.take j))*(jV pre S*emp))))) by ac_rfl) hsh) 0
  have hsd:=hs_eq (show _=blk eA (.map (nq (pre++p7 u h (fT u (ps.take j)))))*(blk gid (.map (iL (oF u (ps.take (j+1)) g0)))*(blk ib (.box [.om gid,.aH,.om eA])*(blk ub (.box (bQ u))*(Sl (fl aK) 2 h (fT u (ps.take j))*(jV pre S*emp))))) by ac_rfl) hsh
  have hl:A.look .i (.om eA) (.int .i64 u.number) .aH s1=some h:=by
   have:=ah9 (eK:=eN) (eV:=fun v:U=>v) (l:=pre++p7 u h (fT u (ps.take j))) (x:=u.number) vU rfl .aH hsd
   rw[show eN u.number=.int .i64 u.number from rfl]at this
   rw[this]
   unfold p7
   by_cases e:fT u (ps.take j)=[]
   ·rw[if_pos e,List.append_nil,UD hpre,hh e];rfl
   ·rw[if_neg e,UC hpre];rfl
  rw[decide_eq_true hx1,fO]
  simp only[bS,show A.gZ (.op ib 0)=some (.op ib 0)from rfl,show A.bA 2 (.op ib 0)=some (.op ib 2)from rfl,d2,du,show A.an 0 [.om eA]=some (.om eA)from rfl,show A.an 0 (bQ u)=some (.int .i64 u.number)from rfl,show A.bA 0 (.op ub 0)=some (.op ub 0)from rfl,hl]
  rw[aiy,bS]
  have rj:(fT u (ps.take j)).length≤40:=by
   unfold fT
   have:=List.length_filter_le (fun x:dI=>decide (x.group=1)) (ps.take j)
   rw[List.length_map];rw[List.length_take]at this;omega
  obtain⟨h',s2,e3,K3⟩:=aj7 (B:=aX) (tN u x) (by omega) (fun _ _ _ _=>trivial) (hs_eq (show _=Sl (fl aK) 2 h (fT u (ps.take j))*(blk gid (.map (iL (oF u (ps.take (j+1)) g0)))*(blk ib (.box [.om gid,.aH,.om eA])*(blk ub (.box (bQ u))*(blk eA (.map (nq (pre++p7 u h (fT u (ps.take j)))))*(jV pre S*emp))))) by ac_rfl) hsh)
  obtain⟨s3,e4,K4⟩:=P5 (eK:=eN) (eV:=fun v:U=>v) (x:=u.number) vU rfl h' (hs_eq (show _=blk eA (.map (nq (pre++p7 u h (fT u (ps.take j)))))*(blk gid (.map (iL (oF u (ps.take (j+1)) g0)))*(blk ib (.box [.om gid,.aH,.om eA])*(blk ub (.box (bQ u))*(Sl (fl aK) 2 h' (fT u (ps.take j)++[tN u x])*(jV pre S*emp))))) by ac_rfl) K3)
  have RZ:gf u.number h' (pre++p7 u h (fT u (ps.take j)))=pre++p7 u h' (fT u (ps.take (j+1))):=by
   have hne:¬(fT u (ps.take j)++[tN u x]=[]):=by simp
   rw[hk]
   unfold p7
   rw[if_neg hne]
   by_cases e:fT u (ps.take j)=[]
   ·rw[if_pos e,List.append_nil,Vr hpre]
   ·rw[if_neg e,Vq hpre]
  rw[e3,bS,show A.hG .i (.om eA) (.int .i64 u.number) h' s2=some s3 from e4,bS,bS]
  simp only[List.getD_cons_zero,List.getD_cons_succ]
  rw[dB hx (by unfold aY;omega),bS]
  rw[RZ]at K4
  refine⟨_,_,rfl,h',rfl,fun q=>by rw[hk]at q;simp at q,?_⟩
  rw[hk]at K4 ⊢
  exact hs_eq (by unfold nq;ac_rfl) K4
 ·rintro v s ⟨h,rfl,hh,K⟩
  simp only[List.getD_cons_zero,List.getD_cons_succ]
  rw[eO,bS,eC]
  rw[List.take_length]at K hh
  refine⟨_,rfl,by simp,_,_,pre++p7 u h (fT u ps),rfl,?_⟩
  unfold vB
  unfold p7 at K ⊢
  by_cases e:fT u ps=[]
  ·rw[if_pos e]at K ⊢
   rw[if_pos e]
   rw[List.append_nil]at K ⊢
   have K2:=jH (hs_eq (show _=(blk ub (.box (bQ u))*Sl (fl aK) 2 h (fT u ps))*(blk ib (.box [.om gid,.aH,.om eA])*(blk gid (.map (iL (oF u ps g0)))*(blk eA (.map (nq pre))*(jV pre S*emp)))) by ac_rfl) K)
   exact K2
  ·rw[if_neg e]at K ⊢
   rw[if_neg e]
   have K2:=jH (hs_eq (show _=blk ub (.box (bQ u))*(jV pre S*(Sl (fl aK) 2 h (fT u ps)*(blk ib (.box [.om gid,.aH,.om eA])*(blk gid (.map (iL (oF u ps g0)))*(blk eA (.map (nq (pre++[(u.number,h)])))*emp))))) by ac_rfl) K)
   have K3:=W9 (p:=(u.number,h)) (x:=(u.number,fT u ps)) rfl e K2
   exact hs_eq (by ac_rfl) K3
 ·have e:p7 u .aH (fT u (ps.take 0))=[]:=rfl
  rw[e,List.append_nil]
  exact hs_eq (by ac_rfl) (qx (E:=fl aK) (sz:=2) (v:=.aH) K (.inl rfl))
end
end
section
open HP
theorem Wg (r:bu):∀(us:List bX) (S:List (Int×List aA)),∀p∈us.foldl (fun S u=>vB u (pZ r u) S) S,p∈S∨∃v∈us,p.1=v.number
 |[],S,p,h=>.inl h
 |u::us,S,p,h=>by
  rw[List.foldl_cons]at h
  rcases Wg r us _ p h with h|⟨v,hv,e⟩
  ·unfold vB at h
   split at h
   ·exact .inl h
   ·rcases List.mem_append.1 h with h|h
    ·exact .inl h
    ·simp at h;subst h;exact .inr ⟨u,by simp,rfl⟩
  ·exact .inr ⟨v,by simp [hv],e⟩
theorem ais {r:bu} (hr:fU r) (h:dO r=0) {u:bX} (hu:u∈r.units):∃p:bV,kf r.bz (kN (fun x:bV=>decide (x.name=u.profile)) r.bz)=some p∧p.params=pZ r u:=by
 have B4:=U8 h u hu
 unfold pZ
 rw[vg]at B4 ⊢
 rcases wO (fun x:bV=>decide (x.name=u.profile)) r.bz with⟨_,_,h3⟩|⟨k,x,h1,h2,h3,h4,_⟩
 ·rw[h3]at B4;simp at B4
 ·exact⟨x,by rw[h3];exact yG (x:=x) (by omega) (by simpa using h1),by rw[h4]⟩
section
variable {r : bu} {au : List bO} {l : List aO} {ay s : Heap} {ib gid eA mid : Nat}
theorem af5 (hr:fU r) (dP:dO r=0) (K:Hs aX ay s (blk ib (.box [.om gid,.aH,.om eA])*(blk gid (.map (iL []))*(blk eA (.map (nq []))*(jV [] []*emp))))):
  ∃q,A.loop (fun v10 gL=>
   (A.lss (v10.getD 1 U.undef) (U.int .i64 (r.units.length:Int))).bind fun bF=>
   A.cond bF (
    (A.aN 4 (sl 4 bQ r.units) (v10.getD 1 U.undef)).bind fun bw=>
    ((A.deref bw gL).bind fun fV=>A.az 0 4 fV).bind fun bl=>
    (A.cells 4 bl).bind fun iN=>
    (A.storeAt (U.op gL.length 0) iN (gL++[aV.box [ah,aW,ah,ah]])).bind fun eu=>
    ((A.lb (v10.getD 0 U.undef)).bind fun _=>some (0)).bind fun CV=>
    ((A.lb (v10.getD 0 U.undef)).bind fun i7=>A.an CV i7).bind fun bg=>
    (yp (A.tab (fun _ _=>none) [(225,uA),(225,uA)]) [bg,(U.fn 225 [(U.op gL.length 0)])] eu).bind fun uo=>
    ((A.lb (v10.getD 0 U.undef)).bind fun _=>some (0)).bind fun HT=>
    ((A.lb (v10.getD 0 U.undef)).bind fun eH=>A.an HT eH).bind fun x25=>
    (A.aN 3 x25 uo.1).bind fun cN=>
    (A.bA 2 cN).bind fun cR=>
    ((A.deref cR uo.2).bind fun mu=>A.an 0 mu).bind fun x29=>
    (A.aT x29).bind fun cO=>
    (A.loop (fun v31 nC=>
      (A.lss (v31.getD 1 U.undef) cO).bind fun x34=>
      A.cond x34 (
       (A.aN 7 x29 (v31.getD 1 U.undef)).bind fun fB=>
       ((A.deref fB nC).bind fun jF=>A.az 0 7 jF).bind fun cV=>
       (A.cells 7 cV).bind fun qh=>
       (A.splice 0 qh [aW,ah,ah,ah,ah,aD,U.aH]).bind fun jX=>
       (A.bA 0 (U.op gL.length 0)).bind fun fG=>
       ((A.deref fG nC).bind fun nw=>A.an 0 nw).bind fun fZ=>
       (A.an 0 jX).bind fun fM=>
       ((((A.cell fZ).bind fun v=>some [v]).bind fun qW=>(A.splice 0 qW [ah,aW]).bind fun rR=>((A.cell fM).bind fun v=>some [v]).bind fun qj=>(A.splice 1 qj rR).bind fun rS=>some rS).bind fun cs=>some (U.agg cs)).bind fun gG=>
       (A.cells 2 gG).bind fun vR=>
       (A.splice 0 vR [ah,aW]).bind fun kG=>
       (A.gZ (U.op ib 0)).bind fun ef=>
       (A.bA 0 ef).bind fun eM=>
       ((A.deref eM nC).bind fun Cz=>A.an 0 Cz).bind fun ga=>
       (A.az 0 2 kG).bind fun iP=>
       (A.an 1 jX).bind fun gO=>
       (A.hG (.s [0,2]) ga iP gO nC).bind fun mA=>
       (A.an 1 jX).bind fun gb=>
       (A.eql .i gb aI).bind fun jv=>
       (A.cond jv (
        (A.gZ (U.op ib 0)).bind fun gH=>
        (A.bA 2 gH).bind fun gW=>
        ((A.deref gW mA).bind fun zq=>A.an 0 zq).bind fun kT=>
        (A.bA 0 (U.op gL.length 0)).bind fun fH=>
        ((A.deref fH mA).bind fun oK=>A.an 0 oK).bind fun gX=>
        (A.gZ (U.op ib 0)).bind fun kj=>
        (A.bA 2 kj).bind fun jg=>
        ((A.deref jg mA).bind fun CD=>A.an 0 CD).bind fun uw=>
        (A.bA 0 (U.op gL.length 0)).bind fun kV=>
        ((A.deref kV mA).bind fun zw=>A.an 0 zw).bind fun gY=>
        (A.look .i uw gY U.aH mA).bind fun gP=>
        (A.az 0 2 kG).bind fun gI=>
        (((A.cells 2 gI).bind fun nA=>(A.splice 0 nA [ah,aW]).bind fun ud=>some ud).bind fun cs=>some (U.sl 2 (chunks 2 1 cs))).bind fun lP=>
        (A.append 2 (140737488355328 / 24) gP lP mA).bind fun jd=>
        (A.hG .i kT gX jd.1 jd.2).bind fun Hl=>
        some ([(v31.getD 0 U.undef)],Hl)) (
        some ([(v31.getD 0 U.undef)],mA))).bind fun sS=>
       (A.add (v31.getD 1 U.undef) aI).bind fun nD=>
       some (AX.normal,[(sS.1.getD 0 U.undef),nD],sS.2)) (
       some (AX.exit 2,[(v31.getD 0 U.undef),(v31.getD 1 U.undef)],nC))) [(v10.getD 0 U.undef),ah] uo.2).bind fun uq=>
    bif uq.1==AX.exit 2 then(
     (A.add (v10.getD 1 U.undef) aI).bind fun sX=>
     some (AX.normal,[(uq.2.1.getD 0 U.undef),sX],uq.2.2))else
    none) (
    some (AX.exit 0,[(v10.getD 0 U.undef),(v10.getD 1 U.undef)],gL))) [.lbx (aP r),.int .i64 0] s=some q∧
   ∃w s' es,q=(.exit 0,[.lbx (aP r),w],s')∧Hs aX ay s' (blk ib (.box [.om gid,.aH,.om eA])*(blk gid (.map (iL (sF r r.units)))*(blk eA (.map (nq es))*(jV es (n5 r r.units)*emp)))):=by
 have ET:=uC dP
 refine mY r.units (fun j v s=>∃es,v=[.lbx (aP r),.int .i64 (j:Int)]∧Hs aX ay s (blk ib (.box [.om gid,.aH,.om eA])*(blk gid (.map (iL (sF r (r.units.take j))))*(blk eA (.map (nq es))*(jV es (n5 r (r.units.take j))*emp))))) ?_ ?_ ⟨[],rfl,K⟩
 ·rintro j u v s hx ⟨es,rfl,K⟩
  have hu:=List.mem_of_getElem? hx
  have hj:=(List.getElem?_eq_some_iff.1 hx).1
  have hps:=Bz dP u.profile
  obtain⟨p,hp1,hp2⟩:=ais hr dP hu
  have hpre:∀p∈es,p.1≠u.number:=by
   intro p hp e
   have hk:=Wf (hs_eq (show _=jV es (n5 r (r.units.take j))*(blk ib (.box [.om gid,.aH,.om eA])*(blk gid (.map (iL (sF r (r.units.take j))))*(blk eA (.map (nq es))*emp))) by ac_rfl) K)
   have:p.1∈(n5 r (r.units.take j)).map (·.1):=by rw[←hk];exact List.mem_map.2 ⟨p,hp,rfl⟩
   obtain⟨x,hx1,hx2⟩:=List.mem_map.1 this
   rcases Wg r (r.units.take j) [] x hx1 with h|⟨v,hv,e2⟩
   ·simp at h
   ·obtain⟨k,hk⟩:=List.mem_iff_getElem?.1 hv
    have rj:=(List.getElem?_eq_some_iff.1 hk).1
    rw[List.length_take]at rj
    rw[List.getElem?_take_of_lt (by omega)]at hk
    have hs:=DB dP
    rw[List.pairwise_map]at hs
    have:=List.pairwise_iff_getElem.1 hs k j (by omega) hj (by omega)
    rw[(List.getElem?_eq_some_iff.1 hk).2,(List.getElem?_eq_some_iff.1 hx).2]at this
    omega
  have K1:=yI (b:=aV.box [ah,aW,ah,ah]) K trivial
  obtain⟨s2,e2,K2⟩:=Gd (o:=0) (new:=bQ u) (cs':=bQ u) K1 rfl
  have RS:=LV (A.tab (fun _ _=>none) [(225,uA),(225,uA)]) r.bz hr.1.1 225 [.op s.length 0] (fun x=>decide (x.name=u.profile)) s2
   (fun x hx=>aiZ K2 (OP _) (pY (Nr _)) rfl rfl (ack (σ:=[]) (r:=decide (x.name=u.profile)) rfl))
  simp only[List.getD_cons_zero,List.getD_cons_succ]
  rw[eR hx,bS,fO,dR hx,bS,iw,bS,jA,bS,jx,bS,e2,bS,show((A.lb (.lbx (aP r))).bind fun _=>some 0)=some 0 from rfl,bS,show((A.lb (.lbx (aP r))).bind fun i7=>A.an 0 i7)=some (sl 3 cA r.bz)from rfl,bS,RS,bS,bS,show((A.lb (.lbx (aP r))).bind fun i7=>A.an 0 i7)=some (sl 3 cA r.bz)from rfl,bS]
  simp only
  rw[pI hp1,bS,show A.bA 2 (.rp (cA p))=some (.rp (List.drop 2 (cA p)))from rfl,bS,iw,bS,show A.an 0 (List.drop 2 (cA p))=some (sl 7 cm p.params)from rfl,bS,hp2,cu,bS]
  refine Bf (mj (aiD (u:=u) hps hpre (hs_eq (by ac_rfl) K2)) ?_)
  rintro q ⟨w,s',es',rfl,K3⟩
  simp only[qZ,List.getD_cons_zero,List.getD_cons_succ]
  rw[dB hx (by unfold aY;omega),bS]
  refine⟨_,rfl,_,_,rfl,es',rfl,?_⟩
  have eg:sF r (r.units.take (j+1))=oF u (pZ r u) (sF r (r.units.take j)):=by
   unfold sF;rw[List.take_add_one,hx,Option.toList_some,List.foldl_append];rfl
  have es:n5 r (r.units.take (j+1))=vB u (pZ r u) (n5 r (r.units.take j)):=by
   unfold n5;rw[List.take_add_one,hx,Option.toList_some,List.foldl_append];rfl
  rw[eg,es]
  exact K3
 ·rintro v s ⟨es,rfl,K⟩
  simp only[List.getD_cons_zero,List.getD_cons_succ]
  rw[eO,bS,eC]
  rw[List.take_length]at K
  exact⟨_,rfl,by simp,_,_,es,rfl,K⟩
theorem aiE {R:HP} {L:List bW} (hL:L.length≤16000) (K:Hs aX ay s (blk mid (.map (iL []))*R)):
  ∃ q, A.loop (fun oc wv =>
       (A.lss (oc.getD 1 U.undef) (U.int .i64 (L.length:Int))).bind fun x101=>
       A.cond x101 (
        (A.aN 3 (sl 3 dc L) (oc.getD 1 U.undef)).bind fun x102=>
        ((A.deref x102 wv).bind fun yU=>A.az 0 3 yU).bind fun x104=>
        (A.cells 3 x104).bind fun p6=>
        (A.splice 0 p6 [ah,aW,ah]).bind fun vD=>
        (A.az 0 2 vD).bind fun xR=>
        (A.an 2 vD).bind fun xS=>
        (A.hG (.s [0,2]) (U.om mid) xR xS wv).bind fun GH=>
        (A.add (oc.getD 1 U.undef) aI).bind fun lI=>
        some (AX.normal,[(oc.getD 0 U.undef),lI],GH)) (
        some (AX.exit 6,[(oc.getD 0 U.undef),(oc.getD 1 U.undef)],wv))) [.lbx (aP r),.int .i64 0] s=some q∧∃w s',q=(.exit 6,[.lbx (aP r),w],s')∧Hs aX ay s' (blk mid (.map (iL (lZ L)))*R):=by
 refine mY L (fun j v s=>v=[.lbx (aP r),.int .i64 (j:Int)]∧Hs aX ay s (blk mid (.map (iL (lZ (L.take j))))*R)) ?_ ?_ ⟨rfl,K⟩
 ·rintro j x v s hx ⟨rfl,K⟩
  simp only[List.getD_cons_zero,List.getD_cons_succ]
  obtain⟨s1,e1,K1⟩:=P5 (eK:=eK) (eV:=eN) (x:=x.key) KX rfl x.level K
  rw[eR hx,bS,fO,dR hx,bS,iw,bS,show A.az 0 3 (dc x)=some (.agg (dc x))from rfl,bS,show A.cells 3 (.agg (dc x))=some (dc x)from rfl,bS,Bx x _ rfl,bS,show A.az 0 2 (dc x)=some (.agg (aK x.key))from rfl,bS,show A.an 2 (dc x)=some (.int .i64 x.level)from rfl,bS,show A.hG (.s [0,2]) (.om mid) (.agg (aK x.key)) (.int .i64 x.level) s=some s1 from e1,bS,dB hx (by unfold aY;omega),bS]
  refine⟨_,_,rfl,rfl,?_⟩
  have:lZ (L.take (j+1))=gf x.key x.level (lZ (L.take j)):=by
   unfold lZ;rw[List.take_add_one,hx,Option.toList_some,List.foldl_append];rfl
  rw[this];exact K1
 ·rintro v s ⟨rfl,K⟩
  simp only[List.getD_cons_zero,List.getD_cons_succ]
  rw[eO,bS,eC]
  rw[List.take_length]at K
  exact⟨_,rfl,by simp,_,_,rfl,K⟩
def rN (e:List U) (m:List (aA×Int)):HP:=ex fun id=>pr (e=[.om id])*blk id (.map (iL m))
theorem Wh {α:Type} {E:List U→α→HP} {sz:Nat} {v:U} {L:List α} {R:HP} (H:Hs aX ay s (Sl E sz v L*R)):A.cell v=some v:=by
 rcases sw H with⟨_,rfl|rfl,_⟩|⟨id,g,seg,rfl,_,_⟩<;>rfl
def lW (r:bu) (au:List bO) (l:List aO) (n:Nat):List (List (aA×Int)):=(List.range n).map fun i=>lZ (eE r au l i)
theorem ahg (hr:fU r) (hp:cH mV au) (hz:jT r au l=0) {R:HP} (K:Hs aX ay s (blk ib (.box [.om gid,.aH,.om eA])*R)):
  ∃ q, A.loop (fun v87 oP =>
    (A.lss (v87.getD 1 U.undef) (U.int .i64 (l.length:Int))).bind fun x90=>
    A.cond x90 (
     ((A.lb (v87.getD 0 U.undef)).bind fun zy=>A.az 0 2 zy).bind fun wC=>
     (A.add (v87.getD 1 U.undef) aI).bind fun x93=>
     (A.bG 11 (sl 11 aM l) none (some x93) (oP++[aV.map []])).bind fun ux=>
     (A.quiet (Dz [ux] (oP++[aV.map []])) (oP++[aV.map []])).bind fun x95=>
     (A.quiet (Du [wC,(sl 3 eB au),x95] (oP++[aV.map []])) (oP++[aV.map []])).bind fun x96=>
     (A.aT x96).bind fun SG=>
     (A.loop (fun oc wv=>
       (A.lss (oc.getD 1 U.undef) SG).bind fun x101=>
       A.cond x101 (
        (A.aN 3 x96 (oc.getD 1 U.undef)).bind fun x102=>
        ((A.deref x102 wv).bind fun yU=>A.az 0 3 yU).bind fun x104=>
        (A.cells 3 x104).bind fun p6=>
        (A.splice 0 p6 [ah,aW,ah]).bind fun vD=>
        (A.az 0 2 vD).bind fun xR=>
        (A.an 2 vD).bind fun xS=>
        (A.hG (.s [0,2]) (U.om oP.length) xR xS wv).bind fun GH=>
        (A.add (oc.getD 1 U.undef) aI).bind fun lI=>
        some (AX.normal,[(oc.getD 0 U.undef),lI],GH)) (
        some (AX.exit 6,[(oc.getD 0 U.undef),(oc.getD 1 U.undef)],wv))) [(v87.getD 0 U.undef),ah] (oP++[aV.map []])).bind fun zj=>
     bif zj.1==AX.exit 6 then(
      (A.gZ (U.op ib 0)).bind fun x112=>
      (A.bA 1 x112).bind fun x113=>
      ((A.deref x113 zj.2.2).bind fun QI=>A.an 0 QI).bind fun x115=>
      ((((A.cell (U.om oP.length)).bind fun v=>some [v]).bind fun Gw=>(A.splice 0 Gw [U.nm]).bind fun rE=>some rE).bind fun cs=>some (U.sl 1 (chunks 1 1 cs))).bind fun rK=>
      (A.append 1 (140737488355328 / 8) x115 rK zj.2.2).bind fun GV=>
      (A.gZ (U.op ib 0)).bind fun GY=>
      (A.bA 1 GY).bind fun rM=>
      ((A.cell GV.1).bind fun v=>some [v]).bind fun QJ=>
      (A.storeAt rM QJ GV.2).bind fun QK=>
      (A.add (v87.getD 1 U.undef) aI).bind fun tW=>
      some (AX.normal,[(zj.2.1.getD 0 U.undef),tW],QK))else
     none) (
     some (AX.exit 4,[(v87.getD 0 U.undef),(v87.getD 1 U.undef)],oP))) [.lbx (aP r),.int .i64 0] s=some q∧
   ∃w s' hL,q=(.exit 4,[.lbx (aP r),w],s')∧Hs aX ay s' (blk ib (.box [.om gid,hL,.om eA])*(Sl rN 1 hL (lW r au l l.length)*R)):=by
 have dP:=(jP hz).1
 have hg:=pX (jP hz).2
 have hlen:=hg.len
 refine mY l (fun i v s=>∃hL,v=[.lbx (aP r),.int .i64 (i:Int)]∧Hs aX ay s (blk ib (.box [.om gid,hL,.om eA])*(Sl rN 1 hL (lW r au l i)*R))) ?_ ?_ ⟨.aH,rfl,?_⟩
 ·rintro i c v s hx ⟨hL,rfl,K⟩
  have hi:=(List.getElem?_eq_some_iff.1 hx).1
  have K1:=yI (b:=aV.map []) K trivial
  have hcs:Dz [sl 11 aM (l.take (i+1))] (s++[aV.map []])=some (Zc (B0 (l.take (i+1))),s++[aV.map []]):=
   adq (aiK (by simp;unfold aY;omega) (fun c hc=>by have:=(hg.mv c (List.mem_of_mem_take hc)).1;unfold aY;omega))
  have hlv:Du [.agg (aP r),sl 3 eB au,Zc (B0 (l.take (i+1)))] (s++[aV.map []])=some (sl 3 dc (eE r au l i),s++[aV.map []]):=by
   have:=acP (σ:=s++[aV.map []]) (agT hr dP hp (B0 (l.take (i+1))))
   rw[show(fun k=>cr k (B0 (l.take (i+1))))=nS (oW (l.take (i+1)))from funext fun k=>(aeY _).2.2 k]at this
   exact this
  have hlc:=OT (au:=au) (l:=l) dP i
  simp only[List.getD_cons_zero,List.getD_cons_succ]
  rw[eR hx,bS,fO,show((A.lb (.lbx (aP r))).bind fun zy=>A.az 0 2 zy)=some (.agg (aP r))from rfl,bS,dB hx (by unfold aY;omega),bS,show A.bG 11 (sl 11 aM l) none (some (.int .i64 ((i+1:Nat):Int))) (s++[aV.map []])=some (sl 11 aM (l.take (i+1)))from DC 11 aM l (by omega),bS,quiet_of hcs,bS,quiet_of hlv,bS,cu,bS]
  refine Bf (mj (aiE (L:=eE r au l i) (by omega) K1) ?_)
  rintro q ⟨w,s',rfl,K2⟩
  have hc:=Wh (hs_eq (show _=Sl rN 1 hL (lW r au l i)*(blk s.length (.map (iL (lZ (eE r au l i))))*(blk ib (.box [.om gid,hL,.om eA])*R)) by ac_rfl) K2)
  have d1:A.deref (.op ib 1) s'=some [hL,.om eA]:=xu (hs_eq (show _=blk ib (.box [.om gid,hL,.om eA])*(blk s.length (.map (iL (lZ (eE r au l i))))*(Sl rN 1 hL (lW r au l i)*R)) by ac_rfl) K2) 1
  have hp1:A.an 0 [hL,.om eA]=some hL:=hc
  have KB:Hs aX ay s' (rN [.om s.length] (lZ (eE r au l i))*(Sl rN 1 hL (lW r au l i)*(blk ib (.box [.om gid,hL,.om eA])*R))):=by
   refine Ek.2 ⟨s.length,?_⟩
   rw[oT]
   exact jC.2 ⟨rfl,hs_eq (by ac_rfl) K2⟩
  have KA:Hs aX ay s' (Sl rN 1 hL (lW r au l i)*(els rN [[.om s.length]] [lZ (eE r au l i)]*(blk ib (.box [.om gid,hL,.om eA])*R))):=by
   rw[Ks]
   exact hs_eq (by ac_rfl) KB
  obtain⟨hL',s2,e3,K3⟩:=BZ (most:=140737488355328 / 8) KA (by unfold lW;simp;omega) (fun _ _ _ _=>trivial)
  obtain⟨s3,e4,K4⟩:=Gd (o:=1) (new:=[hL']) (cs':=[.om gid,hL',.om eA]) (hs_eq (show _=blk ib (.box [.om gid,hL,.om eA])*(Sl rN 1 hL' (lW r au l i++[lZ (eE r au l i)])*R) by ac_rfl) K3) rfl
  have pP:=Wh K3
  simp only[qZ,List.getD_cons_zero,List.getD_cons_succ]
  rw[show A.gZ (.op ib 0)=some (.op ib 0)from rfl,bS,show A.bA 1 (.op ib 0)=some (.op ib 1)from rfl,bS,d1,bS,hp1,bS,show((((A.cell (U.om s.length)).bind fun v=>some [v]).bind fun Gw=>(A.splice 0 Gw [U.nm]).bind fun rE=>some rE).bind fun cs=>some (U.sl 1 (chunks 1 1 cs)))=some (.sl 1 [[.om s.length]])from rfl,bS,e3,bS,bS,show A.bA 1 (.op ib 0)=some (.op ib 1)from rfl,bS]
  simp only
  rw[pP,bS,bS,e4,bS,bS]
  refine⟨_,rfl,_,_,rfl,hL',rfl,?_⟩
  rw[show lW r au l (i+1)=lW r au l i++[lZ (eE r au l i)] by unfold lW;rw[List.range_succ,List.map_append];rfl]
  exact K4
 ·rintro v s ⟨hL,rfl,K⟩
  simp only[List.getD_cons_zero,List.getD_cons_succ]
  rw[eO,bS,eC]
  exact⟨_,rfl,by simp,_,_,hL,rfl,K⟩
 ·exact hs_eq (by show _=blk ib (.box [.om gid,.aH,.om eA])*(Sl rN 1 .aH []*R);ac_rfl) (qx (E:=rN) (sz:=1) (v:=.aH) K (.inl rfl))
def qX (m:List (aA×Int)):List U:=[.fm (iL m)]
def vu (S:List (Int×List aA)):List (U×U):=S.map fun p=>(eN p.1,sl 2 aK p.2)
def xA (r:bu) (au:List bO) (l:List aO) (lv:U):U:=.rp [.fm (iL (sF r r.units)),lv,.fm (vu (n5 r r.units))]
theorem VT (σ:Heap) (n d:Nat) (g:List (aA×Int)):A.tF σ n d (iL g)=some (iL g):=Kt d fun p hp=>by
 obtain⟨q,_,rfl⟩:=List.mem_map.1 hp
 exact⟨pY (uI _),gd _ _⟩
theorem VI {n:Nat} (hn:n≤ay.length) (d:Nat):∀{seg:List (List U)} {MS:List (List (aA×Int))} {R:HP},Hs aX ay s (els rN seg MS*R)→A.lG s n (d+1) seg=some (MS.map qX)
 |[],[],_,_=>by simp [A.lG]
 |[],_::_,R,H=>(jC.1 (show Hs aX ay s (pr False*R)from H)).1.elim
 |_::_,[],R,H=>(jC.1 (show Hs aX ay s (pr False*R)from H)).1.elim
 |e::seg,m::MS,R,H=>by
  have H1:Hs aX ay s (rN e m*(els rN seg MS*R)):=hs_eq (oT _ _ _) H
  obtain⟨id,H2⟩:=Ek.1 H1
  rw[oT]at H2
  obtain⟨he,H3⟩:=jC.1 H2
  subst he
  obtain⟨g1,g2⟩:=lB H3
  have ih:=VI hn d (jH H3)
  simp only[A.lG,A.fE,A.bT,if_neg (show ¬id<n by omega),g2,VT,Option.map_some,Option.bind_some,ih,List.map_cons]
  rfl
theorem ajd {n:Nat} (hn:n≤ay.length) (d:Nat) {hL:U} {MS:List (List (aA×Int))} {R:HP} (H:Hs aX ay s (Sl rN 1 hL MS*R)):∃lv,A.bT s n (d+2) hL=some lv∧(MS≠[]→lv=sl 1 qX MS):=by
 rcases sw H with⟨rfl,rfl|rfl,_⟩|⟨id,g,seg,rfl,hl,K⟩
 ·exact⟨.aH,by simp [A.bT],fun h=>absurd rfl h⟩
 ·exact⟨.ez,by simp [A.bT],fun h=>absurd rfl h⟩
 ·obtain⟨g1,g2⟩:=lB K
  have hf:=VI hn d (jH K)
  refine⟨.sl 1 (MS.map qX),?_,fun _=>rfl⟩
  simp only[A.bT,if_neg (show ¬id<n by omega),g2]
  rw[if_pos (by simp;omega),List.drop_zero,List.take_of_length_le (by omega),BG,hf]
  rfl
theorem Yu {n:Nat} (hn:n≤ay.length) (d:Nat):∀{es:List (Int×U)} {S:List (Int×List aA)} {R:HP},Hs aX ay s (jV es S*R)→A.tF s n (d+1) (nq es)=some (vu S)
 |[],[],_,_=>by simp [nq,vu,A.tF]
 |[],_::_,R,H=>(jC.1 (show Hs aX ay s (pr False*R)from H)).1.elim
 |_::_,[],R,H=>(jC.1 (show Hs aX ay s (pr False*R)from H)).1.elim
 |q::es,y::S,R,H=>by
  rw[jV]at H
  obtain⟨⟨h1,h2⟩,H1⟩:=jC.1 (hs_eq (show _=pr (q.1=y.1∧y.2≠[])*(Sl (fl aK) 2 q.2 y.2*(jV es S*R)) by ac_rfl) H)
  have ih:=Yu hn d (jH H1)
  obtain⟨a,b⟩:=q
  have hb:A.bT s n (d+1) b=some (sl 2 aK y.2):=by
   rcases uE H1 with⟨e0,_,_⟩|⟨id,g,e,K⟩
   ·exact absurd e0 h2
   ·simp only at e;subst e
    obtain⟨g1,g2⟩:=lB K
    exact Xo uI g2 (by omega) d
  show A.tF s n (d+1) ((eN a,b)::nq es)=_
  have ha:A.bT s n (d+1) (eN a)=some (eN a):=gd _ _ s n (d+1)
  simp only[A.tF,ha,hb,Option.bind_some,ih,Option.map_some]
  simp only at h1
  subst h1
  rfl
theorem Yr (hr:fU r) (hp:cH mV au) (hz:jT r au l=0) (σ:Heap):∃lv,FL [.agg (aP r),sl 3 eB au,sl 11 aM l] σ=some (xA r au l lv,σ)∧(l≠[]→lv=sl 1 qX (lW r au l l.length)):=by
 have dP:=(jP hz).1
 have run:∃b,JS (.agg (aP r)) (sl 3 eB au) (sl 11 aM l) σ=some b∧∃lv,b=(xA r au l lv,σ)∧(l≠[]→lv=sl 1 qX (lW r au l l.length)):=by
  unfold JS
  have K1:=yI (b:=aV.map []) (AB (B:=aX) σ) trivial
  have K2:=yI (b:=aV.map []) K1 trivial
  have K3:=yI (b:=aV.box [.om σ.length,.aH,.om (σ++[aV.map []]).length]) K2 trivial
  rw[show A.cells 2 (.agg (aP r))=some (aP r)from rfl,bS,show((((A.cell (U.om σ.length)).bind fun v=>some [v]).bind fun c2=>(A.splice 0 c2 [U.nm,U.aH,U.nm]).bind fun c3=>((A.cell (U.om (σ++[aV.map []]).length)).bind fun v=>some [v]).bind fun c4=>(A.splice 2 c4 c3).bind fun c5=>some c5).bind fun cs=>some (U.agg cs))=some (.agg [.om σ.length,.aH,.om (σ++[aV.map []]).length])from rfl,bS,show A.cells 3 (.agg [.om σ.length,.aH,.om (σ++[aV.map []]).length])=some [.om σ.length,.aH,.om (σ++[aV.map []]).length]from rfl,bS,show A.an 1 (aP r)=some (sl 4 bQ r.units)from rfl,bS,cu,bS]
  refine mj (af5 (gid:=σ.length) (eA:=(σ++[aV.map []]).length) hr dP (hs_eq (by show _=blk ((σ++[aV.map []])++[aV.map []]).length _*(blk σ.length (.map [])*(blk (σ++[aV.map []]).length (.map [])*(emp*emp)));simp only[O6];ac_rfl) K3)) ?_
  rintro q ⟨w,s',es,rfl,K4⟩
  simp only[qZ,List.getD_cons_zero,List.getD_cons_succ]
  rw[cu,bS]
  refine mj (ahg hr hp hz K4) ?_
  rintro q ⟨w,s',hL,rfl,K5⟩
  simp only[qZ]
  obtain⟨gb1,Zh⟩:=lB K5
  have K6:=jH K5
  obtain⟨lv,f1,f2⟩:=ajd (n:=σ.length) (Nat.le_refl _) 5 K6
  obtain⟨gg1,gg2⟩:=lB (jH K6)
  obtain⟨gs1,gs2⟩:=lB (jH (jH K6))
  have f3:=Yu (n:=σ.length) (Nat.le_refl _) 5 (jH (jH (jH K6)))
  refine⟨_,?_,lv,rfl,fun hne=>f2 (fun q=>?_)⟩
  ·refine KK K5 ?_ (fun e=>?_)
   ·simp only[A.bT,if_neg (show ¬((σ++[aV.map []])++[aV.map []]).length<σ.length by simp),Zh,List.drop_zero,A.sB,if_neg (show ¬σ.length<σ.length by omega),gg2,VT,Option.map_some,Option.bind_some,f1,if_neg (show ¬(σ++[aV.map []]).length<σ.length by simp),gs2,f3]
    rfl
   ·subst e
    have:=(List.getElem?_eq_some_iff.1 Zh).1
    simp at this;omega
  ·have:(lW r au l l.length).length=0:=by rw[q];rfl
   unfold lW at this
   simp at this
   exact hne this
 obtain⟨b,h1,lv,rfl,h2⟩:=run
 refine⟨lv,wrap_eq rfl ?_ (jK _),h2⟩
 rw[BX]
 exact h1
end
end
section
open HP
theorem OA {f:aA→Int} {k:aA}:∀(ks:List aA) (m:List (aA×Int)),cr k (ks.foldl (fun m j=>gf j (f j) m) m)=if k∈ks then some (f k)else cr k m
 |[],m=>by simp
 |j::ks,m=>by
  rw[List.foldl_cons,OA ks,OC]
  by_cases h1:k∈ks
  ·simp [h1]
  ·by_cases h2:k=j
   ·subst h2;simp [h1]
   ·simp [h1,h2]
theorem agS {r:bu} (h:dO r=0) (au:List bO) (l:List aO) (i:Nat) (k:aA):(cr k (lZ (eE r au l i))).getD 0=nR (eE r au l i) k:=by
 unfold eE lZ
 rw[Xw h,List.foldl_map,OA]
 by_cases hk:k∈jI r
 ·rw[if_pos hk,JN hk];rfl
 ·rw[if_neg hk,Uf hk];rfl
theorem VV {r:bu} (h:dO r=0):∀(us:List bX) (g:List (aA×Int)),(∀u∈us,u∈r.units)→us.foldl (fun g u=>oF u (pZ r u) g) g=(us.flatMap (lz r.bz)).foldl (fun m j=>gf j (fP r j) m) g
 |[],g,_=>rfl
 |u::us,g,hu=>by
  rw[List.foldl_cons,List.flatMap_cons,List.foldl_append,VV h us _ fun v hv=>hu v (by simp [hv])]
  congr 1
  unfold oF lz
  rw[List.foldl_map]
  have key:∀(ps:List dI) (g:List (aA×Int)),(∀x∈ps,x∈(eP u.profile r.bz).1.params)→ps.foldl (fun g x=>gf (tN u x) x.group g) g=ps.foldl (fun g x=>gf (⟨u.number,x.name⟩:aA) (fP r ⟨u.number,x.name⟩) g) g:=by
   intro ps
   induction ps with
   |nil=>intro g _;rfl
   |cons x ps ih=>
    intro g hx
    rw[List.foldl_cons,List.foldl_cons,ih _ fun y hy=>hx y (by simp [hy])]
    congr 1
    unfold fP
    rw[N5 h (hu u (by simp)) (hx x (by simp))]
    rfl
  exact key _ g fun x hx=>hx
theorem agP {r:bu} {k:aA} (h:(jB r k).2=false):fP r k=0:=by
 unfold fP
 unfold jB at h ⊢
 cases hf:r.units.find? fun u=>decide (u.number=k.unit)with
 |none=>rfl
 |some u=>
  rw[hf,Option.elim_some]at h
  rw[Option.elim_some]
  unfold tC at h ⊢
  cases hq:(eP u.profile r.bz).1.params.find? fun x=>decide (x.name=k.param)with
  |none=>rfl
  |some x=>rw[hq]at h;simp at h
theorem agO {r:bu} (h:dO r=0) (k:aA):(cr k (sF r r.units)).getD 0=fP r k:=by
 unfold sF
 rw[VV h r.units [] fun u hu=>hu,show r.units.flatMap (lz r.bz)=jI r from rfl,OA]
 by_cases hk:k∈jI r
 ·rw[if_pos hk];rfl
 ·rw[if_neg hk]
  have:=OQ h k
  rw[decide_eq_false hk]at this
  rw[agP this];rfl
theorem JU {κ ν:Type} [DecidableEq κ] {k:κ}:∀(a b:List (κ×ν)),cr k (a++b)=(cr k a).or (cr k b)
 |[],b=>by simp [cr]
 |(x,v)::a,b=>by
  rw[List.cons_append,cr,cr]
  by_cases e:k=x
  ·rw[if_pos e,if_pos e];rfl
  ·rw[if_neg e,if_neg e,JU a b]
theorem Xa (r:bu) {u:bX}:∀(us:List bX) (S:List (Int×List aA)),(us.map (·.number)).Pairwise (·<·)→cr u.number S=none→u∈us→cr u.number (us.foldl (fun S u=>vB u (pZ r u) S) S)=if fT u (pZ r u)=[]then none else some (fT u (pZ r u))
 |[],S,_,_,hu=>by simp at hu
 |v::us,S,hp,hS,hu=>by
  have hp':=List.pairwise_cons.1 (by simpa using hp:(v.number::us.map (·.number)).Pairwise (·<·))
  have akW:∀(us:List bX) (S:List (Int×List aA)),(∀w∈us,w.number≠u.number)→cr u.number (us.foldl (fun S u=>vB u (pZ r u) S) S)=cr u.number S:=by
   intro us
   induction us with
   |nil=>intro S _;rfl
   |cons w us ih=>
    intro S hw
    rw[List.foldl_cons,ih _ fun z hz=>hw z (by simp [hz])]
    unfold vB
    split
    ·rfl
    ·rw[JU]
     have:cr u.number [(w.number,fT w (pZ r w))]=none:=by
      simp only[cr];rw[if_neg (fun e=>hw w (by simp) e.symm)]
     rw[this];cases cr u.number S<;>rfl
  rw[List.foldl_cons]
  by_cases e:u=v
  ·subst e
   rw[akW us _ fun w hw e=>by
    have:=hp'.1 w.number (List.mem_map.2 ⟨w,hw,rfl⟩)
    omega]
   unfold vB
   split
   ·exact hS
   ·rw[JU,hS];simp [cr]
  ·have ZI:u∈us:=by
    simp only[List.mem_cons]at hu
    exact hu.resolve_left e
   refine Xa r us _ hp'.2 ?_ ZI
   have hlt:=hp'.1 u.number (List.mem_map.2 ⟨u,ZI,rfl⟩)
   unfold vB
   split
   ·exact hS
   ·rw[JU,hS]
    simp only[cr,Option.none_or]
    rw[if_neg (by omega)]
theorem af9 {r:bu} (h:dO r=0) {u:bX} (hu:u∈r.units):oA r u.number=fT u (pZ r u):=by
 unfold oA jI
 rw[List.filter_flatMap]
 have one:(lz r.bz u).filter (fun k=>decide (k.unit=u.number)&&decide (fP r k=1))=fT u (pZ r u):=by
  unfold lz fT pZ
  rw[List.filter_map]
  have:(eP u.profile r.bz).1.params.filter ((fun k=>decide (k.unit=u.number)&&decide (fP r k=1))∘fun x=>(⟨u.number,x.name⟩:aA))=(eP u.profile r.bz).1.params.filter fun x=>decide (x.group=1):=by
   refine List.filter_congr fun x hx=>?_
   simp only[Function.comp,decide_true,Bool.true_and]
   unfold fP
   rw[N5 h hu hx]
  rw[this];rfl
 have other:∀v∈r.units,v≠u→(lz r.bz v).filter (fun k=>decide (k.unit=u.number)&&decide (fP r k=1))=[]:=by
  intro v hv hne
  rw[List.filter_eq_nil_iff]
  intro k hk q
  obtain⟨x,_,rfl⟩:=List.mem_map.1 hk
  simp only[Bool.and_eq_true,decide_eq_true_eq]at q
  exact hne (Vs (DB h) hv hu q.1)
 have key:∀(us:List bX),(us.map (·.number)).Pairwise (·<·)→(∀v∈us,v∈r.units)→us.flatMap (fun v=>(lz r.bz v).filter fun k=>decide (k.unit=u.number)&&decide (fP r k=1))=if u∈us then fT u (pZ r u)else[]:=by
  intro us
  induction us with
  |nil=>intro _ _;simp
  |cons v us ih=>
   intro hp hm
   have hp':=List.pairwise_cons.1 (by simpa using hp:(v.number::us.map (·.number)).Pairwise (·<·))
   rw[List.flatMap_cons,ih hp'.2 fun w hw=>hm w (by simp [hw])]
   by_cases e:v=u
   ·subst e
    have hnot:¬v∈us:=fun q=>by
     have:=hp'.1 v.number (List.mem_map.2 ⟨v,q,rfl⟩)
     omega
    rw[one,if_neg hnot,if_pos (by simp),List.append_nil]
   ·rw[other v (hm v (by simp)) e,List.nil_append]
    have:(u∈v::us)↔u∈us:=by
     simp only[List.mem_cons]
     exact⟨fun q=>q.resolve_left fun q=>e q.symm,.inr⟩
    simp only[this]
 rw[key r.units (DB h) fun v hv=>hv,if_pos hu]
theorem aj0 {r:bu} (h:dO r=0) {u:bX} (hu:u∈r.units):cr u.number (n5 r r.units)=if oA r u.number=[]then none else some (oA r u.number):=by
 rw[af9 h hu]
 exact Xa r r.units [] (DB h) rfl hu
end
section
open HP
section
variable {r : bu} {au : List bO} {l : List aO} (hr : fU r) (hz : jT r au l = 0) (hne : l ≠ [])
def dJ (r:bu) (au:List bO) (l:List aO):U:=xA r au l (sl 1 qX (lW r au l l.length))
theorem ag0 {i:Nat} (hi:i<l.length):(lW r au l l.length)[i]? =some (lZ (eE r au l i)):=by
 unfold lW
 rw[List.getElem?_map,List.getElem?_range hi];rfl
theorem Gh:A.gZ (dJ r au l)=some (dJ r au l):=rfl
theorem aju:A.bA 0 (dJ r au l)=some (.rp [.fm (iL (sF r r.units)),sl 1 qX (lW r au l l.length),.fm (vu (n5 r r.units))]):=rfl
theorem Qd:A.bA 1 (dJ r au l)=some (.rp [sl 1 qX (lW r au l l.length),.fm (vu (n5 r r.units))]):=rfl
theorem ajv:A.bA 2 (dJ r au l)=some (.rp [.fm (vu (n5 r r.units))]):=rfl
theorem aj1 (a b:U):A.an 0 [.fm (iL (sF r r.units)),a,b]=some (.fm (iL (sF r r.units))):=rfl
theorem Qt (b:U):A.an 0 [sl 1 qX (lW r au l l.length),b]=some (sl 1 qX (lW r au l l.length)):=rfl
theorem aj2:A.an 0 [.fm (vu (n5 r r.units))]=some (.fm (vu (n5 r r.units))):=rfl
theorem OU (dP:dO r=0) (i:Nat) (k:aA) (σ:Heap):A.look (.s [0,2]) (.fm (iL (lZ (eE r au l i)))) (.agg (aK k)) (.int .i64 0) σ=some (.int .i64 (nR (eE r au l i) k)):=by
 have:=OM (σ:=σ) (eK:=eK) (eV:=eN) (l:=lZ (eE r au l i)) KX k 0 rfl
 rw[agS dP au l i k]at this
 exact this
theorem agU (dP:dO r=0) (k:aA) (σ:Heap):A.look (.s [0,2]) (.fm (iL (sF r r.units))) (.agg (aK k)) (.int .i64 0) σ=some (.int .i64 (fP r k)):=by
 have:=OM (σ:=σ) (eK:=eK) (eV:=eN) (l:=sF r r.units) KX k 0 rfl
 rw[agO dP k]at this
 exact this
theorem ah5 (dP:dO r=0) {u:bX} (hu:u∈r.units) (σ:Heap):A.look .i (.fm (vu (n5 r r.units))) (.int .i64 u.number) .aH σ=some (if oA r u.number=[]then .aH else sl 2 aK (oA r u.number)):=by
 have h1:A.find .i (eN u.number) (vu (n5 r r.units))=some ((cr u.number (n5 r r.units)).map fun ks=>sl 2 aK ks):=Ec (eV:=fun ks:List aA=>sl 2 aK ks) vU u.number (n5 r r.units)
 have h2:A.find .i (.int .i64 u.number) (vu (n5 r r.units))=some ((cr u.number (n5 r r.units)).map fun ks=>sl 2 aK ks):=h1
 simp only[A.look,show A.jS .i (.int .i64 u.number)=true from rfl,cond_true,A.entries,bS,h2,Option.map_some]
 rw[aj0 dP hu]
 by_cases e:oA r u.number=[]
 ·rw[if_pos e,if_pos e];rfl
 ·rw[if_neg e,if_neg e];rfl
theorem P3 (dP:dO r=0) {i:Nat} (hi:i<l.length):A.aN 1 (sl 1 qX (lW r au l l.length)) (.int .i64 (i:Int))=some (.rp (qX (lZ (eE r au l i)))):=dR (ag0 hi)
theorem af8 (dP:dO r=0) (u:Int):(oA r u).length≤16000:=by
 unfold oA
 exact Nat.le_trans (List.length_filter_le _ _) (FU dP)
include hz
theorem agD {i:Nat} (hi:i<l.length) (k:aA) (σ:Heap):uz [.agg (aK k),.rp [dJ r au l],.rp [.int .i64 (i:Int)]] σ=some (.bool (decide (0<nR (eE r au l i) k)),σ):=by
 have dP:=(jP hz).1
 refine wrap_eq (v:=.bool (decide (0<nR (eE r au l i) k))) rfl ?_ (jK _)
 rw[show A.bY [] [.agg (aK k),.rp [dJ r au l],.rp [.int .i64 (i:Int)]]=[.agg (aK k),.rp [dJ r au l],.rp [.int .i64 (i:Int)]]from by simp [A.bY]]
 show Mg _ _ _ σ=_
 unfold Mg
 rw[show A.cells 2 (.agg (aK k))=some (aK k)from rfl,bS,iw,bS,show A.an 0 [dJ r au l]=some (dJ r au l)from rfl,bS,Gh,bS,Qd,bS,iw,bS,Qt,bS,iw,bS,show A.an 0 [.int .i64 (i:Int)]=some (.int .i64 (i:Int))from rfl,bS,P3 dP hi,bS,iw,bS,show A.an 0 (qX (lZ (eE r au l i)))=some (.fm (iL (lZ (eE r au l i))))from rfl,bS,show A.az 0 2 (aK k)=some (.agg (aK k))from rfl,bS,OU dP,bS,B7,bS]
 exact bK _ _
theorem PS {i:Nat} (hi:i<l.length) {u:bX} (hu:u∈r.units) (σ:Heap):sY [dJ r au l,.int .i64 u.number,.int .i64 (i:Int)] σ=some (.bool (cG r au l i u.number),σ):=by
 have dP:=(jP hz).1
 refine wrap_eq (v:=.bool (cG r au l i u.number)) rfl ?_ (jK _)
 rw[show A.bY [] [dJ r au l,.int .i64 u.number,.int .i64 (i:Int)]=[dJ r au l,.int .i64 u.number,.int .i64 (i:Int)]from by simp [A.bY]]
 show IT _ _ _ σ=_
 unfold IT
 have hd:∀x∈oA r u.number,(A.tab (fun _ _=>none) [(229,uz),(229,uz)]) 229 ((.agg (aK x):U)::[.rp [dJ r au l],.rp [.int .i64 (i:Int)]]) σ=some (.bool (decide (0<nR (eE r au l i) x)),σ):=fun x _=>agD hz hi x σ
 have RQ:=Z7 (A.tab (fun _ _=>none) [(229,uz),(229,uz)]) (oA r u.number) (by have:=af8 (r:=r) dP u.number;unfold aY;omega) 229 [.rp [dJ r au l],.rp [.int .i64 (i:Int)]] (fun k=>decide (0<nR (eE r au l i) k)) σ hd
 rw[show(((A.cell (dJ r au l)).bind fun v=>some [v]).bind fun cs=>some (U.rp cs))=some (.rp [dJ r au l])from rfl,bS,show(((A.cell (.int .i64 (i:Int))).bind fun v=>some [v]).bind fun cs=>some (U.rp cs))=some (.rp [.int .i64 (i:Int)])from rfl,bS,iw,bS,show A.an 0 [dJ r au l]=some (dJ r au l)from rfl,bS,Gh,bS,ajv,bS,iw,bS,aj2,bS,ah5 dP hu,bS]
 unfold cG KV
 by_cases e:oA r u.number=[]
 ·rw[if_pos e,show A.aT .aH=some (.int .i64 0)from rfl,bS,B7,bS,decide_eq_false (by omega)]
  simp only[Lz,bS,sQ]
  rw[e]
  exact bK _ _
 ·rw[if_neg e,cu,bS,B7,bS,decide_eq_true (by have:=List.length_pos_iff.2 e;omega)]
  simp only[gT,bS]
  rw[quiet_of RQ,bS,show A.not (.bool ((oA r u.number).any fun k=>decide (0<nR (eE r au l i) k)))=some (.bool (!(oA r u.number).any fun k=>decide (0<nR (eE r au l i) k)))from rfl,bS]
  simp only[sR,bS]
  rw[bK]
  have:(oA r u.number).isEmpty=false:=by cases hq:oA r u.number<;>simp_all
  rw[this];rfl
include hr
theorem Xd {c:aO} (hc:c.aJ.length≤900000) (u:Int):KS rA [dJ r au l,.agg (aM c),.int .i64 u] aF 8 (pE r c u):=by
 have dP:=(jP hz).1
 intro ay σ R H
 have run:∃q:U×Heap,IQ (dJ r au l) (.agg (aM c)) (.int .i64 u) σ=some q∧Hs jr ay q.2 (Sl (fl aF) 8 q.1 (pE r c u)*R):=by
  unfold IQ pE
  rw[show A.cells 11 (.agg (aM c))=some (aM c)from rfl,bS,show A.an 10 (aM c)=some (sl 8 aF c.aJ)from rfl,bS,cu,bS]
  refine mj (Q:=fun q=>∃h w,q.1=.exit 0∧q.2.1=[h,w]∧Hs jr ay q.2.2 (Sl (fl aF) 8 h (c.aJ.filter fun m=>decide (m.key.unit=u)&&decide (¬(fP r m.key=1)))*R)) (mY c.aJ (fun i v s=>∃h,v=[h,.int .i64 (i:Int)]∧Hs jr ay s (Sl (fl aF) 8 h ((c.aJ.take i).filter fun m=>decide (m.key.unit=u)&&decide (¬(fP r m.key=1)))*R)) ?_ ?_ ⟨.aH,rfl,qx H (.inl rfl)⟩) ?_
  ·rintro i m w s hx ⟨h,rfl,K⟩
   have hi:=(List.getElem?_eq_some_iff.1 hx).1
   simp only[List.getD_cons_zero,List.getD_cons_succ]
   rw[eR hx,bS,fO,dR hx,bS,iw,bS,show A.az 0 8 (aF m)=some (.agg (aF m))from rfl,bS,show A.cells 8 (.agg (aF m))=some (aF m)from rfl,bS,sx m _ rfl,bS,show A.an 0 (aF m)=some (.int .i64 m.key.unit)from rfl,bS,l5,bS]
   have Gk:∀(K:U→Option LS),((A.guard (.bool (decide (m.key.unit=u))) true (some (dJ r au l)) aj).bind fun bU=>
    (A.guard (.bool (decide (m.key.unit=u))) true (A.gZ bU) aj).bind fun bl=>
    (A.guard (.bool (decide (m.key.unit=u))) true (A.bA 0 bl) aj).bind fun bZ=>
    (A.guard (.bool (decide (m.key.unit=u))) true ((A.deref bZ s).bind fun eu=>A.an 0 eu) aj).bind fun cg=>
    (A.guard (.bool (decide (m.key.unit=u))) true (A.az 0 2 (aF m)) aj).bind fun bI=>
    (A.guard (.bool (decide (m.key.unit=u))) true (A.look (.s [0,2]) cg bI ah s) aj).bind fun bg=>
    (A.guard (.bool (decide (m.key.unit=u))) true (A.neq .i bg aI) aj).bind fun bB=>
    (A.pick (.bool (decide (m.key.unit=u))) bB aD).bind K)=K (.bool (decide (m.key.unit=u)&&decide (¬(fP r m.key=1)))):=by
    intro K
    cases decide (m.key.unit=u)
    ·simp only[Lz,sQ,bS,Bool.false_and]
    ·simp only[gT,bS]
     rw[Gh,bS,aju,bS,iw,bS,aj1,bS,show A.az 0 2 (aF m)=some (.agg (aK m.key))from rfl,bS,agU dP,bS,gB]
     simp only[bS,sR,Bool.true_and]
   rw[Gk]
   have e:(c.aJ.take (i+1)).filter (fun m=>decide (m.key.unit=u)&&decide (¬(fP r m.key=1)))=(c.aJ.take i).filter (fun m=>decide (m.key.unit=u)&&decide (¬(fP r m.key=1)))++if(decide (m.key.unit=u)&&decide (¬(fP r m.key=1)))=true then[m]else[]:=by
    rw[List.take_add_one,hx,Option.toList_some,List.filter_append,List.filter_cons,List.filter_nil]
   cases hh:(decide (m.key.unit=u)&&decide (¬(fP r m.key=1)))
   ·rw[hh]at e
    rw[eC,bS]
    simp only[List.getD_cons_zero,List.getD_cons_succ]
    rw[dB hx (by unfold aY;omega),bS]
    refine⟨_,_,rfl,h,rfl,?_⟩
    rw[e]
    simpa using K
   ·rw[hh]at e
    rw[fO,show A.az 0 8 (aF m)=some (.agg (aF m))from rfl,bS,F0,bS]
    have hfl:=List.length_filter_le (fun m:aS=>decide (m.key.unit=u)&&decide (¬(fP r m.key=1))) (c.aJ.take i)
    obtain⟨h',s',e1,K2⟩:=QE m (by rw[List.length_take]at hfl;omega) (Pn T3 [m]) K
    rw[e1,bS,bS]
    simp only[List.getD_cons_zero,List.getD_cons_succ]
    rw[dB hx (by unfold aY;omega),bS]
    refine⟨_,_,rfl,h',rfl,?_⟩
    rw[e,if_pos rfl]
    exact K2
  ·rintro w s ⟨h,rfl,K⟩
   simp only[List.getD_cons_zero,List.getD_cons_succ]
   rw[eO,bS,eC]
   refine⟨_,rfl,by simp,h,_,rfl,rfl,?_⟩
   rw[List.take_length]at K;exact K
  ·rintro⟨e,w,s⟩ ⟨h,w',h1,h2,K⟩
   simp only at h1 h2 K
   subst h1;subst h2
   exact⟨_,rfl,K⟩
 obtain⟨⟨v,σ'⟩,h1,h2⟩:=run
 refine⟨v,σ',wrap_eq rfl ?_ (jK _),h2⟩
 rw[show A.bY [.k,(.a eZ)] [dJ r au l,.agg (aM c),.int .i64 u]=[dJ r au l,.agg (aM c),.int .i64 u]from bH (jK _) (bH (oH rfl) rfl)]
 exact h1
end
theorem PW (r:bu) (au:List bO) (l:List aO):Fz (dJ r au l):=
 Yd (dL (Qh fun p hp=>by obtain⟨q,_,rfl⟩:=List.mem_map.1 hp;exact⟨pY (uI _),gd _ _⟩)
  (dL (xF (fun m=>dL (Qh fun p hp=>by obtain⟨q,_,rfl⟩:=List.mem_map.1 hp;exact⟨pY (uI _),gd _ _⟩) qE) _)
  (dL (Qh fun p hp=>by obtain⟨q,_,rfl⟩:=List.mem_map.1 hp;exact⟨gd _ _,xF uI _⟩) qE)))
theorem agc {r:bu} {au:List bO} {l:List aO} (hr:fU r) (hz:jT r au l=0) {c:aO} (hc:c.aJ.length≤900000) (u:Int) (σ:Heap):A.quiet ((A.ij (.s 8) rA) [dJ r au l,.agg (aM c),.int .i64 u] σ) σ=some (sl 8 aF (pE r c u)):=
 quiet_of (FV (σ:=σ) Ai (cB:=[.k,(.a eZ)]) (uW:=[dJ r au l,.agg (aM c),.int .i64 u]) (ts:=[dJ r au l,.agg (aM c),.int .i64 u]) ⟨uN (PW r au l) rfl,uN (pY (Ku _)) rfl,BW _,trivial⟩ (Xd hr hz hc u))
end
end Go.Proofs.YtphgchakmkankaaGreat
