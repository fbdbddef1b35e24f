/- Parts of the proof of CueMarksMatchSpec, in order. -/
import Derived.Orders
import Derived.Below
import Derived.WalkKit
import Derived.Laws.StructEq
import Derived.Laws.Append
import Derived.Laws.AppendOwn
import Derived.Test.YtphgchakmkankaaGreatRows
import Derived.KernelRfl
import Derived.Lib.Bytealg
import Derived.Sort.Defs
import Derived.Lib.BitFns
import Derived.Test.YtphgchakmkankaaGreatShelf
import Derived.Lib.Overlaps
import Derived.IntWalk
import Derived.Lib.Strings
import Derived.Test.YtphgchakmkankaaGreatKCueMarksMatchSpec3
namespace Go.Proofs.YtphgchakmkankaaGreat
set_option linter.unusedVariables false
set_option linter.unusedSimpArgs false
set_option linter.unusedSectionVars false
section
inductive Ct where
 |s (sz:Nat) (es:List (List U))
 |m (es:List (U×U))
 |b (cs:List U)
def sI:U→Option Nat
 |.os id _ _ _ _=>some id
 |.om id=>some id
 |.op id _=>some id
 |_=>none
def Own (n:Nat) (σ:Heap) (p:U×Ct):Prop:=match p.2 with
 |.s sz es=>(p.1=.aH∧es=[])∨∃id g off a,p.1=.os id g sz off es.length∧n≤id∧σ[id]? =some (.arr g sz a)∧off≤a.length∧a.drop off=es
 |.m es=>∃id,p.1=.om id∧n≤id∧σ[id]? =some (.map es)
 |.b cs=>∃id,p.1=.op id 0∧n≤id∧σ[id]? =some (.box cs)
structure Hp (ay σ : Heap) (L : List (U × Ct)) : Prop where
 pre:∃bs,σ=ay++bs
 own:∀(i:Nat) p,L[i]? =some p→Own ay.length σ p
 sep:∀(i j:Nat) p q a,L[i]? =some p→L[j]? =some q→sI p.1=some a→sI q.1=some a→i=j
section
variable {ay σ σ' : Heap} {L : List (U × Ct)} {n : Nat}
theorem Ed (σ:Heap):Hp σ σ []:=⟨⟨[],by simp⟩,by simp,by simp⟩
theorem Gg {p:U×Ct} {a:Nat} (h:Own n σ p) (e:sI p.1=some a):n≤a∧a<σ.length:=by
 obtain⟨v,c⟩:=p
 cases c with
 |s sz es=>
  rcases h with⟨h1,_⟩|⟨id,g,off,x,h1,h2,h3,_⟩
  ·simp only at h1;subst h1;cases e
  ·simp only at h1;subst h1;injection e with e;subst e;exact⟨h2,(List.getElem?_eq_some_iff.1 h3).1⟩
 |m es=>obtain⟨id,h1,h2,h3⟩:=h;simp only at h1;subst h1;injection e with e;subst e;exact⟨h2,(List.getElem?_eq_some_iff.1 h3).1⟩
 |b es=>obtain⟨id,h1,h2,h3⟩:=h;simp only at h1;subst h1;injection e with e;subst e;exact⟨h2,(List.getElem?_eq_some_iff.1 h3).1⟩
theorem OX {p:U×Ct} (h:Own n σ p) (k:∀a,sI p.1=some a→σ'[a]? =σ[a]?):Own n σ' p:=by
 obtain⟨v,c⟩:=p
 cases c with
 |s sz es=>
  rcases h with h|⟨id,g,off,x,h1,h2,h3,h4⟩
  ·exact .inl h
  ·simp only at h1;subst h1;exact .inr ⟨id,g,off,x,rfl,h2,by rw[k id rfl];exact h3,h4⟩
 |m es=>obtain⟨id,h1,h2,h3⟩:=h;simp only at h1;subst h1;exact⟨id,rfl,h2,by rw[k id rfl];exact h3⟩
 |b es=>obtain⟨id,h1,h2,h3⟩:=h;simp only at h1;subst h1;exact⟨id,rfl,h2,by rw[k id rfl];exact h3⟩
theorem air (h:∃bs,σ=ay++bs) {id:Nat} (hn:ay.length≤id) (b:aV):∃bs,σ.set id b=ay++bs:=by
 obtain⟨bs,rfl⟩:=h
 exact⟨bs.set (id-ay.length) b,by rw[List.set_append_right _ _ hn]⟩
theorem KL (H:Hp ay σ L) {k id:Nat} {h h':U} {c c':Ct} {b:aV} (hk:L[k]? =some (h,c)) (hi:sI h=some id) (hi':sI h'=some id) (ho:Own ay.length (σ.set id b) (h',c')):Hp ay (σ.set id b) (L.set k (h',c')):=by
 have hid:=Gg (H.own k _ hk) hi
 have rj:=(List.getElem?_eq_some_iff.1 hk).1
 refine⟨air H.pre hid.1 b,fun i p hp=>?_,fun i j p q a hp hq e1 e2=>?_⟩
 ·rw[List.getElem?_set]at hp
  split at hp
  ·rename_i e;subst e;simp [rj]at hp;subst hp;exact ho
  ·rename_i e
   refine OX (H.own i p hp) fun a ha=>?_
   rw[List.getElem?_set]
   split
   ·rename_i e';subst e';exact absurd (H.sep k i _ _ id hk hp hi ha) e
   ·rfl
 ·have key:∀(i:Nat) (p:U×Ct),(L.set k (h',c'))[i]? =some p→sI p.1=some a→∃p',L[i]? =some p'∧sI p'.1=some a:=by
   intro i p hp e
   rw[List.getElem?_set]at hp
   split at hp
   ·rename_i e';subst e';simp [rj]at hp;subst hp;exact⟨_,hk,by rw[hi];rw[hi']at e;exact e⟩
   ·exact⟨p,hp,e⟩
  obtain⟨p',hp',e1'⟩:=key i p hp e1
  obtain⟨q',zH,Hf⟩:=key j q hq e2
  exact H.sep i j p' q' a hp' zH e1' Hf
theorem ajb (H:Hp ay σ L) {k:Nat} {h h':U} {c c':Ct} {b:aV} (hk:L[k]? =some (h,c)) (hi:sI h=none) (hi':sI h'=some σ.length) (ho:Own ay.length (σ++[b]) (h',c')):Hp ay (σ++[b]) (L.set k (h',c')):=by
 have rj:=(List.getElem?_eq_some_iff.1 hk).1
 refine⟨?_,fun i p hp=>?_,fun i j p q a hp hq e1 e2=>?_⟩
 ·obtain⟨bs,rfl⟩:=H.pre;exact⟨bs++[b],by simp⟩
 ·rw[List.getElem?_set]at hp
  split at hp
  ·rename_i e;subst e;simp [rj]at hp;subst hp;exact ho
  ·refine OX (H.own i p hp) fun a ha=>?_
   have:=(Gg (H.own i p hp) ha).2
   rw[List.getElem?_append_left this]
 ·have key:∀(i:Nat) (p:U×Ct),(L.set k (h',c'))[i]? =some p→sI p.1=some a→(i=k∧a=σ.length)∨(L[i]? =some p∧a<σ.length):=by
   intro i p hp e
   rw[List.getElem?_set]at hp
   split at hp
   ·rename_i e';subst e';simp [rj]at hp;subst hp;rw[hi']at e;injection e with e;exact .inl ⟨rfl,e.symm⟩
   ·exact .inr ⟨hp,(Gg (H.own i p hp) e).2⟩
  rcases key i p hp e1 with⟨a1,a2⟩|⟨a1,a2⟩<;>rcases key j q hq e2 with⟨b1,b2⟩|⟨b1,b2⟩
  ·omega
  ·omega
  ·omega
  ·exact H.sep i j p q a a1 b1 e1 e2
theorem WK (H:Hp ay σ L) {h':U} {c':Ct} {b:aV} (hi':sI h'=some σ.length) (ho:Own ay.length (σ++[b]) (h',c')):Hp ay (σ++[b]) (L++[(h',c')]):=by
 refine⟨?_,fun i p hp=>?_,fun i j p q a hp hq e1 e2=>?_⟩
 ·obtain⟨bs,rfl⟩:=H.pre;exact⟨bs++[b],by simp⟩
 ·rw[List.getElem?_append]at hp
  split at hp
  ·refine OX (H.own i p hp) fun a ha=>?_
   have:=(Gg (H.own i p hp) ha).2
   rw[List.getElem?_append_left this]
  ·have hp':=(List.getElem?_eq_some_iff.1 hp).2
   simp at hp';subst hp';exact ho
 ·have key:∀(i:Nat) (p:U×Ct),(L++[(h',c')])[i]? =some p→sI p.1=some a→(i=L.length∧a=σ.length)∨(L[i]? =some p∧a<σ.length):=by
   intro i p hp e
   rw[List.getElem?_append]at hp
   split at hp
   ·exact .inr ⟨hp,(Gg (H.own i p hp) e).2⟩
   ·obtain⟨h1,h2⟩:=List.getElem?_eq_some_iff.1 hp
    simp at h1 h2;subst h2;rw[hi']at e;injection e with e;exact .inl ⟨by omega,e.symm⟩
  rcases key i p hp e1 with⟨a1,a2⟩|⟨a1,a2⟩<;>rcases key j q hq e2 with⟨b1,b2⟩|⟨b1,b2⟩
  ·omega
  ·omega
  ·omega
  ·exact H.sep i j p q a a1 b1 e1 e2
theorem PY (H:Hp ay σ L) (sz:Nat):Hp ay σ (L++[(.aH,.s sz [])]):=by
 refine⟨H.pre,fun i p hp=>?_,fun i j p q a hp hq e1 e2=>?_⟩
 ·rw[List.getElem?_append]at hp
  split at hp
  ·exact H.own i p hp
  ·have hp':=(List.getElem?_eq_some_iff.1 hp).2
   simp at hp';subst hp';exact .inl ⟨rfl,rfl⟩
 ·have key:∀(i:Nat) (p:U×Ct),(L++[((.aH:U),Ct.s sz [])])[i]? =some p→sI p.1=some a→L[i]? =some p:=by
   intro i p hp e
   rw[List.getElem?_append]at hp
   split at hp
   ·exact hp
   ·have hp':=(List.getElem?_eq_some_iff.1 hp).2
    simp at hp';subst hp';cases e
  exact H.sep i j p q a (key i p hp e1) (key j q hq e2) e1 e2
theorem Qn (H:Hp ay σ L):Hp ay (σ++[.map []]) (L++[(.om σ.length,.m [])]):=by
 have hl:ay.length≤σ.length:=by obtain⟨bs,rfl⟩:=H.pre;simp
 exact WK H rfl ⟨σ.length,rfl,hl,by simp⟩
theorem ajR (H:Hp ay σ L) (cs:List U):Hp ay (σ++[.box cs]) (L++[(.op σ.length 0,.b cs)]):=by
 have hl:ay.length≤σ.length:=by obtain⟨bs,rfl⟩:=H.pre;simp
 exact WK H rfl ⟨σ.length,rfl,hl,by simp⟩
theorem ahV (H:Hp ay σ L) (n:Nat):Hp ay σ (L.take n):=by
 have key:∀(i:Nat) (p:U×Ct),(L.take n)[i]? =some p→L[i]? =some p:=by
  intro i p h
  rw[List.getElem?_take]at h
  split at h
  ·exact h
  ·cases h
 exact⟨H.pre,fun i p hp=>H.own i p (key i p hp),fun i j p q a hp hq=>H.sep i j p q a (key i p hp) (key j q hq)⟩
theorem Pu (H:Hp ay σ L):Hp ay σ []:=⟨H.pre,by simp,by simp⟩
theorem ai9 (H:Hp ay σ L) {k sz most:Nat} {h:U} {es ys:List (List U)} (hk:L[k]? =some (h,.s sz es)) (hm:es.length+ys.length≤most):∃h' σ',A.append sz most h (.sl sz ys) σ=some (h',σ')∧Hp ay σ' (L.set k (h',.s sz (es++ys))):=by
 have hl:ay.length≤σ.length:=by obtain⟨bs,rfl⟩:=H.pre;simp
 rcases H.own k _ hk with⟨h1,h2⟩|⟨id,g,off,a,h1,h2,h3,h4,h5⟩
 ·simp only at h1 h2
  subst h1 h2
  by_cases hy:ys=[]
  ·subst hy
   refine⟨.aH,σ,by simp [A.append,A.mX,A.elems],?_⟩
   have:L.set k (.aH,.s sz ([]++[]))=L:=by
    apply List.ext_getElem?
    intro i
    rw[List.getElem?_set]
    split
    ·rename_i e;subst e;rw[hk];simp [(List.getElem?_eq_some_iff.1 hk).1]
    ·rfl
   rw[this];exact H
  ·refine⟨.os σ.length ys.length sz 0 ys.length,σ++[.arr ys.length sz ys],?_,?_⟩
   ·have:ys.length≤most:=by simpa using hm
    simp [A.append,A.mX,A.elems,hy,this]
   ·exact ajb H hk rfl rfl (.inr ⟨σ.length,ys.length,0,ys,by simp,hl,by simp,by simp,by simp⟩)
 ·simp only at h1 h5
  subst h1
  have hid:=(List.getElem?_eq_some_iff.1 h3).1
  have h6:off+es.length=a.length:=by rw[←h5,List.length_drop];omega
  by_cases hy:ys=[]
  ·subst hy
   refine⟨.os id g sz off es.length,σ,?_,?_⟩
   ·have:es.length≤most:=by simpa using hm
    simp [A.append,A.mX,A.elems,h3,h6,this]
   ·have:L.set k (.os id g sz off es.length,.s sz (es++[]))=L:=by
     apply List.ext_getElem?
     intro i
     rw[List.getElem?_set]
     split
     ·rename_i e;subst e;rw[hk];simp [(List.getElem?_eq_some_iff.1 hk).1]
     ·rfl
    rw[this];exact H
  ·refine⟨.os id (g+ys.length) sz 0 (es.length+ys.length),σ.set id (.arr (g+ys.length) sz (es++ys)),?_,?_⟩
   ·have ht:(a.drop off).take es.length=es:=by rw[h5];simp
    have hp:0<ys.length:=List.length_pos_iff.2 hy
    simp [A.append,A.mX,A.elems,h3,h6,hm,hy,ht,hp]
   ·refine KL H hk rfl rfl (.inr ⟨id,g+ys.length,0,es++ys,by simp,h2,by simp [hid],by simp,by simp [h5]⟩)
theorem ahU (H:Hp ay σ L) {k:Nat} {h key v:U} {ek:A.EK} {es es':List (U×U)} (hk:L[k]? =some (h,.m es)) (hok:A.jS ek key=true) (he:A.upd ek key v es=some es'):∃σ',A.hG ek h key v σ=some σ'∧Hp ay σ' (L.set k (h,.m es')):=by
 obtain⟨id,h1,h2,h3⟩:=H.own k _ hk
 simp only at h1 h3
 subst h1
 have hid:=(List.getElem?_eq_some_iff.1 h3).1
 exact⟨σ.set id (.map es'),by simp [A.hG,hok,h3,he],KL H hk rfl rfl ⟨id,rfl,h2,by simp [hid]⟩⟩
theorem ahT (H:Hp ay σ L) {k:Nat} {h key:U} {ek:A.EK} {es es':List (U×U)} (hk:L[k]? =some (h,.m es)) (hok:A.jS ek key=true) (he:A.del ek key es=some es'):∃σ',A.Cm ek h key σ=some σ'∧Hp ay σ' (L.set k (h,.m es')):=by
 obtain⟨id,h1,h2,h3⟩:=H.own k _ hk
 simp only at h1 h3
 subst h1
 have hid:=(List.getElem?_eq_some_iff.1 h3).1
 exact⟨σ.set id (.map es'),by simp [A.Cm,hok,h3,he],KL H hk rfl rfl ⟨id,rfl,h2,by simp [hid]⟩⟩
theorem ahS (H:Hp ay σ L) {k:Nat} {h key z:U} {ek:A.EK} {es:List (U×U)} {r:Option U} (hk:L[k]? =some (h,.m es)) (hok:A.jS ek key=true) (he:A.find ek key es=some r):A.look ek h key z σ=some (r.getD z):=by
 obtain⟨id,h1,h2,h3⟩:=H.own k _ hk
 simp only at h1 h3
 subst h1
 rw[Ap ek hok h3,he];rfl
theorem aja (H:Hp ay σ L) (k:Nat) {id:Nat} {cs:List U} (hk:L[k]? =some (.op id 0,.b cs)) (off:Nat):A.deref (.op id off) σ=some (cs.drop off):=by
 obtain⟨i,h1,h2,h3⟩:=H.own k _ hk
 simp only[U.op.injEq]at h1
 obtain⟨rfl,_⟩:=h1
 simp [A.deref,h3]
theorem afE (H:Hp ay σ L) (k:Nat) {id:Nat} {cs cs' new:List U} (hk:L[k]? =some (.op id 0,.b cs)) (off:Nat) (hs:A.splice off new cs=some cs'):∃σ',A.storeAt (.op id off) new σ=some σ'∧Hp ay σ' (L.set k (.op id 0,.b cs')):=by
 obtain⟨i,h1,h2,h3⟩:=H.own k _ hk
 simp only[U.op.injEq]at h1
 obtain⟨rfl,_⟩:=h1
 have hid:=(List.getElem?_eq_some_iff.1 h3).1
 exact⟨σ.set id (.box cs'),by simp [A.storeAt,h3,hs],KL H hk rfl rfl ⟨id,rfl,h2,by simp [hid]⟩⟩
theorem ahy (H:Hp ay σ L) (k:Nat) {id:Nat} {cs:List U} (hk:L[k]? =some (.op id 0,.b cs)) (hz:jD cs) {cB:List Sh} {eo:Sh} {r:List U→Heap→Option (U×Heap)} {x v:U} (hx:Fz x) (HN:A.own x=false) (hs:A.xP v=true) (e:A.wrap true cB eo r [x,.rp cs] []=some (v,[])):A.wrap true cB eo r [x,.op id 0] σ=some (v,σ):=by
 obtain⟨i,h1,h2,h3⟩:=H.own k _ hk
 simp only[U.op.injEq]at h1
 obtain⟨rfl,_⟩:=h1
 refine F1 (args':=[x,.rp cs]) (by simp [A.own,A.vK]) ?_ (by rw[List.any_cons,HN];rfl) e hs
 have q:A.sB σ 0 7 cs=some cs:=by rw[D4];exact hz σ 0 7
 simp [A.fE,hx σ 0 8,A.bT,h3,q]
def Lv (ay σ:Heap) (r r':U):Prop:=(∀d,A.bT σ ay.length (d+1) r=some r')∧(σ=ay→r'=r)
theorem PX {r:U} (h:Fz r):Lv ay σ r r:=⟨fun d=>h σ _ (d+1),fun _=>rfl⟩
theorem Pp {α:Type} (H:Hp ay σ L) {k sz:Nat} {h:U} {c:α→List U} {l:List α} (hk:L[k]? =some (h,.s sz (l.map c))) (hc:∀x,jD (c x)):∃r',Lv ay σ h r'∧((r'=.aH∧l=[])∨r'=sl sz c l):=by
 rcases H.own k _ hk with⟨h1,h2⟩|⟨id,g,off,a,h1,h2,h3,h4,h5⟩
 ·simp only at h1 h2
  have:l=[]:=by simpa using h2
  subst this;subst h1
  exact⟨.aH,PX ai6,.inl ⟨rfl,rfl⟩⟩
 ·simp only at h1 h5
  subst h1
  refine⟨sl sz c l,⟨fun d=>?_,fun e=>?_⟩,.inr rfl⟩
  ·have h6:off+(l.map c).length=a.length:=by rw[←h5,List.length_drop];omega
   simp only[A.bT,Nat.not_lt.2 h2,if_false,h3]
   rw[if_pos (by simp;simp at h6;omega),BG,h5,List.take_of_length_le (Nat.le_refl _),QS hc]
   rfl
  ·subst e
   have:=(List.getElem?_eq_some_iff.1 h3).1
   omega
theorem Py {α:Type} {sz:Nat} {c:α→List U} {l:List α} {r:U} (h:(r=.aH∧l=[])∨r=sl sz c l):A.nn (.s sz) r=sl sz c l:=by
 rcases h with⟨rfl,rfl⟩|rfl<;>rfl
theorem bH {s1:Sh} {v1 w1:U} {ss:List Sh} {vs ws:List U} (h1:A.nn s1 v1=w1) (h2:A.bY ss vs=ws):A.bY (s1::ss) (v1::vs)=w1::ws:=by simp only[A.bY,h1,h2]
theorem kE:A.bY [] []=[]:=by simp [A.bY]
theorem oH {ss:List Sh} {vs ws:List U} (h:A.bY ss vs=ws):A.nn (.a ss) (.agg vs)=.agg ws:=by simp only[A.nn,h]
theorem Lm {ss:List Sh} {vs ws:List U} (h:A.bY ss vs=ws):A.nn (.t ss) (.aL vs)=.aL ws:=by simp only[A.nn,h]
theorem Kt (d:Nat):∀{es:List (U×U)},(∀p∈es,Fz p.1∧Fz p.2)→A.tF σ n d es=some es
 |[],_=>by simp [A.tF]
 |(k,v)::es,h=>by
  have h1:=h (k,v) (by simp)
  simp only[A.tF,h1.1 σ n d,h1.2 σ n d,Option.bind_some,Kt d (es:=es) (fun p hp=>h p (by simp [hp])),Option.map_some]
theorem Xp (H:Hp ay σ L) {k:Nat} {h:U} {es:List (U×U)} (hk:L[k]? =some (h,.m es)) (hc:∀p∈es,Fz p.1∧Fz p.2):Lv ay σ h (.fm es):=by
 obtain⟨id,h1,h2,h3⟩:=H.own k _ hk
 simp only at h1 h3
 subst h1
 refine⟨fun d=>?_,fun e=>?_⟩
 ·simp only[A.bT,Nat.not_lt.2 h2,if_false,h3,Kt d hc,Option.map_some]
 ·subst e
  have:=(List.getElem?_eq_some_iff.1 h3).1
  omega
theorem BU (H:Hp ay σ L) {r r':U} (h:Lv ay σ r r'):A.fin ay r σ=some (r',ay):=by
 obtain⟨bs,hb⟩:=H.pre
 subst hb
 by_cases nW:bs=[]
 ·subst nW
  rw[List.append_nil]at h ⊢
  rw[bK,h.2 rfl]
 ·unfold A.fin
  rw[if_neg (by simpa using nW),if_pos (by simp),h.1 7];rfl
end
section
variable {κ ν : Type} [DecidableEq κ]
def cr (k:κ):List (κ×ν)→Option ν
 |[]=>none
 |(k',v)::r=>if k=k' then some v else cr k r
def gf (k:κ) (v:ν):List (κ×ν)→List (κ×ν)
 |[]=>[(k,v)]
 |(k',v')::r=>if k=k' then(k,v)::r else(k',v')::gf k v r
def sK (k:κ):List (κ×ν)→List (κ×ν)
 |[]=>[]
 |(k',v')::r=>if k=k' then r else(k',v')::sK k r
variable {ek : A.EK} {eK : κ → U} {eV : ν → U} (hq : ∀ a b, A.ff ek (eK a) (eK b) = some (decide (a = b)))
include hq
theorem Ec (k:κ):∀l:List (κ×ν),A.find ek (eK k) (l.map fun p=>(eK p.1,eV p.2))=some ((cr k l).map eV)
 |[]=>rfl
 |(k',v)::r=>by
  simp only[List.map_cons,A.find,hq,Option.bind_some,cr]
  by_cases h:k=k'
  ·simp [h]
  ·simp [h,Ec k r]
theorem Qx (k:κ) (v:ν):∀l:List (κ×ν),A.upd ek (eK k) (eV v) (l.map fun p=>(eK p.1,eV p.2))=some ((gf k v l).map fun p=>(eK p.1,eV p.2))
 |[]=>rfl
 |(k',v')::r=>by
  simp only[List.map_cons,A.upd,hq,Option.bind_some,gf]
  by_cases h:k=k'
  ·simp [h]
  ·simp [h,Qx k v r]
theorem X9 (k:κ):∀l:List (κ×ν),A.del ek (eK k) (l.map fun p=>(eK p.1,eV p.2))=some ((sK k l).map fun p=>(eK p.1,eV p.2))
 |[]=>rfl
 |(k',v')::r=>by
  simp only[List.map_cons,A.del,hq,Option.bind_some,sK]
  by_cases h:k=k'
  ·simp [h]
  ·simp [h,X9 k r]
end
theorem ahG (k:IntKind) (a b:Int):A.ff .i (.int k a) (.int k b)=some (decide (a=b)):=by
 simp only[A.ff,A.oL,if_true]
 congr 1
theorem getD_map {α:Type} (o:Option α) (f:α→U) (d:α):(o.map f).getD (f d)=f (o.getD d):=by cases o<;>rfl
theorem isSome_map {α:Type} (o:Option α) (f:α→U):(o.map f).isSome=o.isSome:=by cases o<;>rfl
def uY {κ ν:Type} (eK:κ→U) (eV:ν→U) (l:List (κ×ν)):U:=.fm (l.map fun p=>(eK p.1,eV p.2))
section
variable {κ ν : Type} [DecidableEq κ] {ek : A.EK} {eK : κ → U} {eV : ν → U} {ay σ : Heap} {L : List (U × Ct)} {h : U} {l : List (κ × ν)}
theorem Pt (H:Hp ay σ L) (k:Nat) (hk:L[k]? =some (h,.m (l.map fun p=>(eK p.1,eV p.2)))) (hq:∀a b,A.ff ek (eK a) (eK b)=some (decide (a=b))) (x:κ) (v:ν) (hok:A.jS ek (eK x)=true):∃σ',A.hG ek h (eK x) (eV v) σ=some σ'∧Hp ay σ' (L.set k (h,.m ((gf x v l).map fun p=>(eK p.1,eV p.2)))):=ahU H hk hok (Qx hq x v l)
theorem ahR (H:Hp ay σ L) (k:Nat) (hk:L[k]? =some (h,.m (l.map fun p=>(eK p.1,eV p.2)))) (hq:∀a b,A.ff ek (eK a) (eK b)=some (decide (a=b))) (x:κ) (hok:A.jS ek (eK x)=true):∃σ',A.Cm ek h (eK x) σ=some σ'∧Hp ay σ' (L.set k (h,.m ((sK x l).map fun p=>(eK p.1,eV p.2)))):=ahT H hk hok (X9 hq x l)
theorem agQ (H:Hp ay σ L) (k:Nat) (hk:L[k]? =some (h,.m (l.map fun p=>(eK p.1,eV p.2)))) (hq:∀a b,A.ff ek (eK a) (eK b)=some (decide (a=b))) (x:κ) (z:ν) (hok:A.jS ek (eK x)=true):A.look ek h (eK x) (eV z) σ=some (eV ((cr x l).getD z)):=by
 rw[ahS H hk hok (Ec hq x l),getD_map]
theorem OM (hq:∀a b,A.ff ek (eK a) (eK b)=some (decide (a=b))) (x:κ) (z:ν) (hok:A.jS ek (eK x)=true):A.look ek (uY eK eV l) (eK x) (eV z) σ=some (eV ((cr x l).getD z)):=by
 simp only[A.look,uY,hok,cond_true,A.entries,Option.bind_some,Ec hq,Option.map_some,getD_map]
theorem aem (hq:∀a b,A.ff ek (eK a) (eK b)=some (decide (a=b))) (x:κ) (z:ν) (hok:A.jS ek (eK x)=true):A.Eg ek (uY eK eV l) (eK x) (eV z) σ=some (.aL [eV ((cr x l).getD z),.bool (cr x l).isSome]):=by
 simp only[A.Eg,uY,hok,cond_true,A.entries,Option.bind_some,Ec hq,Option.map_some,getD_map,isSome_map]
end
section
variable {α : Type} {c : α → List U} {l ys : List α} {ay σ : Heap} {L : List (U × Ct)} {h : U} {sz : Nat}
theorem Pr (H:Hp ay σ L) (k:Nat) {most:Nat} (hk:L[k]? =some (h,.s sz (l.map c))) (hm:l.length+ys.length≤most):∃h' σ',A.append sz most h (sl sz c ys) σ=some (h',σ')∧Hp ay σ' (L.set k (h',.s sz ((l++ys).map c))):=by
 rw[List.map_append]
 exact ai9 H hk (by simpa using hm)
end
def HZ {α:Type} (l:List α) (lo hi:Option Int):Option (List α):=
 let h:=hi.getD l.length
 let k:=lo.getD 0
 if 0≤k∧k≤h∧h≤l.length then some ((l.take h.toNat).drop k.toNat)else none
theorem ajt {α:Type} {sz:Nat} {c:α→List U} {l r:List α} {lo hi:Option Int} {σ:Heap} (h:HZ l lo hi=some r):A.bG sz (sl sz c l) (lo.map (.int .i64)) (hi.map (.int .i64)) σ=some (sl sz c r):=by
 unfold HZ at h
 simp only at h
 split at h
 ·rename_i hc
  injection h with h
  subst h
  obtain⟨h1,h2,h3⟩:=hc
  simp only[A.bG,sl,if_true,List.length_map]
  have e1:A.bound l.length l.length (hi.map (.int .i64))=some (hi.getD l.length).toNat:=by
   cases hi with
   |none=>simp [A.bound]
   |some h=>simp only[Option.getD_some]at h2 h3;simp [A.bound,show 0≤h by omega,h3]
  have e2:A.bound (hi.getD l.length).toNat 0 (lo.map (.int .i64))=some (lo.getD 0).toNat:=by
   cases lo with
   |none=>simp [A.bound]
   |some k=>
    simp only[Option.getD_some]at h1 h2
    have:k≤((hi.getD l.length).toNat:Int):=by omega
    simp only[Option.map_some,A.bound,Option.getD_some]
    rw[if_pos ⟨h1,this⟩]
  rw[e1,Option.bind_some,e2,Option.map_some,List.map_drop,List.map_take]
 ·cases h
end
section
def HP:=(Nat→Option aV)→Prop
namespace HP
def emp:HP:=fun h=>∀i,h i=none
def blk (id:Nat) (b:aV):HP:=fun h=>∀i,h i=if i=id then some b else none
def star (P Q:HP):HP:=fun h=>∃f g,P f∧Q g∧(∀i,f i=none∨g i=none)∧∀i,h i=(f i).or (g i)
def pr (p:Prop):HP:=fun h=>p∧∀i,h i=none
def ex {α:Type} (P:α→HP):HP:=fun h=>∃x,P x h
instance : Mul HP := ⟨star⟩
theorem Vn (P Q:HP):P*Q=Q*P:=by
 have key:∀P Q:HP,∀h,(P*Q) h→(Q*P) h:=by
  rintro P Q h ⟨f,g,hf,hg,hd,hh⟩
  refine⟨g,f,hg,hf,fun i=>(hd i).symm,fun i=>?_⟩
  rw[hh i]
  rcases hd i with e|e<;>rw[e]<;>simp
 funext h
 exact propext ⟨key P Q h,key Q P h⟩
theorem oT (P Q R:HP):P*Q*R=P*(Q*R):=by
 funext h
 apply propext
 constructor
 ·rintro⟨f,g,⟨f1,f2,h1,h2,Hx,hf⟩,hg,hd,hh⟩
  refine⟨f1,fun i=>(f2 i).or (g i),h1,⟨f2,g,h2,hg,fun i=>?_,fun i=>rfl⟩,fun i=>?_,fun i=>?_⟩
  ·have:=hd i;rw[hf i]at this
   rcases this with e|e
   ·cases h:f1 i<;>simp [h]at e<;>exact .inl e
   ·exact .inr e
  ·have a:=hd i;have b:=Hx i;rw[hf i]at a
   rcases b with b|b
   ·exact .inl b
   ·rcases a with a|a
    ·cases h:f1 i<;>simp [h]at a;exact .inl rfl
    ·exact .inr (show(f2 i).or (g i)=none by rw[b,a];rfl)
  ·rw[hh i,hf i];cases f1 i<;>simp
 ·rintro⟨f,g,hf,⟨g1,g2,h1,h2,Hx,hg⟩,hd,hh⟩
  refine⟨fun i=>(f i).or (g1 i),g2,⟨f,g1,hf,h1,fun i=>?_,fun i=>rfl⟩,h2,fun i=>?_,fun i=>?_⟩
  ·have:=hd i;rw[hg i]at this
   rcases this with e|e
   ·exact .inl e
   ·cases h:g1 i<;>simp [h]at e;exact .inr rfl
  ·have a:=hd i;have b:=Hx i;rw[hg i]at a
   rcases b with b|b
   ·rcases a with a|a
    ·exact .inl (show(f i).or (g1 i)=none by rw[a,b];rfl)
    ·rw[b]at a;exact .inr (by simpa using a)
   ·exact .inr b
  ·show h i=((f i).or (g1 i)).or (g2 i)
   rw[hh i,hg i];cases f i<;>simp
theorem wY (P:HP):emp*P=P:=by
 funext h
 apply propext
 constructor
 ·rintro⟨f,g,hf,hg,hd,hh⟩
  have:h=g:=by funext i;rw[hh i,hf i];rfl
  rw[this];exact hg
 ·intro hp
  exact⟨fun _=>none,h,fun _=>rfl,hp,fun _=>.inl rfl,fun i=>by simp⟩
theorem O6 (P:HP):P*emp=P:=by rw[Vn,wY]
instance : Std.Associative (α := HP) (· * ·) := ⟨oT⟩
instance : Std.Commutative (α := HP) (· * ·) := ⟨Vn⟩
end HP
open HP
structure Hs (B : aV → Prop) (ay σ : Heap) (P : HP) : Prop where
 pre:∃bs,σ=ay++bs∧∀b∈bs,B b
 own:∃h,P h∧∀i b,h i=some b→ay.length≤i∧σ[i]? =some b
def aX:aV→Prop:=fun _=>True
section
variable {B : aV → Prop} {ay σ : Heap} {P Q R : HP} {id : Nat} {b b' : aV}
theorem hs_eq (e:P=Q) (H:Hs B ay σ P):Hs B ay σ Q:=e▸H
theorem Pv (k:∀h,P h→Q h) (H:Hs B ay σ (P*R)):Hs B ay σ (Q*R):=by
 obtain⟨h1,h,⟨f,g,hf,hg,hd,hh⟩,h2⟩:=H
 exact⟨h1,h,⟨f,g,k f hf,hg,hd,hh⟩,h2⟩
theorem jH (H:Hs B ay σ (P*R)):Hs B ay σ R:=by
 obtain⟨h1,h,⟨f,g,hf,hg,hd,hh⟩,h2⟩:=H
 refine⟨h1,g,hg,fun i b hb=>h2 i b ?_⟩
 rw[hh i]
 rcases hd i with e|e
 ·rw[e,hb];rfl
 ·rw[e]at hb;cases hb
theorem jC {p:Prop}:Hs B ay σ (pr p*R)↔p∧Hs B ay σ R:=by
 constructor
 ·intro H
  refine⟨?_,jH H⟩
  obtain⟨h1,h,⟨f,g,hf,hg,hd,hh⟩,h2⟩:=H
  exact hf.1
 ·rintro⟨hp,h1,h,hr,h2⟩
  exact⟨h1,h,⟨fun _=>none,h,⟨hp,fun _=>rfl⟩,hr,fun _=>.inl rfl,fun i=>by simp⟩,h2⟩
theorem Ek {α:Type} {P:α→HP}:Hs B ay σ (ex P*R)↔∃x,Hs B ay σ (P x*R):=by
 constructor
 ·rintro⟨h1,h,⟨f,g,⟨x,hf⟩,hg,hd,hh⟩,h2⟩
  exact⟨x,h1,h,⟨f,g,hf,hg,hd,hh⟩,h2⟩
 ·rintro⟨x,h1,h,⟨f,g,hf,hg,hd,hh⟩,h2⟩
  exact⟨h1,h,⟨f,g,⟨x,hf⟩,hg,hd,hh⟩,h2⟩
theorem AB (σ:Heap):Hs B σ σ emp:=⟨⟨[],by simp,by simp⟩,fun _=>none,fun _=>rfl,fun _ _ h=>by cases h⟩
theorem Xt (H:Hs B ay σ P):ay.length≤σ.length:=by obtain⟨⟨bs,rfl,_⟩,_⟩:=H;simp
theorem lB (H:Hs B ay σ (blk id b*R)):ay.length≤id∧σ[id]? =some b:=by
 obtain⟨h1,h,⟨f,g,hf,hg,hd,hh⟩,h2⟩:=H
 exact h2 id b (by rw[hh id,hf id];simp)
theorem Q7 (H:Hs B ay σ (blk id b*R)):B b:=by
 obtain⟨h1,h2⟩:=lB H
 obtain⟨⟨bs,rfl,hb⟩,_⟩:=H
 rw[List.getElem?_append_right h1]at h2
 exact hb b (List.mem_of_getElem? h2)
theorem Ee (H:Hs B ay σ (blk id b*R)) (hb:B b'):Hs B ay (σ.set id b') (blk id b'*R):=by
 obtain⟨hid,mo⟩:=lB H
 have hlt:=(List.getElem?_eq_some_iff.1 mo).1
 obtain⟨⟨bs,rfl,hB⟩,h,⟨f,g,hf,hg,hd,hh⟩,h2⟩:=H
 refine⟨⟨bs.set (id-ay.length) b',by rw[List.set_append_right _ _ hid],fun x hx=>?_⟩,fun i=>if i=id then some b' else g i,⟨fun i=>if i=id then some b' else none,g,fun i=>rfl,hg,fun i=>?_,fun i=>?_⟩,fun i x hx=>?_⟩
 ·rcases List.mem_or_eq_of_mem_set hx with hx|hx
  ·exact hB x hx
  ·subst hx;exact hb
 ·have:=hd i;rw[hf i]at this
  by_cases e:i=id
  ·simp only[e,if_true]at this ⊢
   rcases this with h|h
   ·cases h
   ·exact .inr h
  ·simp [e]
 ·by_cases e:i=id<;>simp [e]
 ·by_cases e:i=id
  ·subst e
   simp only[if_true,Option.some.injEq]at hx
   subst hx
   exact⟨hid,by rw[List.getElem?_set_self hlt]⟩
  ·simp only[e,if_false]at hx
   rw[List.getElem?_set_ne (fun e'=>e e'.symm)]
   have:=h2 i x (by rw[hh i,hf i];simp [e,hx])
   exact this
theorem yI (H:Hs B ay σ R) (hb:B b):Hs B ay (σ++[b]) (blk σ.length b*R):=by
 have hl:=Xt H
 obtain⟨⟨bs,rfl,hB⟩,h,hr,h2⟩:=H
 have hn:∀i x,h i=some x→i<(ay++bs).length:=fun i x hx=>(List.getElem?_eq_some_iff.1 (h2 i x hx).2).1
 refine⟨⟨bs++[b],by simp,fun x hx=>?_⟩,fun i=>if i=(ay++bs).length then some b else h i,⟨fun i=>if i=(ay++bs).length then some b else none,h,fun i=>rfl,hr,fun i=>?_,fun i=>?_⟩,fun i x hx=>?_⟩
 ·rcases List.mem_append.1 hx with hx|hx
  ·exact hB x hx
  ·simp at hx;subst hx;exact hb
 ·by_cases e:i=(ay++bs).length
  ·right
   cases hi:h i with
   |none=>rfl
   |some x=>have:=hn i x hi;omega
  ·simp only[e,if_false,true_or]
 ·by_cases e:i=(ay++bs).length<;>simp only[e,if_true,if_false,Option.or_some,Option.none_or,Option.some_or]
 ·by_cases e:i=(ay++bs).length
  ·subst e
   simp only[if_true,Option.some.injEq]at hx
   subst hx
   exact⟨hl,by simp⟩
  ·simp only[e,if_false]at hx
   obtain⟨k1,k2⟩:=h2 i x hx
   exact⟨k1,by rw[List.getElem?_append_left (hn i x hx)];exact k2⟩
end
section
variable {α : Type} {E : List U → α → HP} {B : aV → Prop} {ay σ : Heap} {R : HP}
def els (E:List U→α→HP):List (List U)→List α→HP
 |[],[]=>emp
 |e::es,x::l=>E e x*els E es l
 |_,_=>pr False
theorem Kr:∀{es:List (List U)} {l:List α} {R:HP},Hs B ay σ (els E es l*R)→es.length=l.length
 |[],[],_,_=>rfl
 |[],_::_,_,H=>(jC.1 H).1.elim
 |_::_,[],_,H=>(jC.1 H).1.elim
 |e::es,x::l,R,H=>by
  have:=Kr (es:=es) (l:=l) (R:=E e x*R) (hs_eq (by rw[els];ac_rfl) H)
  simp [this]
theorem BK:∀{zB sM:List (List U)} {l1 l2:List α},zB.length=l1.length→els E (zB++sM) (l1++l2)=els E zB l1*els E sM l2
 |[],sM,[],l2,_=>by rw[els,wY];rfl
 |e::zB,sM,x::l1,l2,h=>by
  simp only[List.cons_append,els]
  rw[BK (by simpa using h)]
  ac_rfl
theorem Ks (e:List U) (x:α):els E [e] [x]=E e x:=by rw[els,els,O6]
theorem PT {es:List (List U)} {l:List α} {i:Nat} {e:List U} {x:α} (hl:es.length=l.length) (he:es[i]? =some e) (hx:l[i]? =some x):els E es l=els E (es.eraseIdx i) (l.eraseIdx i)*E e x:=by
 have h1:=(List.getElem?_eq_some_iff.1 he).1
 have h2:=(List.getElem?_eq_some_iff.1 hx).1
 have e1:es=es.take i++e::es.drop (i+1):=by
  rw[←(List.getElem?_eq_some_iff.1 he).2,List.getElem_cons_drop,List.take_append_drop]
 have e2:l=l.take i++x::l.drop (i+1):=by
  rw[←(List.getElem?_eq_some_iff.1 hx).2,List.getElem_cons_drop,List.take_append_drop]
 conv=>lhs;rw[e1,e2]
 rw[BK (by simp;omega),els,List.eraseIdx_eq_take_drop_succ,List.eraseIdx_eq_take_drop_succ,BK (by simp;omega)]
 ac_rfl
def fl (c:α→List U):List U→α→HP:=fun e x=>pr (e=c x)
theorem KJ {c:α→List U}:∀{es:List (List U)} {l:List α} {R:HP},Hs B ay σ (els (fl c) es l*R)↔es=l.map c∧Hs B ay σ R
 |[],[],R=>by rw[els,wY];simp
 |[],x::l,R=>by show Hs B ay σ (pr False*R)↔_;rw[jC];simp
 |e::es,[],R=>by show Hs B ay σ (pr False*R)↔_;rw[jC];simp
 |e::es,x::l,R=>by
  rw[els,fl,oT,jC,KJ,List.map_cons,List.cons.injEq,and_assoc]
def Sl (E:List U→α→HP) (sz:Nat) (v:U) (l:List α):HP:=fun h=>(l=[]∧(v=.aH∨v=.ez)∧emp h)∨∃id g seg,v=.os id g sz 0 l.length∧(blk id (.arr g sz seg)*els E seg l) h
variable {sz : Nat} {v : U} {l : List α}
theorem sw (H:Hs B ay σ (Sl E sz v l*R)):(l=[]∧(v=.aH∨v=.ez)∧Hs B ay σ R)∨∃id g seg,v=.os id g sz 0 l.length∧seg.length=l.length∧Hs B ay σ (blk id (.arr g sz seg)*(els E seg l*R)):=by
 have H2:=jH H
 obtain⟨h1,h,⟨f,g,hf,hg,hd,hh⟩,h2⟩:=H
 rcases hf with⟨k1,k2,k3⟩|⟨id,gg,seg,k1,k2⟩
 ·exact .inl ⟨k1,k2,H2⟩
 ·have K:Hs B ay σ (blk id (.arr gg sz seg)*(els E seg l*R)):=hs_eq (oT _ _ _) ⟨h1,h,⟨f,g,k2,hg,hd,hh⟩,h2⟩
  exact .inr ⟨id,gg,seg,k1,Kr (R:=blk id (.arr gg sz seg)*R) (hs_eq (by ac_rfl) K),K⟩
theorem qx (H:Hs B ay σ R) (hv:v=.aH∨v=.ez):Hs B ay σ (Sl E sz v []*R):=
 Pv (P:=emp) (fun h k=>.inl ⟨rfl,hv,k⟩) (hs_eq (wY R).symm H)
theorem yQ {id g:Nat} {seg:List (List U)} {n:Nat} (H:Hs B ay σ (blk id (.arr g sz seg)*(els E seg l*R))) (hn:n=l.length:=by rfl):Hs B ay σ (Sl E sz (.os id g sz 0 n) l*R):=
 Pv (P:=blk id (.arr g sz seg)*els E seg l) (fun h k=>.inr ⟨id,g,seg,by rw[hn],k⟩) (hs_eq (oT _ _ _).symm H)
theorem XK (H:Hs B ay σ (Sl E sz v l*R)):A.aT v=some (.int .i64 l.length):=by
 rcases sw H with⟨rfl,rfl|rfl,_⟩|⟨id,g,seg,rfl,_⟩<;>rfl
theorem BZ {ys:List (List U)} {xs:List α} {most:Nat} (H:Hs B ay σ (Sl E sz v l*(els E ys xs*R))) (hm:l.length+xs.length≤most) (hB:∀g g' seg,(seg=[]∨B (.arr g sz seg))→B (.arr g' sz (seg++ys))):
  ∃v' σ',A.append sz most v (.sl sz ys) σ=some (v',σ')∧Hs B ay σ' (Sl E sz v' (l++xs)*R):=by
 rcases sw H with⟨rfl,hv,H⟩|⟨id,g,seg,rfl,hl,H⟩
 ·have hxl:=Kr H
  by_cases hy:ys=[]
  ·subst hy
   have:xs=[]:=List.eq_nil_of_length_eq_zero (by simpa using hxl.symm)
   subst this
   refine⟨v,σ,?_,qx (jH H) hv⟩
   rcases hv with rfl|rfl<;>simp [A.append,A.elems,A.mX]
  ·refine⟨.os σ.length ys.length sz 0 ys.length,σ++[.arr ys.length sz ys],?_,?_⟩
   ·have:ys.length≤most:=by simp at hm;omega
    rcases hv with rfl|rfl<;>simp [A.append,A.elems,A.mX,hy,this]
   ·have H2:=yI H (by simpa using hB 0 ys.length [] (.inl rfl):B (.arr ys.length sz ys))
    exact yQ H2 (by simpa using hxl)
 ·have hxl:=Kr (hs_eq (show _=els E ys xs*(blk id (.arr g sz seg)*(els E seg l*R)) by ac_rfl) H)
  obtain⟨h1,h2⟩:=lB H
  by_cases hy:ys=[]
  ·subst hy
   have:xs=[]:=List.eq_nil_of_length_eq_zero (by simpa using hxl.symm)
   subst this
   refine⟨.os id g sz 0 l.length,σ,?_,?_⟩
   ·have:l.length≤most:=by simpa using hm
    simp [A.append,A.elems,A.mX,h2,hl,this]
   ·rw[List.append_nil]
    exact yQ (hs_eq (by rw[els,wY]) H)
  ·have hp:0<ys.length:=List.length_pos_iff.2 hy
   refine⟨.os id (g+ys.length) sz 0 (l.length+ys.length),σ.set id (.arr (g+ys.length) sz (seg++ys)),?_,?_⟩
   ·have e1:l.length+ys.length≤most:=by omega
    have e2:seg.take l.length=seg:=List.take_of_length_le (by omega)
    simp [A.append,A.elems,A.mX,h2,hl,e1,hy,e2,hp]
   ·have H2:=Ee (b':=.arr (g+ys.length) sz (seg++ys)) H (hB g _ seg (.inr (Q7 H)))
    exact yQ (id:=id) (g:=g+ys.length) (seg:=seg++ys) (hs_eq (by rw[BK hl];ac_rfl) H2) (by simp;omega)
end
end
section
open HP
noncomputable def A7 (sz most:Nat) (zs:List U) (yj:List U→Heap→Option (U×Heap)) (a0 a1 a2:U) (σ:Heap):Option (U×Heap):=
 (A.bG sz a0 (some a1) none σ).bind fun x1=>
 (A.aT a2).bind fun x2=>
 (A.eql .i x2 ah).bind fun x3=>
 A.cond x3 (
  A.renew [a0,a1,a2] σ a0 σ) (
  (A.aT a0).bind fun x4=>
  (A.eql .i a1 x4).bind fun x5=>
  A.cond x5 (
   (A.append sz most a0 a2 σ).bind fun r6=>
   A.renew [a0,a1,a2] σ r6.1 r6.2) (
   (A.add x4 x2).bind fun x7=>
   A.yY (A.Ep a0) (fun x8=>
    (A.gtr x7 x8).bind fun x9=>
    A.cond x9 (
     (A.bG sz a0 none (some a1) σ).bind fun bf=>
     (A.add x4 x2).bind fun bN=>
     (A.sub bN a1).bind fun bC=>
     (A.tu sz most zs bf bC σ).bind fun fR=>
     (A.bG sz fR.1 (some a1) none fR.2).bind fun bw=>
     (A.iJ sz bw a2 fR.2).bind fun dG=>
     (A.add a1 x2).bind fun bl=>
     (A.bG sz fR.1 (some bl) none dG.2).bind fun bZ=>
     (A.bG sz a0 (some a1) none dG.2).bind fun cU=>
     (A.iJ sz bZ cU dG.2).bind fun mO=>
     A.renew [a0,a1,a2] σ fR.1 mO.2) (
     (A.add x4 x2).bind fun bI=>
     (A.bG sz a0 none (some bI) σ).bind fun bg=>
     (A.add a1 x2).bind fun bB=>
     (A.bG sz bg (some bB) none σ).bind fun ct=>
     (su [a2,ct] σ).bind fun gr=>
     (A.not gr.1).bind fun x25=>
     A.cond x25 (
      (A.add a1 x2).bind fun cN=>
      (A.bG sz bg (some cN) none gr.2).bind fun cR=>
      (A.bG sz bg (some a1) none gr.2).bind fun x28=>
      (A.iJ sz cR x28 gr.2).bind fun kI=>
      (A.bG sz bg (some a1) none kI.2).bind fun cO=>
      (A.iJ sz cO a2 kI.2).bind fun dQ=>
      A.renew [a0,a1,a2] σ bg dQ.2) (
      (A.bG sz bg (some x4) none gr.2).bind fun x32=>
      (A.iJ sz x32 a2 gr.2).bind fun lM=>
      (A.bG sz bg (some a1) none lM.2).bind fun x34=>
      (yj [x34,x2] lM.2).bind fun wg=>
      A.renew [a0,a1,a2] σ bg wg.2))) (A.yZ a0 σ fun n36 qw=>
    (A.gtr x7 (U.int .i64 n36)).bind fun x38=>
    A.cond x38 (
     (A.bG sz a0 none (some a1) qw).bind fun gy=>
     (A.add x4 x2).bind fun fG=>
     (A.sub fG a1).bind fun fW=>
     (A.tu sz most zs gy fW qw).bind fun qv=>
     (A.bG sz qv.1 (some a1) none qv.2).bind fun fM=>
     (A.iJ sz fM a2 qv.2).bind fun lN=>
     (A.add a1 x2).bind fun ew=>
     (A.bG sz qv.1 (some ew) none lN.2).bind fun ia=>
     (A.bG sz a0 (some a1) none lN.2).bind fun dK=>
     (A.iJ sz ia dK lN.2).bind fun mD=>
     A.renew [a0,a1,a2] σ qv.1 mD.2) (
     (A.add x4 x2).bind fun ig=>
     (A.bG sz a0 none (some ig) qw).bind fun fC=>
     (A.add a1 x2).bind fun ef=>
     (A.bG sz fC (some ef) none qw).bind fun eM=>
     (su [a2,eM] qw).bind fun iX=>
     (A.not iX.1).bind fun ga=>
     A.cond ga (
      (A.add a1 x2).bind fun iP=>
      (A.bG sz fC (some iP) none iX.2).bind fun gO=>
      (A.bG sz fC (some a1) none iX.2).bind fun jf=>
      (A.iJ sz gO jf iX.2).bind fun Bi=>
      (A.bG sz fC (some a1) none Bi.2).bind fun jv=>
      (A.iJ sz jv a2 Bi.2).bind fun sS=>
      A.renew [a0,a1,a2] σ fC sS.2) (
      (A.bG sz fC (some x4) none iX.2).bind fun gH=>
      (A.iJ sz gH a2 iX.2).bind fun nZ=>
      (A.bG sz fC (some a1) none nZ.2).bind fun dW=>
      (yj [dW,x2] nZ.2).bind fun r64=>
      A.renew [a0,a1,a2] σ fC r64.2)))))
noncomputable def QN (sz most:Nat) (zs:List U) (a0 a1 a2:U) (σ:Heap):Option (U×Heap):=
 (A.aT a0).bind fun x1=>
 (A.slice3 a0 (some a1) a2 x1).bind fun x2=>
 (A.eql .i a1 a2).bind fun x3=>
 A.cond x3 (
  A.renew [a0,a1,a2] σ a0 σ) (
  (A.aT a0).bind fun x4=>
  (A.bG sz a0 none (some a1) σ).bind fun x5=>
  (A.bG sz a0 (some a2) none σ).bind fun x6=>
  (A.append sz most x5 x6 σ).bind fun r7=>
  (A.aT r7.1).bind fun x8=>
  (A.bG sz r7.1 (some x8) (some x4) r7.2).bind fun x9=>
  (A.AA sz zs x9 r7.2).bind fun CJ=>
  A.renew [a0,a1,a2] σ r7.1 CJ)
section
variable {σ : Heap} {id g sz off len : Nat} {es : List (List U)}
theorem fO {α:Type} {X Y:Option α}:A.cond (.bool true) X Y=X:=rfl
theorem eC {α:Type} {X Y:Option α}:A.cond (.bool false) X Y=Y:=rfl
theorem ahw {R:Type} {k:U→Option R} {u:Option R}:A.yY (A.Ep (.os id g sz off len)) k u=u:=rfl
theorem oB {y d k:Nat} (h:k≤y):A.bound y d (some (.int .i64 (k:Int)))=some k:=by
 have:(k:Int)≤y:=by omega
 simp [A.bound,this]
theorem rD {y d:Nat}:A.bound y d none=some d:=rfl
theorem uH (h:σ[id]? =some (.arr g sz es)) (hl:off+len≤es.length):A.room σ id g sz off len=es.length-off:=by simp [A.room,h,hl]
theorem U9 (h:σ[id]? =some (.qN g sz es)):A.room σ id g sz off len=len:=by simp [A.room,h]
theorem sU {lo hi:Option U} {r h l:Nat} (hr:A.room σ id g sz off len=r) (hh:A.bound r len hi=some h) (hl:A.bound h 0 lo=some l):A.bG sz (.os id g sz off len) lo hi σ=some (.os id g sz (off+l) (h-l)):=by
 simp [A.bG,hr,hh,hl]
theorem PM {a b:Nat} (h:a+b<9223372036854775808):A.add (.int .i64 (a:Int)) (.int .i64 (b:Int))=some (.int .i64 ((a+b:Nat):Int)):=by
 rw[Gu,wrap64 (by unfold aZ;omega)];simp
theorem ajx {a b:Nat} (h:b≤a) (h2:a<9223372036854775808):A.sub (.int .i64 (a:Int)) (.int .i64 (b:Int))=some (.int .i64 ((a-b:Nat):Int)):=by
 rw[uQ,wrap64 (by unfold aZ;omega),Int.ofNat_sub h]
theorem Qg (a b:Nat):A.eql .i (.int .i64 (a:Int)) (.int .i64 (b:Int))=some (.bool (decide (a=b))):=by
 rw[l5]
 have:((a:Int)=(b:Int))=(a=b):=propext ⟨fun h=>by omega,fun h=>by omega⟩
 simp only[this]
theorem aiW {R:Type} {p:Nat→Prop} {k:Nat→Option R} {r:R} (n:Nat) (hn:p n) (h:∀n,p n→k n=some r):A.all p k=some r:=by
 have hx:∃r,∀n,p n→k n=some r:=⟨r,h⟩
 unfold A.all
 rw[dif_pos hx]
 have:=Classical.choose_spec hx n hn
 rw[h n hn]at this
 injection this with this
 rw[←this]
theorem Kq {σ:Heap} {y:U} {ys:List (List U)} (h:σ[id]? =some (.arr g sz es)) (hl:off+len≤es.length) (hy:A.elems sz y σ=some ys) (h0:ys.length≠0) (h1:len≠0):
  A.iJ sz (.os id g sz off len) y σ=some (.int .i64 (ys.take len).length,σ.set id (.arr g sz (es.take off++ys.take len++es.drop (off+(ys.take len).length)))):=by
 simp only[A.iJ,hy,Option.bind_some,h]
 rw[if_pos (by simp [hl]),if_neg (by simp only[not_or];exact⟨h0,h1⟩)]
theorem VH (h:σ[id]? =some (.arr g sz es)) (hl:off+len≤es.length):A.elems sz (.os id g sz off len) σ=some ((es.drop off).take len):=by
 simp [A.elems,h,hl]
theorem aft (h:σ[id]? =some (.qN g sz es)) (hl:off+len≤es.length):A.elems sz (.os id g sz off len) σ=some ((es.drop off).take len):=by
 simp [A.elems,h,hl]
end
section
variable {α : Type} {E : List U → α → HP} {ay σ : Heap} {R : HP} {sz most : Nat} {zs : List U} {yj : List U → Heap → Option (U × Heap)} {v : U} {l : List α} {y : α} {ye : List U} {i : Nat}
theorem WJ (id g n:Nat) (i:U) (hi:∃k:Int,i=.int .i64 k):A.gen [.os id g sz 0 n,i,.sl sz [ye]]=g+n+1:=by
 obtain⟨k,rfl⟩:=hi
 simp [A.gen]
theorem ahX {id g n:Nat} {seg:List (List U)} (hs:σ[id]? =some (.arr g sz seg)) (hl:seg.length=n) (hi:i<n) (hm:n+1≤most) (hb:n<4611686018427387904):
  A7 sz most zs yj (.os id g sz 0 n) (.int .i64 (i:Int)) (.sl sz [ye]) σ=some (.os id (g+n+2) sz 0 (n+1),σ.set id (.arr (g+n+2) sz (seg.take i++[ye]++seg.drop i))):=by
 have hid:=(List.getElem?_eq_some_iff.1 hs).1
 have zb:A.gen [.os id g sz 0 n,.int .i64 (i:Int),.sl sz [ye]]=g+n+1:=WJ id g n _ ⟨_,rfl⟩
 unfold A7
 rw[sU (uH hs (by omega)) rD (oB (k:=i) (by omega)),Option.bind_some]
 rw[show A.aT (.sl sz [ye])=some (.int .i64 ((1:Nat):Int))from rfl,Option.bind_some]
 rw[show A.eql .i (.int .i64 ((1:Nat):Int)) (.int .i64 0)=some (.bool false)from rfl,Option.bind_some]
 rw[eC]
 rw[show A.aT (.os id g sz 0 n)=some (.int .i64 (n:Int))from rfl,Option.bind_some,Qg,Option.bind_some,decide_eq_false (by omega)]
 rw[eC,PM (by omega),Option.bind_some,ahw]
 simp only[A.yZ,hs]
 rw[if_pos (by simp;omega)]
 refine aiW n (by omega) fun c hc=>?_
 obtain⟨hc1,sN⟩:=hc
 by_cases ht:c=n
 ·subst ht
  rw[if_pos rfl]
  obtain⟨σ1,zc⟩:∃σ1,σ1=σ.set id (.qN g sz seg):=⟨_,rfl⟩
  have h1:σ1[id]? =some (.qN g sz seg):=by rw[zc,List.getElem?_set_self hid]
  have pR:σ1.length=σ.length:=by rw[zc,List.length_set]
  rw[←zc]
  rw[show A.gtr (.int .i64 ((c+1:Nat):Int)) (.int .i64 (c:Int))=some (.bool true) by simp [A.gtr];omega,Option.bind_some]
  rw[fO,sU (U9 h1) (oB (k:=i) (by omega)) rD,Option.bind_some,PM (by omega),Option.bind_some,ajx (by omega) (by omega),Option.bind_some]
  obtain⟨rows,hrows⟩:∃rows,rows=seg.take i++List.replicate (c+1-i) zs:=⟨_,rfl⟩
  have hrl:rows.length=c+1:=by rw[hrows];simp;omega
  have e1:A.tu sz most zs (.os id g sz (0+0) (i-0)) (.int .i64 ((c+1-i:Nat):Int)) σ1=some (.os σ1.length (c+1) sz 0 (c+1),σ1++[.arr (c+1) sz rows]):=by
   have q1:(0:Int)≤((c+1-i:Nat):Int)∧((c+1-i:Nat):Int)≤most:=by omega
   have q2:i+(c+1-i)=c+1:=by omega
   simp only[A.tu]
   rw[if_pos q1]
   simp only[A.mX,Nat.zero_add,Nat.sub_zero,h1,Int.toNat_natCast,List.length_replicate,List.drop_zero,←hrows]
   rw[if_pos (by simp;omega),q2]
  rw[e1,Option.bind_some]
  simp only
  have h2:(σ1++[aV.arr (c+1) sz rows])[σ1.length]? =some (.arr (c+1) sz rows):=by simp
  rw[sU (uH h2 (by omega)) rD (oB (k:=i) (by omega)),Option.bind_some]
  rw[Kq (ys:=[ye]) h2 (by omega) (by simp [A.elems]) (by simp) (by omega),Option.bind_some]
  have e2:([ye]:List (List U)).take (c+1-i)=[ye]:=List.take_of_length_le (by simp;omega)
  rw[e2]
  simp only[Nat.zero_add,List.length_singleton]
  rw[Option.bind_some]
  obtain⟨tG,PZ⟩:∃tG,tG=rows.take i++[ye]++rows.drop (i+1):=⟨_,rfl⟩
  have alJ:tG.length=c+1:=by rw[PZ];simp;omega
  rw[←PZ]
  have qc:(σ1++[aV.arr (c+1) sz rows]).set σ1.length (.arr (c+1) sz tG)=σ1++[.arr (c+1) sz tG]:=by simp
  rw[qc]
  have h3:(σ1++[aV.arr (c+1) sz tG])[σ1.length]? =some (.arr (c+1) sz tG):=by simp
  have h3':(σ1++[aV.arr (c+1) sz tG])[id]? =some (.qN g sz seg):=by rw[List.getElem?_append_left (by omega)];exact h1
  rw[sU (uH h3 (by omega)) rD (oB (k:=i+1) (by omega)),Option.bind_some]
  rw[sU (U9 h3') rD (oB (k:=i) (by omega)),Option.bind_some]
  rw[Kq h3 (by omega) (aft h3' (by omega)) (by simp;omega) (by omega),Option.bind_some]
  have e3:((seg.drop (0+i)).take (c-i)).take (c+1-(i+1))=seg.drop i:=by
   rw[Nat.zero_add,List.take_of_length_le (by simp;omega),List.take_of_length_le (by simp;omega)]
  rw[e3]
  have e4:tG.take (0+(i+1))++seg.drop i++tG.drop (0+(i+1)+(seg.drop i).length)=seg.take i++[ye]++seg.drop i:=by
   have q1:tG.drop (0+(i+1)+(seg.drop i).length)=[]:=List.drop_of_length_le (by simp;omega)
   have q2:rows.take i=seg.take i:=by rw[hrows,List.take_append_of_le_length (by simp;omega),List.take_take,Nat.min_self]
   have q3:tG.take (0+(i+1))=seg.take i++[ye]:=by
    rw[PZ,q2,Nat.zero_add,List.take_append_of_le_length (by simp;omega),List.take_of_length_le (by simp;omega)]
   rw[q1,q3];simp
  rw[e4]
  have ajW:(σ1++[aV.arr (c+1) sz tG]).set σ1.length (.arr (c+1) sz (seg.take i++[ye]++seg.drop i))=σ1++[.arr (c+1) sz (seg.take i++[ye]++seg.drop i)]:=by simp
  simp only
  rw[ajW]
  have h4:(σ1++[aV.arr (c+1) sz (seg.take i++[ye]++seg.drop i)])[σ1.length]? =some (.arr (c+1) sz (seg.take i++[ye]++seg.drop i)):=by simp
  have qt:(seg.take i++[ye]++seg.drop i).length=c+1:=by simp;omega
  have e5:((seg.take i++[ye]++seg.drop i).drop 0).take (c+1)=seg.take i++[ye]++seg.drop i:=by rw[List.drop_zero,List.take_of_length_le (by omega)]
  simp only[A.renew,h4]
  rw[zb,if_pos (by simp only[true_and];omega),if_neg (by simp [A.YI,pR]),e5]
  simp only[A.merge,hs,zb]
  rw[if_pos]
  ·rw[qt]
  refine⟨by omega,by simp [pR],rfl,by omega,fun j hj hne=>?_,by rw[List.getElem?_append_left (by omega)];exact h1,fun z hz=>?_⟩
  ·rw[List.getElem?_append_left (by omega),zc,List.getElem?_set_ne (fun e=>hne e.symm)]
  ·simp only[List.mem_append,List.mem_singleton]at hz
   rcases hz with(hz|hz)|hz
   ·exact .inl (List.mem_of_mem_take hz)
   ·right;simp [A.rowsOf,hz]
   ·exact .inl (List.mem_of_mem_drop hz)
 ·rw[if_neg ht]
  obtain⟨es,uh⟩:∃es,es=seg++List.replicate (0+c-seg.length) (List.replicate sz U.undef):=⟨_,rfl⟩
  have hel:es.length=c:=by rw[uh];simp;omega
  have het:∀k,k≤n→es.take k=seg.take k:=fun k hk=>by rw[uh,List.take_append_of_le_length (by omega)]
  obtain⟨σ1,zc⟩:∃σ1,σ1=σ.set id (.arr g sz es):=⟨_,rfl⟩
  have h1:σ1[id]? =some (.arr g sz es):=by rw[zc,List.getElem?_set_self hid]
  have pR:id<σ1.length:=by rw[zc,List.length_set];exact hid
  rw[←uh,←zc]
  rw[show A.gtr (.int .i64 ((n+1:Nat):Int)) (.int .i64 (c:Int))=some (.bool false) by simp [A.gtr];omega,Option.bind_some]
  rw[eC,PM (by omega),Option.bind_some]
  rw[sU (uH h1 (by omega)) (oB (k:=n+1) (by omega)) rD,Option.bind_some,Option.bind_some]
  simp only[Nat.zero_add,Nat.sub_zero]
  rw[sU (uH h1 (by omega)) rD (oB (k:=i+1) (by omega)),Option.bind_some]
  have e1:su [.sl sz [ye],.os id g sz (0+(i+1)) (n+1-(i+1))] σ1=some (.bool false,σ1):=by
   simp only[su,A.cM,h1]
   rw[if_pos]
   refine⟨by simp,trivial,fun e=>?_,by omega⟩
   rw[e]at hel;simp at hel;omega
  rw[e1,Option.bind_some,show A.not (.bool false)=some (.bool true)from rfl,Option.bind_some,fO,Option.bind_some]
  simp only
  rw[sU (uH h1 (by omega)) rD (oB (k:=i+1) (by omega)),Option.bind_some]
  rw[sU (uH h1 (by omega)) rD (oB (k:=i) (by omega)),Option.bind_some]
  rw[Kq h1 (by omega) (VH h1 (by omega)) (by simp;omega) (by omega),Option.bind_some]
  have e2:((es.drop (0+i)).take (n+1-i)).take (n+1-(i+1))=seg.drop i:=by
   rw[List.take_take,Nat.zero_add,show min (n+1-(i+1)) (n+1-i)=n-i by omega,List.take_drop,show i+(n-i)=n by omega,het n (Nat.le_refl _),List.take_of_length_le (by omega)]
  rw[e2]
  obtain⟨sM,Lj⟩:∃sM,sM=es.take (0+(i+1))++seg.drop i++es.drop (0+(i+1)+(seg.drop i).length):=⟨_,rfl⟩
  have alB:sM.length=c:=by rw[Lj];simp;omega
  rw[←Lj]
  have h2:(σ1.set id (.arr g sz sM))[id]? =some (.arr g sz sM):=List.getElem?_set_self pR
  simp only
  rw[sU (uH h2 (by omega)) rD (oB (k:=i) (by omega)),Option.bind_some]
  rw[Kq (ys:=[ye]) h2 (by omega) (by simp [A.elems]) (by simp) (by omega),Option.bind_some]
  have e3:([ye]:List (List U)).take (n+1-i)=[ye]:=List.take_of_length_le (by simp;omega)
  rw[e3]
  simp only[Nat.zero_add,List.length_singleton,List.set_set]
  obtain⟨EG,Q3⟩:∃EG,EG=sM.take i++[ye]++sM.drop (i+1):=⟨_,rfl⟩
  have alC:EG.length=c:=by rw[Q3];simp;omega
  rw[←Q3]
  have h3:(σ1.set id (.arr g sz EG))[id]? =some (.arr g sz EG):=List.getElem?_set_self pR
  have e4:(EG.drop 0).take (n+1)=seg.take i++[ye]++seg.drop i:=by
   have q1:sM.take i=seg.take i:=by rw[Lj,List.append_assoc,List.take_append_of_le_length (by simp;omega),List.take_take,show min i (0+(i+1))=i by omega,het i (by omega)]
   have q2:sM.drop (i+1)=seg.drop i++es.drop (i+1+(seg.drop i).length):=by
    rw[Lj,Nat.zero_add,List.append_assoc,List.drop_append_of_le_length (by simp;omega),List.drop_of_length_le (by simp;omega),List.nil_append]
   rw[List.drop_zero,Q3,q1,q2,←List.append_assoc,List.take_append_of_le_length (by simp;omega),List.take_of_length_le (by simp;omega)]
  simp only[A.renew,h3]
  rw[zb,if_pos (by simp only[true_and];omega),if_pos (.inl hid),e4,List.set_set,zc,List.set_set]
theorem ahW {id g n:Nat} {seg:List (List U)} (hs:σ[id]? =some (.arr g sz seg)) (hl:seg.length=n) (hm:n+1≤most):
  A7 sz most zs yj (.os id g sz 0 n) (.int .i64 (n:Int)) (.sl sz [ye]) σ=some (.os id (g+n+2) sz 0 (n+1),σ.set id (.arr (g+n+2) sz (seg++[ye]))):=by
 have hid:=(List.getElem?_eq_some_iff.1 hs).1
 have zb:A.gen [.os id g sz 0 n,.int .i64 (n:Int),.sl sz [ye]]=g+n+1:=WJ id g n _ ⟨_,rfl⟩
 unfold A7
 rw[sU (uH hs (by omega)) rD (oB (k:=n) (by omega)),Option.bind_some]
 rw[show A.aT (.sl sz [ye])=some (.int .i64 ((1:Nat):Int))from rfl,Option.bind_some]
 rw[show A.eql .i (.int .i64 ((1:Nat):Int)) (.int .i64 0)=some (.bool false)from rfl,Option.bind_some]
 rw[eC]
 rw[show A.aT (.os id g sz 0 n)=some (.int .i64 (n:Int))from rfl,Option.bind_some,Qg,Option.bind_some,decide_eq_true rfl,fO]
 have e1:A.append sz most (.os id g sz 0 n) (.sl sz [ye]) σ=some (.os id (g+1) sz 0 (n+1),σ.set id (.arr (g+1) sz (seg++[ye]))):=by
  have q:seg.take n=seg:=List.take_of_length_le (by omega)
  simp [A.append,A.elems,A.mX,hs,hl,hm,q]
 rw[e1,Option.bind_some]
 have h2:(σ.set id (.arr (g+1) sz (seg++[ye])))[id]? =some (.arr (g+1) sz (seg++[ye])):=List.getElem?_set_self hid
 simp only[A.renew,h2]
 rw[zb,if_pos (by simp;omega),if_pos (.inl hid),List.set_set,List.drop_zero,List.take_of_length_le (by simp;omega)]
theorem ahY (hv:v=.aH∨v=.ez) (hm:1≤most):A7 sz most zs yj v (.int .i64 0) (.sl sz [ye]) σ=some (.os σ.length 2 sz 0 1,σ++[.arr 2 sz [ye]]):=by
 have zb:∀w:U,(w=.aH∨w=.ez)→A.gen [w,.int .i64 0,.sl sz [ye]]=1:=by
  rintro w (rfl|rfl)<;>simp [A.gen]
 have hbd:A.bound 0 0 (some ah)=some 0:=oB (y:=0) (d:=0) (k:=0) (Nat.le_refl _)
 have key:∀w:U,(w=.aH∨w=.ez)→A.renew [w,.int .i64 0,.sl sz [ye]] σ (.os σ.length 1 sz 0 1) (σ++[.arr 1 sz [ye]])=some (.os σ.length 2 sz 0 1,σ++[.arr 2 sz [ye]]):=by
  intro w hw
  have h2:(σ++[aV.arr 1 sz [ye]])[σ.length]? =some (.arr 1 sz [ye]):=by simp
  simp only[A.renew,h2]
  rw[zb w hw,if_pos (by simp),if_pos (.inr (by rcases hw with rfl|rfl<;>rfl))]
  simp
 unfold A7
 rw[show A.aT (.sl sz [ye])=some (.int .i64 ((1:Nat):Int))from rfl]
 rcases hv with rfl|rfl
 ·rw[show A.bG sz .aH (some (.int .i64 0)) none σ=some .aH by simp [A.bG,rD,hbd],Option.bind_some,Option.bind_some]
  rw[show A.eql .i (.int .i64 ((1:Nat):Int)) (.int .i64 0)=some (.bool false)from rfl,Option.bind_some,eC]
  rw[show A.aT .aH=some (.int .i64 0)from rfl,Option.bind_some,show A.eql .i (.int .i64 0) (.int .i64 0)=some (.bool true)from rfl,Option.bind_some,fO]
  rw[show A.append sz most .aH (.sl sz [ye]) σ=some (.os σ.length 1 sz 0 1,σ++[.arr 1 sz [ye]]) by simp [A.append,A.elems,A.mX,hm],Option.bind_some]
  exact key _ (.inl rfl)
 ·rw[show A.bG sz .ez (some (.int .i64 0)) none σ=some .ez by simp [A.bG,rD,hbd],Option.bind_some,Option.bind_some]
  rw[show A.eql .i (.int .i64 ((1:Nat):Int)) (.int .i64 0)=some (.bool false)from rfl,Option.bind_some,eC]
  rw[show A.aT .ez=some (.int .i64 0)from rfl,Option.bind_some,show A.eql .i (.int .i64 0) (.int .i64 0)=some (.bool true)from rfl,Option.bind_some,fO]
  rw[show A.append sz most .ez (.sl sz [ye]) σ=some (.os σ.length 1 sz 0 1,σ++[.arr 1 sz [ye]]) by simp [A.append,A.elems,A.mX,hm],Option.bind_some]
  exact key _ (.inr rfl)
theorem XJ {B:aV→Prop} (H:Hs B ay σ (Sl E sz v l*(E ye y*R))) (hi:i≤l.length) (hm:l.length+1≤most) (hb:l.length<4611686018427387904) (hB:∀g g' seg k,(seg=[]∨B (.arr g sz seg))→B (.arr g' sz (seg.take k++[ye]++seg.drop k))):
  ∃v' σ',A7 sz most zs yj v (.int .i64 (i:Int)) (.sl sz [ye]) σ=some (v',σ')∧Hs B ay σ' (Sl E sz v' (l.take i++[y]++l.drop i)*R):=by
 rcases sw H with⟨rfl,hv,H⟩|⟨id,g,seg,rfl,hl,H⟩
 ·have hi0:i=0:=by simpa using hi
  subst hi0
  refine⟨_,_,ahY hv (by simpa using hm),?_⟩
  have H2:=yI (b:=.arr 2 sz [ye]) H (by simpa using hB 0 2 [] 0 (.inl rfl))
  exact yQ (id:=σ.length) (g:=2) (seg:=[ye]) (hs_eq (by simp only[List.take_nil,List.drop_nil,List.nil_append,List.append_nil,Ks]) H2) rfl
 ·obtain⟨h1,h2⟩:=lB H
  have e:∃g',A7 sz most zs yj (.os id g sz 0 l.length) (.int .i64 (i:Int)) (.sl sz [ye]) σ=some (.os id g' sz 0 (l.length+1),σ.set id (.arr g' sz (seg.take i++[ye]++seg.drop i))):=by
   by_cases hil:i=l.length
   ·subst hil
    refine⟨g+l.length+2,?_⟩
    rw[ahW h2 hl hm,List.take_of_length_le (by omega),List.drop_of_length_le (by omega),List.append_nil]
   ·exact⟨_,ahX h2 hl (by omega) hm hb⟩
  obtain⟨g',e⟩:=e
  refine⟨_,_,e,?_⟩
  have H2:=Ee (b':=.arr g' sz (seg.take i++[ye]++seg.drop i)) H (hB g g' seg i (.inr (Q7 H)))
  refine yQ (id:=id) (g:=g') (seg:=seg.take i++[ye]++seg.drop i) (hs_eq ?_ H2) (by simp;omega)
  have q:els E seg l=els E (seg.take i) (l.take i)*els E (seg.drop i) (l.drop i):=by
   rw[←BK (by simp;omega),List.take_append_drop,List.take_append_drop]
  rw[BK (zB:=seg.take i++[ye]) (l1:=l.take i++[y]) (by simp;omega),BK (by simp;omega),Ks,q]
  ac_rfl
theorem ahN (id g n:Nat) (i j:Int):A.gen [.os id g sz 0 n,.int .i64 i,.int .i64 j]=g+n:=by simp [A.gen]
theorem XI {B:aV→Prop} {x:α} (H:Hs B ay σ (Sl E sz v l*R)) (hx:l[i]? =some x) (hm:l.length≤most) (hb:l.length<4611686018427387904) (hB:∀g g' seg k,B (.arr g sz seg)→B (.arr g' sz (seg.eraseIdx k))):
  ∃v' σ' xe,(∃p,A.aN sz v (.int .i64 (i:Int))=some p∧A.deref p σ=some xe)∧QN sz most zs v (.int .i64 (i:Int)) (.int .i64 ((i+1:Nat):Int)) σ=some (v',σ')∧Hs B ay σ' (Sl E sz v' (l.eraseIdx i)*(E xe x*R)):=by
 have hil:=(List.getElem?_eq_some_iff.1 hx).1
 rcases sw H with⟨rfl,hv,H⟩|⟨id,g,seg,rfl,hl,H⟩
 ·simp at hx
 ·obtain⟨h1,h2⟩:=lB H
  have hid:=(List.getElem?_eq_some_iff.1 h2).1
  obtain⟨n,hn⟩:∃n,n=l.length:=⟨_,rfl⟩
  obtain⟨xe,HM⟩:∃xe,seg[i]? =some xe:=⟨_,List.getElem?_eq_getElem (by omega)⟩
  have zb:A.gen [.os id g sz 0 n,.int .i64 (i:Int),.int .i64 ((i+1:Nat):Int)]=g+n:=ahN id g n _ _
  have e:QN sz most zs (.os id g sz 0 n) (.int .i64 (i:Int)) (.int .i64 ((i+1:Nat):Int)) σ=some (.os id (g+n+1) sz 0 (n-1),σ.set id (.arr (g+n+1) sz (seg.eraseIdx i))):=by
   unfold QN
   rw[show A.aT (.os id g sz 0 n)=some (.int .i64 (n:Int))from rfl,Option.bind_some]
   have s3:A.slice3 (.os id g sz 0 n) (some (.int .i64 (i:Int))) (.int .i64 ((i+1:Nat):Int)) (.int .i64 (n:Int))=some .undef:=by
    simp only[A.slice3,A.aT,Option.bind_some,Int.toNat_natCast]
    rw[oB (Nat.le_refl n),Option.bind_some,oB (show i+1≤n by omega),Option.bind_some,oB (show i≤i+1 by omega),Option.map_some,if_neg (by omega)]
   rw[s3,Option.bind_some,Qg,Option.bind_some,decide_eq_false (by omega),eC,Option.bind_some]
   rw[sU (uH h2 (by omega)) (oB (k:=i) (by omega)) rD,Option.bind_some]
   rw[sU (uH h2 (by omega)) rD (oB (k:=i+1) (by omega)),Option.bind_some]
   obtain⟨es,uh⟩:∃es,es=seg.take i++seg.drop (i+1)++seg.drop (i+(n-(i+1))):=⟨_,rfl⟩
   have hel:es.length=n:=by rw[uh];simp;omega
   have e1:A.append sz most (.os id g sz (0+0) (i-0)) (.os id g sz (0+(i+1)) (n-(i+1))) σ=some (.os id g sz 0 (n-1),σ.set id (.arr g sz es)):=by
    have q:((seg.drop (0+(i+1))).take (n-(i+1)))=seg.drop (i+1):=by rw[Nat.zero_add,List.take_of_length_le (by simp;omega)]
    simp only[A.append,VH h2 (by omega:0+(i+1)+(n-(i+1))≤seg.length),Option.bind_some,q,A.mX,h2]
    rw[if_pos (by simp;omega)]
    by_cases KZ:seg.drop (i+1)=[]
    ·have hni:n=i+1:=by
      have:=congrArg List.length KZ
      simp at this;omega
     rw[if_pos KZ]
     have qe:es=seg:=by rw[uh,KZ,hni];simp
     rw[qe,show n-1=i-0 by omega]
     congr 2
     apply List.ext_getElem?
     intro k
     rw[List.getElem?_set]
     split
     ·rename_i ek;subst ek;rw[h2]
     ·rfl
    ·rw[if_neg KZ,if_pos (by simp;omega)]
     congr 2
     ·congr 1;simp;omega
     ·rw[uh]
      congr 2
      simp only[Nat.zero_add,Nat.sub_zero,List.length_drop]
      rw[show seg.length-(i+1)=n-(i+1) by omega]
   rw[e1,Option.bind_some]
   simp only
   have h3:(σ.set id (.arr g sz es))[id]? =some (.arr g sz es):=List.getElem?_set_self hid
   rw[show A.aT (.os id g sz 0 (n-1))=some (.int .i64 ((n-1:Nat):Int))from rfl,Option.bind_some]
   rw[sU (uH h3 (by omega)) (oB (k:=n) (by omega)) (oB (k:=n-1) (by omega)),Option.bind_some]
   have e2:A.AA sz zs (.os id g sz (0+(n-1)) (n-(n-1))) (σ.set id (.arr g sz es))=some (σ.set id (.arr g sz (es.take (n-1)++List.replicate (n-(n-1)) zs++es.drop n))):=by
    simp only[A.AA,h3]
    rw[if_pos (by simp;omega),if_neg (by omega),List.set_set,Nat.zero_add,show n-1+(n-(n-1))=n by omega]
   rw[e2,Option.bind_some]
   have h4:(σ.set id (.arr g sz (es.take (n-1)++List.replicate (n-(n-1)) zs++es.drop n)))[id]? =some (.arr g sz (es.take (n-1)++List.replicate (n-(n-1)) zs++es.drop n)):=List.getElem?_set_self hid
   simp only[A.renew,h4]
   rw[zb,if_pos (by simp;omega),if_pos (.inl hid),List.set_set,List.drop_zero,List.append_assoc,List.take_append_of_le_length (by simp;omega),List.take_take,Nat.min_self]
   congr 4
   rw[uh,List.take_append_of_le_length (by simp;omega),List.take_of_length_le (by simp;omega),List.eraseIdx_eq_take_drop_succ]
  rw[hn]at e
  have hi':((i:Int)<(l.length:Int)):=by omega
  refine⟨_,_,xe,⟨.oe id g i 0,by simp [A.aN,A.idx,hi'],by simp [A.deref,h2,HM]⟩,e,?_⟩
  have H2:=Ee (b':=.arr (g+l.length+1) sz (seg.eraseIdx i)) H (hB g _ seg i (Q7 H))
  refine yQ (id:=id) (g:=g+l.length+1) (seg:=seg.eraseIdx i) (hs_eq ?_ H2) (by rw[List.length_eraseIdx,if_pos hil])
  rw[PT hl HM hx]
  ac_rfl
end
end
section
def i6 {α:Type} (f:Nat→α→Int):List α→Nat→Int
 |[],_=>0
 |x::l,i=>if f i x=0 then i6 f l (i+1)else f i x
section
variable {α β γ S B R : Type}
theorem JI {f:Nat→α→Int}:∀(l:List α) (i:Nat),i6 f l i=0↔∀j x,l[j]? =some x→f (i+j) x=0
 |[],i=>by simp [i6]
 |y::l,i=>by
  rw[i6]
  by_cases h:f i y=0
  ·rw[if_pos h,JI l (i+1)]
   constructor
   ·intro k j x hx
    cases j with
    |zero=>simp at hx;subst hx;exact h
    |succ j=>have:=k j x (by simpa using hx);rwa[show i+1+j=i+(j+1) by omega]at this
   ·intro k j x hx
    have:=k (j+1) x (by simpa using hx)
    rwa[show i+(j+1)=i+1+j by omega]at this
  ·rw[if_neg h]
   exact⟨fun e=>absurd e h,fun k=>absurd (k 0 y rfl) h⟩
theorem BL {l:List α} {body:Nat→α→S→Option (Lr S B R)} {fin:S→Option B} {s:S} {K1:B→Option γ} {K2:R→Option γ} (hl:l.length≤aY):gz l body fin s K1 K2=(kM body fin l 0 s).bind fun q=>q.elim K1 K2:=if_pos hl
theorem wZ {f:Nat→α→Int} {l:List α} {body:Nat→α→Unit→Option (Lr Unit Unit Int)} {fin:Unit→Option Unit} {s:Unit} {K1:Unit→Option γ} {K2:Int→Option γ} (hl:l.length≤aY) (hb:∀i x,l[i]? =some x→body i x ()=some (if f i x=0 then .go ()else .ret (f i x))) (hf:fin ()=some ():=by rfl):gz l body fin s K1 K2=if i6 f l 0=0 then K1 ()else K2 (i6 f l 0):=by
 rw[BL hl]
 have key:∀(rest pre:List α),l=pre++rest→kM body fin rest pre.length ()=some (if i6 f rest pre.length=0 then .inl ()else .inr (i6 f rest pre.length)):=by
  intro rest
  induction rest with
  |nil=>intro pre _;simp [kM,hf,i6]
  |cons x rest ih=>
   intro pre hp
   rw[kM,hb pre.length x (by rw[hp];simp),Option.bind_some,i6]
   by_cases h:f pre.length x=0
   ·simp only[h,if_true]
    have:=ih (pre++[x]) (by simpa using hp)
    simpa using this
   ·simp only[h,if_false]
 have k:=key l [] rfl
 rw[List.length_nil]at k
 rw[show s=()from rfl,k,Option.bind_some]
 split<;>rfl
theorem BM {p:Prop} [Decidable p] {k f:Int} {Y:Option (Lr Unit Unit Int)} (hk:k≠0) (h:Y=some (if f=0 then .go ()else .ret f)):(if p then some (.ret k)else Y)=some (if(if p then k else f)=0 then .go ()else .ret (if p then k else f)):=by
 by_cases hp:p
 ·simp [hp,hk]
 ·simp [hp,h]
theorem go_ret:(some (.go ()):Option (Lr Unit Unit Int))=some (if(0:Int)=0 then .go ()else .ret 0):=rfl
theorem J1 (k:Int):(if k=0 then some (.go ())else some (.ret k):Option (Lr Unit Unit Int))=some (if k=0 then .go ()else .ret k):=by split<;>rfl
theorem DN {p:α→Bool} {l:List α} {body:Nat→α→Unit→Option (Lr Unit Unit R)} {r:α→R} {fin:Unit→Option Unit} {s:Unit} {K1:Unit→Option γ} {K2:R→Option γ} (hl:l.length≤aY) (hb:∀i x,l[i]? =some x→body i x ()=some (if p x=true then .ret (r x)else .go ())) (hf:fin ()=some ():=by rfl):gz l body fin s K1 K2=match l.find? p with|some x=>K2 (r x)|none=>K1 ():=by
 rw[BL hl]
 have key:∀(rest pre:List α),l=pre++rest→kM body fin rest pre.length ()=some (match rest.find? p with|some x=>.inr (r x)|none=>.inl ()):=by
  intro rest
  induction rest with
  |nil=>intro pre _;simp [kM,hf]
  |cons x rest ih=>
   intro pre hp
   rw[kM,hb pre.length x (by rw[hp];simp),Option.bind_some,List.find?_cons]
   cases h:p x
   ·simp only[Bool.false_eq_true,if_false]
    have:=ih (pre++[x]) (by simpa using hp)
    simpa using this
   ·simp only[if_true]
 have k:=key l [] rfl
 rw[List.length_nil]at k
 rw[show s=()from rfl,k,Option.bind_some]
 cases l.find? p<;>rfl
theorem yy {l:List α} {body:Nat→α→S→Option (Lr S B R)} {fin:S→Option B} {s:S} {K1:B→Option γ} {K2:R→Option γ} (g:S→α→S) (P:Nat→S→Prop) (hl:l.length≤aY) (h0:P 0 s) (hP:∀i x s,l[i]? =some x→P i s→P (i+1) (g s x)) (hb:∀i x s,l[i]? =some x→P i s→body i x s=some (.go (g s x))):gz l body fin s K1 K2=(fin (l.foldl g s)).bind K1:=by
 rw[BL hl]
 have key:∀(rest pre:List α) (s:S),l=pre++rest→P pre.length s→kM body fin rest pre.length s=(fin (rest.foldl g s)).map .inl:=by
  intro rest
  induction rest with
  |nil=>intro pre s _ _;simp [kM]
  |cons x rest ih=>
   intro pre s hp hq
   have hx:l[pre.length]? =some x:=by rw[hp];simp
   rw[kM,hb pre.length x s hx hq,Option.bind_some,List.foldl_cons]
   have:=ih (pre++[x]) (g s x) (by simpa using hp) (by simpa using hP _ _ _ hx hq)
   simpa using this
 have k:=key l [] s rfl h0
 rw[List.length_nil]at k
 rw[k]
 cases fin (l.foldl g s)<;>rfl
def pv [Inhabited α] (l:List α) (i:Nat):α:=if 0<i then l.getD (i-1) default else default
theorem yG {l:List α} {i:Int} {x:α} (h0:0≤i) (h:l[i.toNat]? =some x):kf l i=some x:=by rw[kf,if_pos h0,h]
theorem BP [Inhabited α] {l:List α} {i:Nat} {x:α} (h:l[i]? =some x) (hl:l.length≤aY):(if decide (0<(i:Int))=true then kf l (IntKind.i64.wrap ((i:Int) -1))else some default)=some (pv l i):=by
 have hi:=(List.getElem?_eq_some_iff.1 h).1
 unfold pv
 by_cases h0:0<i
 ·rw[if_pos (by simpa using h0),if_pos h0,wrap64 (by unfold aZ;unfold aY at hl;omega)]
  refine yG (by omega) ?_
  have:((i:Int) -1).toNat=i-1:=by omega
  rw[this,List.getD,List.getElem?_eq_getElem (by omega)]
  rfl
 ·rw[if_neg (by simpa using h0),if_neg h0]
theorem ah0 [Inhabited α] {l:List α} {i:Nat} {x:α} (h:l[i]? =some x) (hl:l.length≤aY):(if decide (0<((l.take i).length:Int))=true then kf (l.take i) (IntKind.i64.wrap (((l.take i).length:Int) -1))else some default)=some (pv l i):=by
 have hi:=(List.getElem?_eq_some_iff.1 h).1
 have e:(l.take i).length=i:=by simp;omega
 rw[e]
 unfold pv
 by_cases h0:0<i
 ·rw[if_pos (by simpa using h0),if_pos h0,wrap64 (by unfold aZ;unfold aY at hl;omega)]
  refine yG (by omega) ?_
  have:((i:Int) -1).toNat=i-1:=by omega
  rw[this,List.getD,List.getElem?_take,if_pos (by omega),List.getElem?_eq_getElem (by omega)]
  rfl
 ·rw[if_neg (by simpa using h0),if_neg h0]
theorem aiM {l:List α} {i:Nat} (h:i≤l.length):HZ l none (some (i:Int))=some (l.take i):=by
 simp [HZ,h]
theorem Yb {a b:Int}:(([a,b]:List Int).find? fun n=>decide (¬n=0)).getD 0=if ¬(a=0)then a else b:=by
 by_cases ha:a=0
 ·by_cases hb:b=0<;>simp [ha,hb,List.find?]
 ·simp [ha,List.find?]
end
theorem Kj (s:ByteArray):s.toList=s.data.toList:=ByteArray.toList_eq s
theorem Pf:∀(a b:List UInt8),Lib.compareBytes a b<0↔Op.bytesLess a b=true
 |[],[]=>by simp [Lib.compareBytes,Op.bytesLess]
 |[],_::_=>by simp [Lib.compareBytes,Op.bytesLess]
 |_::_,[]=>by simp [Lib.compareBytes,Op.bytesLess]
 |a::x,b::y=>by
  rw[Lib.compareBytes,Op.bytesLess]
  by_cases h1:a<b
  ·simp [h1]
  ·by_cases h2:b<a
   ·have:a≠b:=by rintro rfl;exact h1 h2
    simp [h1,h2,this]
   ·have:a=b:=UInt8.le_antisymm (UInt8.not_lt.1 h2) (UInt8.not_lt.1 h1)
    subst this
    simp [UInt8.lt_irrefl,Pf x y]
theorem Pe:∀(a b:List UInt8),Lib.compareBytes a b=0↔a=b
 |[],[]=>by simp [Lib.compareBytes]
 |[],_::_=>by simp [Lib.compareBytes]
 |_::_,[]=>by simp [Lib.compareBytes]
 |a::x,b::y=>by
  rw[Lib.compareBytes]
  by_cases h1:a<b
  ·have:a≠b:=by rintro rfl;exact UInt8.lt_irrefl _ h1
   simp [h1,this]
  ·by_cases h2:b<a
   ·have:a≠b:=by rintro rfl;exact UInt8.lt_irrefl _ h2
    simp [h1,h2,this]
   ·have:a=b:=UInt8.le_antisymm (UInt8.not_lt.1 h2) (UInt8.not_lt.1 h1)
    subst this
    simp [UInt8.lt_irrefl,Pe x y]
def dZ (a b:aA):Bool:=decide (a.unit<b.unit)||(decide (a.unit=b.unit)&&Op.bytesLess a.param.toList b.param.toList)
def rG (a b:aA):Int:=if ¬(a.unit=b.unit)then(if a.unit<b.unit then -1 else 1)else Lib.compareBytes a.param.data.toList b.param.data.toList
theorem Pg (a b:aA):rG a b<0↔dZ a b=true:=by
 unfold rG dZ
 by_cases h:a.unit=b.unit
 ·simp [h,Kj,Pf]
 ·by_cases h2:a.unit<b.unit<;>simp [h,h2]
theorem ahA (a b:aA):decide (0≤rG a b)=!dZ a b:=by
 have:=Pg a b
 cases h:dZ a b
 ·rw[h]at this;simp at this;simp [this]
 ·rw[h]at this;simp at this;simp [this]
theorem Wv (a b:aA):rG a b=0↔a=b:=by
 obtain⟨u,p⟩:=a
 obtain⟨v,q⟩:=b
 unfold rG
 by_cases h:u=v
 ·subst h
  simp only[not_true_eq_false,if_false,Pe,aA.mk.injEq,true_and]
  exact⟨fun e=>by obtain⟨⟨p⟩⟩:=p;obtain⟨⟨q⟩⟩:=q;simp at e;subst e;rfl,fun e=>by rw[e]⟩
 ·by_cases h2:u<v<;>simp [h,h2]
end
def aU (n lo hi:Int):Bool:=decide (lo≤n∧n≤hi)
def CU (c:UInt8):Bool:=decide (97≤c.toNat∧c.toNat≤122)||decide (48≤c.toNat∧c.toNat≤57)||decide (c.toNat=45)
def zn (s:ByteArray):Bool:=s.data.toList.all CU&&decide (0<s.size)
def nT (s:ByteArray):Bool:=zn s&&decide (s.size≤20)&&decide (97≤(s.data.toList.getD 0 0).toNat)&&decide ((s.data.toList.getD 0 0).toNat≤122)
def pc (c:UInt8):Bool:=decide (32≤c.toNat∧c.toNat≤126)
def yN (s:ByteArray):Bool:=decide (0<s.size)&&decide (s.size≤60)&&(decide ((s.data.toList.getD 0 0).toNat≠32)&&decide ((s.data.toList.getD (s.size-1) 0).toNat≠32))
def xB (s:ByteArray):Bool:=s.data.toList.all pc&&yN s
theorem afB (s:ByteArray) (i:Nat) (h:i<s.size):s.data.toList.getD i 0=s[i]:=by
 rw[List.getD_eq_getElem?_getD,List.getElem?_eq_getElem (by simpa using h)];rfl
def Cb (pre:List ng):List ng→Int
 |[]=>0
 |r::rest=>
  if aU r.low 0 65535=false∨aU r.high 0 65535=false∨r.high<r.low then 1
  else if 0<pre.length∧r.low≤(pre.getLast?.map (·.high)).getD 0 then 7
  else if nT r.name=false then 5
  else if fu r.name (pre.map (·.name))=true then 6
  else Cb (pre++[r]) rest
def Au (l:List ng):Int:=if 30<l.length then 2 else Cb [] l
def slotsOf (l:List dI):List Int:=l.flatMap fun x=>if 0<x.fq then[x.gQ,x.fq]else[x.gQ]
theorem TC (l:List dI) (x:dI):slotsOf (l++[x])=slotsOf l++(if 0<x.fq then[x.gQ,x.fq]else[x.gQ]):=by simp [slotsOf]
def uS (size:Int) (pre:List dI):List dI→Int
 |[]=>0
 |x::rest=>
  if nT x.name=false then 5
  else if fu x.name (pre.map (·.name))=true then 6
  else if aU x.group 1 4=false then 4
  else if aU x.gQ 1 size=false∨aU x.fq 0 size=false∨aU x.default 0 65535=false then 1
  else if x.gQ=x.fq∨fu x.gQ (slotsOf pre)=true∨(0<x.fq∧fu x.fq (slotsOf pre)=true)then 12
  else if Au x.ranges=0 then uS size (pre++[x]) rest else Au x.ranges
def mW (p:bV):Int:=
 if nT p.name=false then 5 else if aU p.size 1 512=false then 1 else if p.params.length=0 then 8 else if 40<p.params.length then 2 else uS p.size [] p.params
def oD (xa xf:Int):List Int:=if xf=0 then[xa]else[xa,xf]
def xK (size:Int) (pre:List dI) (x:dI):Int:=
 if nT x.name=false then 5
 else if fu x.name (pre.map (·.name))=true then 6
 else if aU x.group 1 4=false then 4
 else if aU x.gQ 1 size=false∨aU x.fq 0 size=false∨aU x.default 0 65535=false then 1
 else if x.gQ=x.fq∨fu x.gQ (slotsOf pre)=true∨(0<x.fq∧fu x.fq (slotsOf pre)=true)then 12
 else Au x.ranges
theorem afn (size:Int) (pre:List dI) (x:dI) (rest:List dI):uS size pre (x::rest)=if xK size pre x=0 then uS size (pre++[x]) rest else xK size pre x:=by
 rw[uS,xK]
 split<;>first|(simp;done)|skip
 split<;>first|(simp;done)|skip
 split<;>first|(simp;done)|skip
 split<;>first|(simp;done)|skip
 split<;>first|(simp;done)|skip
def Eb (xa xf ya yf:Int):Bool:=(oD xa xf).any fun s=>fu s (oD ya yf)
def Xi (xa xf:Int) (l:List dI):Bool:=l.any fun y=>Eb xa xf y.gQ y.fq
theorem adv {s:Int} {l:List dI} (h:∀y∈l,0≤y.fq):s∈slotsOf l↔∃y∈l,s∈oD y.gQ y.fq:=by
 simp only[slotsOf,List.mem_flatMap]
 constructor
 ·rintro⟨y,hy,hs⟩
  refine⟨y,hy,?_⟩
  have:=h y hy
  unfold oD
  split at hs
  ·rw[if_neg (by omega)];exact hs
  ·split
   ·exact hs
   ·simp at hs;simp [hs]
 ·rintro⟨y,hy,hs⟩
  refine⟨y,hy,?_⟩
  have:=h y hy
  unfold oD at hs
  split at hs
  ·rw[if_neg (by omega)];exact hs
  ·rw[if_pos (by omega)];exact hs
theorem afp {xa xf:Int} {l:List dI} (h:∀y∈l,0≤y.fq) (hx:0≤xf):Xi xa xf l=true↔(fu xa (slotsOf l)=true∨(0<xf∧fu xf (slotsOf l)=true)):=by
 simp only[BJ,adv h,Xi,Eb,List.any_eq_true]
 constructor
 ·rintro⟨y,hy,s,hs,hm⟩
  unfold oD at hs
  split at hs
  ·simp at hs;subst hs;exact .inl ⟨y,hy,hm⟩
  ·simp at hs
   rcases hs with rfl|rfl
   ·exact .inl ⟨y,hy,hm⟩
   ·exact .inr ⟨by omega,y,hy,hm⟩
 ·rintro(⟨y,hy,hm⟩|⟨h0,y,hy,hm⟩)
  ·exact⟨y,hy,xa,by unfold oD;split<;>simp,hm⟩
  ·exact⟨y,hy,xf,by unfold oD;rw[if_neg (by omega)];simp,hm⟩
theorem afo {size:Int} {pre:List dI} {x:dI} (h:xK size pre x=0):0≤x.fq:=by
 unfold xK at h
 split at h
 ·cases h
 split at h
 ·cases h
 split at h
 ·cases h
 split at h
 ·cases h
 rename_i h4
 cases hf:aU x.fq 0 size
 ·exact absurd (.inr (.inl hf)) h4
 ·simp [aU]at hf;exact hf.1
def xI (pre:List bV):List bV→Int
 |[]=>0
 |p::rest=>if mW p=0 then(if fu p.name (pre.map (·.name))=true then 6 else xI (pre++[p]) rest)else mW p
def tP (l:List bV):Int:=if 60<l.length then 2 else xI [] l
def eP (nm:ByteArray):List bV→bV×Bool
 |[]=>(⟨⟨#[]⟩,0,[]⟩,false)
 |p::rest=>if p.name=nm then(p,true)else eP nm rest
def uM (f:Nat→Bool):Nat→Nat→Bool
 |0,_=>true
 |n+1,a=>if 512<a∨f a=true then false else uM f n (a+1)
def oC (f:Int→Nat→Bool) (u:Int) (a s:Nat):Int→Nat→Bool:=fun v k=>if v=u∧a≤k∧k<a+s then true else f v k
def A8 (pre:List Int) (n:Int):Bool:=match pre.getLast? with|some m=>decide (n≤m)|none=>false
def jl (gC:List bV) (u:bX):Int:=u.address+(eP u.profile gC).1.size-1
def Az (gC:List bV) (u:bX) (pre:List bX):Bool:=pre.any fun x=>decide (x.univ=u.univ∧x.address≤jl gC u∧u.address≤jl gC x)
def xJ (gC:List bV) (pre:List bX):List bX→Int
 |[]=>0
 |u::rest=>
  if aU u.number 1 9999=false then 1
  else if A8 (pre.map (·.number)) u.number=true then 7
  else if(eP u.profile gC).2=false then 5
  else if aU u.univ 1 64=false∨aU u.address 1 512=false∨512<jl gC u then 1
  else if Az gC u pre=true then 12
  else xJ gC (pre++[u]) rest
def dO (r:bu):Int:=if tP r.bz=0 then(if 400<r.units.length then 2 else xJ r.bz [] r.units)else tP r.bz
def DZ (gC:List bV) (pre:List bX):Prop:=∀x∈pre,1≤x.address∧x.address≤jl gC x∧jl gC x≤512
def Ax (gC:List bV) (pre:List bX) (f:Int→Nat→Bool):Prop:=∀v k,f v k=true↔∃x∈pre,x.univ=v∧x.address≤(k:Int)∧(k:Int)≤jl gC x
theorem Ax.nil (gC:List bV):Ax gC [] (fun _ _=>false):=fun v k=>by simp
theorem Ax.snoc {gC:List bV} {pre:List bX} {f:Int→Nat→Bool} (h:Ax gC pre f) (u:bX) (a s:Nat) (ha:u.address=a) (hs:jl gC u=(a:Int)+s-1):Ax gC (pre++[u]) (oC f u.univ a s):=by
 intro v k
 unfold oC
 by_cases e:v=u.univ∧a≤k∧k<a+s
 ·rw[if_pos e]
  refine⟨fun _=>⟨u,by simp,e.1.symm,by omega,by omega⟩,fun _=>rfl⟩
 ·rw[if_neg e,h v k]
  constructor
  ·rintro⟨x,hx,h1⟩
   exact⟨x,by simp [hx],h1⟩
  ·rintro⟨x,hx,h1,h2,h3⟩
   simp only[List.mem_append,List.mem_singleton]at hx
   rcases hx with hx|rfl
   ·exact⟨x,hx,h1,h2,h3⟩
   ·exact absurd ⟨h1.symm,by omega,by omega⟩ e
theorem Oi (f:Nat→Bool):∀(s a:Nat),uM f s a=true↔∀k,a≤k→k<a+s→k≤512∧f k=false
 |0,a=>by simp [uM];intro k h1 h2;omega
 |s+1,a=>by
  rw[uM]
  by_cases e:512<a∨f a=true
  ·rw[if_pos e]
   simp only[Bool.false_eq_true,false_iff]
   intro h
   have:=h a (Nat.le_refl _) (by omega)
   rcases e with e|e
   ·omega
   ·rw[e]at this;simp at this
  ·rw[if_neg e,Oi f s (a+1)]
   constructor
   ·intro h k h1 h2
    by_cases hk:k=a
    ·subst hk
     refine⟨by omega,?_⟩
     cases hf:f k
     ·rfl
     ·exact absurd (.inr hf) e
    ·exact h k (by omega) (by omega)
   ·intro h k h1 h2
    exact h k (by omega) (by omega)
theorem aeo {gC:List bV} {pre:List bX} {f:Int→Nat→Bool} (h:Ax gC pre f) (hok:DZ gC pre) (u:bX) (a s:Nat) (ha:u.address=a) (h1:1≤s) (hs:jl gC u=(a:Int)+s-1) (h2:jl gC u≤512):uM (f u.univ) s a=!Az gC u pre:=by
 rw[Bool.eq_iff_iff,Oi]
 simp only[Bool.not_eq_true',Az,List.any_eq_false,decide_eq_true_eq,not_and]
 constructor
 ·intro hf x hx e1 e2 e3
  have hx':=hok x hx
  obtain⟨k,hk⟩:∃k:Nat,(k:Int)=max x.address a:=⟨(max x.address (a:Int)).toNat,by omega⟩
  have hf':=(hf k (by omega) (by omega)).2
  have:f u.univ k=true:=(h u.univ k).2 ⟨x,hx,e1,by omega,by omega⟩
  rw[this]at hf';simp at hf'
 ·intro hf k h3 h4
  refine⟨by omega,?_⟩
  cases hfk:f u.univ k
  ·rfl
  ·obtain⟨x,hx,e1,e2,e3⟩:=(h u.univ k).1 hfk
   exact absurd (show u.address≤jl gC x by omega) (hf x hx e1 (by omega))
theorem acp {p:bV} (h:mW p=0):1≤p.size∧p.size≤512:=by
 unfold mW at h
 by_cases h1:nT p.name=false
 ·rw[if_pos h1]at h;simp at h
 ·rw[if_neg h1]at h
  by_cases h2:aU p.size 1 512=false
  ·rw[if_pos h2]at h;simp at h
  ·simpa [aU]using h2
theorem T5:∀(l pre:List bV),xI pre l=0→∀p∈l,1≤p.size∧p.size≤512
 |[],pre,h,p,hp=>by simp at hp
 |q::rest,pre,h,p,hp=>by
  rw[xI]at h
  by_cases e:mW q=0
  ·rw[if_pos e]at h
   by_cases e2:fu q.name (pre.map (·.name))=true
   ·rw[if_pos e2]at h;simp at h
   ·rw[if_neg e2]at h
    simp only[List.mem_cons]at hp
    rcases hp with rfl|hp
    ·exact acp e
    ·exact T5 rest _ h p hp
  ·rw[if_neg e]at h;exact absurd h e
theorem Ug {l:List bV} (h:tP l=0):∀p∈l,1≤p.size∧p.size≤512:=by
 unfold tP at h
 by_cases e:60<l.length
 ·rw[if_pos e]at h;simp at h
 ·rw[if_neg e]at h;exact T5 l [] h
theorem FI (nm:ByteArray):∀(l:List bV),(eP nm l).2=true→(eP nm l).1∈l
 |[],h=>by simp [eP]at h
 |p::r,h=>by
  rw[eP]at h ⊢
  by_cases e:p.name=nm
  ·rw[if_pos e];simp
  ·rw[if_neg e]at h ⊢
   exact List.mem_cons_of_mem _ (FI nm r h)
theorem DZ.snoc {gC:List bV} {pre:List bX} (h:DZ gC pre) {u:bX} (h1:1≤u.address∧u.address≤jl gC u∧jl gC u≤512):DZ gC (pre++[u]):=fun x hx=>by
 simp only[List.mem_append,List.mem_singleton]at hx
 rcases hx with hx|rfl
 ·exact h x hx
 ·exact h1
theorem nO (n lo hi:Int) (σ:Heap):mR [.int .i64 n,.int .i64 lo,.int .i64 hi] σ=some (.bool (aU n lo hi),σ):=by
 refine wrap_eq rfl ?_ rfl
 show M3 _ _ _ σ=_
 unfold M3 aU
 by_cases h:lo≤n<;>simp only[aB,reduceCtorEq,h,true_and,false_and]
theorem nM (n lo hi:Int) (σ:Heap):oh [.int .i64 n,.int .i64 lo,.int .i64 hi] σ=some (.bool (aU n lo hi),σ):=by
 refine wrap_eq rfl ?_ rfl
 show NC _ _ _ σ=_
 unfold NC aU
 by_cases h:lo≤n<;>simp only[aB,reduceCtorEq,h,true_and,false_and]
theorem Km (b:Bool) (n:Int) (σ:Heap):Fy [.bool b,.int .i64 n] σ=some (.int .i64 (if b=true then n else 0),σ):=by
 refine wrap_eq rfl ?_ rfl
 show NM _ _ σ=_
 unfold NM
 cases b<;>simp [aB,reduceCtorEq]
theorem D9 (s:ByteArray) {i:Nat} (h:i<s.size):A.nr (.str s) (.int .i64 (i:Int))=some (.int .u8 (s.data.toList.getD i 0).toNat):=by
 have h1:s[i]? =some s[i]:=by simp [h]
 simp [A.nr,A.idx,h,afB s i h]
 rfl
theorem Jw (s:ByteArray):(decide (¬s=⟨#[]⟩))=decide (0<s.size):=by
 rw[decide_eq_decide]
 constructor
 ·intro h
  rcases Nat.eq_zero_or_pos s.size with e|e
  ·exact absurd (ByteArray.ext (Array.eq_empty_of_size_eq_zero e)) h
  ·exact e
 ·rintro h rfl;exact absurd h (by decide)
theorem aiS (s:ByteArray) (hs:gD s) (σ:Heap):N3 [.str s] σ=some (.bool (zn s),σ):=by
 refine wrap_eq rfl ?_ rfl
 show Oe _ σ=_
 unfold Oe
 simp only[aB,reduceCtorEq]
 refine(JV (p:=CU) s (some (.bool false,σ)) ?_ ?_ ?_).trans ?_
 ·intro i c hi hc
  have h1:aZ ((i:Int)+1):=by unfold gD aY at hs;unfold aZ;omega
  have h2:(i:Int)<s.size:=by omega
  simp only[aB,reduceCtorEq,h2,hc,wrap64 h1,CU]
  clear hc h1
  repeat' ((first|rw[mh]|rw[mg]|rw[me]|rw[lY]|rw[l9]|rw[l8]);split<;>try simp only[aB,reduceCtorEq, *])
  all_goals first|rfl|(refine(if_pos ?_).symm;simp;omega)|(refine(if_neg ?_).symm;simp;omega)|(refine congrArg some (congrArg (fun b=>(U.bool b,σ)) ?_);rw[Bool.eq_iff_iff];simp;omega)
 ·simp only[aB,reduceCtorEq,Int.lt_irrefl]
 ·intro i;simp only[aB,reduceCtorEq]
 ·simp only[aB,reduceCtorEq,Jw,zn]
  cases s.data.toList.all CU<;>simp
theorem ad8 (s:ByteArray) (hs:gD s) (σ:Heap):Nu [.str s] σ=some (.bool (zn s),σ):=by
 refine wrap_eq rfl ?_ rfl
 show NB _ σ=_
 unfold NB
 simp only[aB,reduceCtorEq]
 refine(JV (p:=CU) s (some (.bool false,σ)) ?_ ?_ ?_).trans ?_
 ·intro i c hi hc
  have h1:aZ ((i:Int)+1):=by unfold gD aY at hs;unfold aZ;omega
  have h2:(i:Int)<s.size:=by omega
  simp only[aB,reduceCtorEq,h2,hc,wrap64 h1,CU]
  clear hc h1
  repeat' ((first|rw[mh]|rw[mg]|rw[me]|rw[lY]|rw[l9]|rw[l8]);split<;>try simp only[aB,reduceCtorEq, *])
  all_goals first|rfl|(refine(if_pos ?_).symm;simp;omega)|(refine(if_neg ?_).symm;simp;omega)|(refine congrArg some (congrArg (fun b=>(U.bool b,σ)) ?_);rw[Bool.eq_iff_iff];simp;omega)
 ·simp only[aB,reduceCtorEq,Int.lt_irrefl]
 ·intro i;simp only[aB,reduceCtorEq]
 ·simp only[aB,reduceCtorEq,Jw,zn]
  cases s.data.toList.all CU<;>simp
theorem V9 {s:ByteArray} (h:zn s=true):0<s.size:=by
 simp only[zn,Bool.and_eq_true,decide_eq_true_eq]at h;exact h.2
theorem Kl (s:ByteArray) (hs:gD s) (σ:Heap):DA [.str s] σ=some (.bool (nT s),σ):=by
 refine wrap_eq rfl ?_ rfl
 show NL _ σ=_
 unfold NL
 simp only[aB,reduceCtorEq,aiS s hs]
 cases h:zn s
 ·simp [aB,reduceCtorEq,nT,h]
 ·have h0:=V9 h
  have:=D9 s h0
  simp only[Int.ofNat_zero]at this
  simp only[aB,reduceCtorEq,this]
  simp only[nT,h,Bool.true_and]
  generalize s.data.toList.getD 0 0=c0 at *
  repeat' ((first|rw[mh]|rw[mg]|rw[me]|rw[lY]|rw[l9]|rw[l8]);split<;>try simp only[aB,reduceCtorEq, *])
  all_goals first|rfl|(refine(if_pos ?_).symm;simp;omega)|(refine(if_neg ?_).symm;simp;omega)|(refine congrArg some (congrArg (fun b=>(U.bool b,σ)) ?_);rw[Bool.eq_iff_iff];simp;omega)
theorem Jt (s:ByteArray) (hs:gD s) (σ:Heap):Dx [.str s] σ=some (.bool (nT s),σ):=by
 refine wrap_eq rfl ?_ rfl
 show Nz _ σ=_
 unfold Nz
 simp only[aB,reduceCtorEq,ad8 s hs]
 cases h:zn s
 ·simp [aB,reduceCtorEq,nT,h]
 ·have h0:=V9 h
  have:=D9 s h0
  simp only[Int.ofNat_zero]at this
  simp only[aB,reduceCtorEq,this]
  simp only[nT,h,Bool.true_and]
  generalize s.data.toList.getD 0 0=c0 at *
  repeat' ((first|rw[mh]|rw[mg]|rw[me]|rw[lY]|rw[l9]|rw[l8]);split<;>try simp only[aB,reduceCtorEq, *])
  all_goals first|rfl|(refine(if_pos ?_).symm;simp;omega)|(refine(if_neg ?_).symm;simp;omega)|(refine congrArg some (congrArg (fun b=>(U.bool b,σ)) ?_);rw[Bool.eq_iff_iff];simp;omega)
theorem Vx (s:ByteArray) (hs:gD s) (σ:Heap):I9 [.str s] σ=some (.bool (xB s),σ):=by
 refine wrap_eq rfl ?_ rfl
 show Nj _ σ=_
 unfold Nj
 simp only[aB,reduceCtorEq]
 refine(JV (p:=pc) s (some (.bool false,σ)) ?_ ?_ ?_).trans ?_
 ·intro i c hi hc
  have h1:aZ ((i:Int)+1):=by unfold gD aY at hs;unfold aZ;omega
  have h2:(i:Int)<s.size:=by omega
  simp only[aB,reduceCtorEq,h2,hc,wrap64 h1,pc]
  clear h1
  repeat' ((first|rw[mh]|rw[mg]|rw[me]|rw[lY]|rw[l9]|rw[l8]);split<;>try simp only[aB,reduceCtorEq, *])
  all_goals first|rfl|(refine(if_pos ?_).symm;simp;omega)|(refine(if_neg ?_).symm;simp;omega)|(refine congrArg some (congrArg (fun b=>(U.bool b,σ)) ?_);rw[Bool.eq_iff_iff];simp;omega)
 ·simp only[aB,reduceCtorEq,Int.lt_irrefl]
 ·intro i;simp only[aB,reduceCtorEq]
 ·simp only[aB,reduceCtorEq,Jw,xB]
  cases s.data.toList.all pc
  ·simp
  ·simp only[if_true,Bool.true_and]
   by_cases h0:0<s.size
   ·by_cases ug:s.size≤60
    ·have e0:=D9 s h0
     have e1:=D9 s (i:=s.size-1) (by omega)
     simp only[Int.ofNat_zero]at e0
     rw[show((s.size-1:Nat):Int)=(s.size:Int) -1 by omega]at e1
     have h1:aZ ((s.size:Int) -1):=by unfold gD aY at hs;unfold aZ;omega
     have oG:(s.size:Int)≤60:=by omega
     have hw:=wrap64 h1
     simp only[yN,h0,ug]
     generalize s.data.toList.getD 0 0=c0 at *
     generalize s.data.toList.getD (s.size-1) 0=c1 at *
     simp only[aB,reduceCtorEq,h0,oG,e0,e1,hw]
     repeat' ((first|rw[mh]|rw[mg]|rw[me]|rw[lY]|rw[l9]|rw[l8]);split<;>try simp only[aB,reduceCtorEq, *])
     all_goals first|rfl|(refine(if_pos ?_).symm;simp;omega)|(refine(if_neg ?_).symm;simp;omega)|(refine congrArg some (congrArg (fun b=>(U.bool b,σ)) ?_);rw[Bool.eq_iff_iff];simp;omega)
    ·have oG:¬(s.size:Int)≤60:=by omega
     simp [aB,reduceCtorEq,h0,oG,yN,ug]
   ·simp [aB,reduceCtorEq,h0,yN]
theorem TG (s:ByteArray) (hs:gD s) (σ:Heap):I6 [.str s] σ=some (.bool (xB s),σ):=by
 refine wrap_eq rfl ?_ rfl
 show Na _ σ=_
 have e:(s=⟨#[]⟩)↔¬0<s.size:=by
  have:=Jw s
  rw[decide_eq_decide]at this
  rw[←this];simp
 have tail:xB s=(yN s&&s.data.toList.all pc):=by unfold xB;exact Bool.and_comm _ _
 unfold Na
 simp only[aB,reduceCtorEq,e]
 by_cases h0:0<s.size
 ·by_cases ug:s.size≤60
  ·have e0:=D9 s h0
   have e1:=D9 s (i:=s.size-1) (by omega)
   simp only[Int.ofNat_zero]at e0
   rw[show((s.size-1:Nat):Int)=(s.size:Int) -1 by omega]at e1
   have h1:aZ ((s.size:Int) -1):=by unfold gD aY at hs;unfold aZ;omega
   have oG:¬(60:Int)<(s.size:Int):=by omega
   have hw:=wrap64 h1
   have Yg:yN s=(decide (¬(s.data.toList.getD 0 0).toNat=32)&&decide (¬(s.data.toList.getD (s.size-1) 0).toNat=32)):=by simp [yN,h0,ug]
   rw[tail,Yg]
   clear tail Yg
   generalize s.data.toList.getD 0 0=c0 at *
   generalize s.data.toList.getD (s.size-1) 0=c1 at *
   by_cases k0:c0.toNat=32
   ·have LG:(c0.toNat:Int)=32:=by omega
    simp [aB,reduceCtorEq,h0,oG,e0,LG,k0]
   ·have LG:¬(c0.toNat:Int)=32:=by omega
    by_cases k1:c1.toNat=32
    ·have HQ:(c1.toNat:Int)=32:=by omega
     simp [aB,reduceCtorEq,h0,oG,e0,LG,hw,e1,HQ,k1]
    ·have HQ:¬(c1.toNat:Int)=32:=by omega
     simp only[aB,reduceCtorEq,h0,oG,e0,LG,hw,e1,HQ,k0,k1]
     refine(JV (p:=pc) s (some (.bool false,σ)) ?_ ?_ ?_).trans ?_
     ·intro i c hi hc
      have h1:aZ ((i:Int)+1):=by unfold gD aY at hs;unfold aZ;omega
      have h2:(i:Int)<s.size:=by omega
      simp only[aB,reduceCtorEq,h2,hc,wrap64 h1,pc]
      clear h1
      repeat' ((first|rw[mh]|rw[mg]|rw[me]|rw[lY]|rw[l9]|rw[l8]);split<;>try simp only[aB,reduceCtorEq, *])
      all_goals first|rfl|(refine(if_pos ?_).symm;simp;omega)|(refine(if_neg ?_).symm;simp;omega)|(refine congrArg some (congrArg (fun b=>(U.bool b,σ)) ?_);rw[Bool.eq_iff_iff];simp;omega)
     ·simp only[aB,reduceCtorEq,Int.lt_irrefl]
     ·intro i;simp only[aB,reduceCtorEq]
     ·simp only[aB,reduceCtorEq]
      cases s.data.toList.all pc<;>simp
  ·have oG:(60:Int)<(s.size:Int):=by omega
   simp [aB,reduceCtorEq,h0,oG,tail,yN,ug]
 ·simp [aB,reduceCtorEq,h0,tail,yN]
theorem DF (n:Int) (σ:Heap):Ac [.int .i64 n] σ=some (.bool (aU n 0 36000000),σ):=by
 refine wrap_eq rfl ?_ rfl
 show NA (.int .i64 n) σ=_
 unfold NA
 simp only[aB,reduceCtorEq,nM]
theorem UY {γ:Type} {f:List U→Heap→Option (AX×List U×Heap)} (a n:Nat) (p:Nat→Bool) (vs:Nat→List U) (σ:Heap) (fin:AX×List U×Heap) (ret:Nat→AX×List U×Heap) {k:AX×List U×Heap→Option γ} (K1 K2:Option γ)
  (hstep:∀(i:Nat),a≤i→i<a+n→f (vs i) σ=if p i=true then some (ret i)else some (.normal,vs (i+1),σ)) (hend:f (vs (a+n)) σ=some fin) (hk1:k fin=K1) (hk2:∀i,k (ret i)=K2)
  (za:fin.1≠.normal:=by simp) (Cj:∀i,(ret i).1≠.normal:=by intros;simp) {v:List U} {σ':Heap} (hv:v=vs a:=by rfl) (fQ:σ'=σ:=by rfl):
  (A.loop f v σ').bind k=if(List.range' a n).any p=true then K2 else K1:=by
 refine xg (List.range' a n) p (fun i=>vs (a+i)) σ fin (fun i=>ret (a+i)) K1 K2 ?_ (by rw[List.length_range'];exact hend) hk1 (fun i=>hk2 _) za (fun i=>Cj _) hv fQ
 intro i x hx
 obtain⟨h1,h2⟩:=List.getElem?_eq_some_iff.1 hx
 rw[List.length_range']at h1
 obtain rfl:a+i=x:=by simpa [List.getElem_range']using h2
 exact hstep (a+i) (by omega) (by omega)
def iZ:kL:=⟨0,0⟩
def B8 (p:kL):Bool:=!(aU p.time 0 1000)||!(aU p.way 0 1000)
def zf (l:List kL) (i:Nat):Bool:=decide ((l.getD i iZ).time≤(l.getD (i-1) iZ).time∨(l.getD i iZ).way<(l.getD (i-1) iZ).way)
def Rb (l:List kL):Int:=
 if l.any B8=true then 1
 else if ¬((l.getD 0 iZ).time=0∧(l.getD 0 iZ).way=0)then 3
 else if ¬((l.getD (l.length-1) iZ).time=1000∧(l.getD (l.length-1) iZ).way=1000)then 3
 else if(List.range' 1 (l.length-1)).any (zf l)=true then 7 else 0
def sy (c:rB):Int:=
 if aU c.kind 1 6=false then 4
 else if c.kind=6 then(if c.points.length<2 then 8 else if 20<c.points.length then 2 else Rb c.points)
 else if 0<c.points.length then 3 else 0
theorem DW (x:kL) (a b:Int):A.neq (.s [0,0]) (.agg (cW x)) (.agg [.int .i64 a,.int .i64 b])=some (.bool (decide (¬(x.time=a∧x.way=b)))):=by
 simp only[A.neq,A.ff,cW,A.iK,A.uf,A.oL,if_true,Option.bind_some,Option.map_some]
 congr 2
 rw[Bool.eq_iff_iff]
 simp
theorem Lc (a b c:U):A.splice 0 [a] [b,c]=some [a,c]:=rfl
theorem Ld (a b c:U):A.splice 1 [a] [b,c]=some [b,a]:=rfl
theorem An {l:List kL} {i:Nat} (h:i<l.length):l[i]? =some (l.getD i iZ):=by simp [h]
theorem abW (c:rB) (σ:Heap):MA [.agg (oq c)] σ=some (.int .i64 (sy c),σ):=by
 refine wrap_eq rfl ?_ rfl
 show MD (.agg (oq c)) σ=_
 unfold MD sy
 simp only[aB,reduceCtorEq,mF,mG,mI,mH,mJ,nM]
 cases hk:aU c.kind 1 6
 ·simp only[aB,reduceCtorEq]
 by_cases h6:c.kind=6
 case neg=>
  by_cases h0:0<c.points.length
  ·simp only[aB,reduceCtorEq,mF,mG,mI,mH,mJ,h6,h0,show(0:Int)<c.points.length by omega]
  ·simp only[aB,reduceCtorEq,mF,mG,mI,mH,mJ,h6,h0,show ¬(0:Int)<c.points.length by omega]
 by_cases h2:c.points.length<2
 ·simp only[aB,reduceCtorEq,mF,mG,mI,mH,mJ,h6,h2,show(c.points.length:Int)<2 by omega]
 by_cases Hj:20<c.points.length
 ·simp only[aB,reduceCtorEq,mF,mG,mI,mH,mJ,h6,h2,Hj,show ¬(c.points.length:Int)<2 by omega,show(20:Int)<c.points.length by omega]
 simp only[aB,reduceCtorEq,mF,mG,mI,mH,mJ,h6,h2,Hj,show ¬(c.points.length:Int)<2 by omega,show ¬(20:Int)<c.points.length by omega]
 have uj:c.points.length≤aY:=by unfold aY;omega
 refine(xg c.points B8 (fun i=>[.lbx (oq c),.int .i64 0,.int .i64 (i:Int)]) σ (.exit 1,[.lbx (oq c),.int .i64 0,.int .i64 (c.points.length:Int)],σ) (fun i=>(.ret,[.lbx (oq c),.int .i64 1,.int .i64 (i:Int)],σ))
  (some (.int .i64 (if ¬((c.points.getD 0 iZ).time=0∧(c.points.getD 0 iZ).way=0)then 3
 else if ¬((c.points.getD (c.points.length-1) iZ).time=1000∧(c.points.getD (c.points.length-1) iZ).way=1000)then 3
 else if(List.range' 1 (c.points.length-1)).any (zf c.points)=true then 7 else 0),σ)) (some (.int .i64 1,σ)) ?_ ?_ ?_ ?_).trans ?_
 ·intro i x hx
  obtain⟨g1,g2,g3⟩:=uF 2 cW hx
  have g3:=g3 uj
  simp only[aB,reduceCtorEq,wJ,wK,wT,wQ,wV,g1,g2,g3,nM,B8]
  rcases Bool.eq_false_or_eq_true (aU x.time 0 1000)with e|e
  ·rcases Bool.eq_false_or_eq_true (aU x.way 0 1000)with e'|e'<;>simp only[aB,reduceCtorEq,nM,e,e',Bool.false_or,Bool.or_false]
  ·simp only[aB,reduceCtorEq,e,Bool.true_or]
 ·exact th _ _ _
 ·have g0:=jy 2 cW c.points (An (l:=c.points) (i:=0) (by omega))
  have gl:=Ae 2 cW c.points (k:=c.points.length) (by omega) (An (by omega))
  have hw:IntKind.i64.wrap ((c.points.length:Int) -1)=(c.points.length:Int) -1:=wrap64 (by unfold aZ;omega)
  simp only[Int.ofNat_zero,Int.natCast_zero]at g0
  simp only[aB,reduceCtorEq,mF,mG,mI,mH,mJ,wJ,wK,wT,wQ,wV,g0,DW]
  by_cases e1:(c.points.getD 0 iZ).time=0∧(c.points.getD 0 iZ).way=0
  case neg=>simp only[aB,reduceCtorEq,e1]
  simp only[aB,reduceCtorEq,mF,mG,mI,mH,mJ,e1,hw,gl,wJ,wK,wT,wQ,wV]
  by_cases e2:(c.points.getD (c.points.length-1) iZ).time=1000∧(c.points.getD (c.points.length-1) iZ).way=1000
  case neg=>
   simp only[Lc,Ld,aB,reduceCtorEq,DW,e2]
  simp only[Lc,Ld,aB,reduceCtorEq,DW,e2]
  refine(UY 1 (c.points.length-1) (zf c.points) (fun i=>[.lbx (oq c),.int .i64 0,.int .i64 (i:Int)]) σ (.exit 3,[.lbx (oq c),.int .i64 0,.int .i64 (c.points.length:Int)],σ) (fun i=>(.ret,[.lbx (oq c),.int .i64 7,.int .i64 (i:Int)],σ)) (some (U.int .i64 0,σ)) (some (U.int .i64 7,σ)) ?_ ?_ ?_ ?_).trans ?_
  ·intro i hi1 hi2
   have k1:=jy 2 cW c.points (An (l:=c.points) (i:=i) (by omega))
   have k2:=Ae 2 cW c.points (k:=i) (by omega) (An (by omega))
   have k3:IntKind.i64.wrap ((i:Int) -1)=(i:Int) -1:=wrap64 (by unfold aZ;omega)
   have k4:IntKind.i64.wrap ((i:Int)+1)=((i+1:Nat):Int):=by rw[wrap64 (by unfold aZ;omega)];omega
   have k5:(i:Int)<c.points.length:=by omega
   simp only[aB,reduceCtorEq,mF,mG,mI,mH,mJ,wJ,wK,wT,wQ,wV,k1,k2,k3,k5,zf]
   by_cases q1:(c.points.getD i iZ).time≤(c.points.getD (i-1) iZ).time
   ·simp only[aB,reduceCtorEq,q1]
   ·by_cases q2:(c.points.getD i iZ).way<(c.points.getD (i-1) iZ).way<;>simp only[aB,reduceCtorEq,mF,mG,mI,mH,mJ,wJ,wK,wT,wQ,wV,k1,k2,k3,k4,q1,q2]
  ·rw[show 1+(c.points.length-1)=c.points.length by omega]
   simp only[aB,reduceCtorEq,mF,mG,mI,mH,mJ,Int.lt_irrefl]
  ·simp only[aB,reduceCtorEq]
  ·intro i;simp only[aB,reduceCtorEq]
  ·cases(List.range' 1 (c.points.length-1)).any (zf c.points)<;>rfl
 ·intro i;simp only[aB,reduceCtorEq]
 ·unfold Rb
  cases c.points.any B8<;>rfl
theorem acg (c:rB) (σ:Heap):Mj [.agg (oq c)] σ=some (.int .i64 (sy c),σ):=by
 refine wrap_eq rfl ?_ rfl
 show Mm (.agg (oq c)) σ=_
 unfold Mm sy
 simp only[aB,reduceCtorEq,mF,mG,mI,mH,mJ,nO]
 cases hk:aU c.kind 1 6
 ·simp only[aB,reduceCtorEq]
 by_cases h6:c.kind=6
 case neg=>
  by_cases h0:0<c.points.length
  ·simp only[aB,reduceCtorEq,mF,mG,mI,mH,mJ,h6,h0,Km,show(0:Int)<c.points.length by omega]
  ·simp only[aB,reduceCtorEq,mF,mG,mI,mH,mJ,h6,h0,Km,show ¬(0:Int)<c.points.length by omega]
 by_cases h2:c.points.length<2
 ·simp only[aB,reduceCtorEq,mF,mG,mI,mH,mJ,h6,h2,show(c.points.length:Int)<2 by omega]
 by_cases Hj:20<c.points.length
 ·simp only[aB,reduceCtorEq,mF,mG,mI,mH,mJ,h6,h2,Hj,show ¬(c.points.length:Int)<2 by omega,show(20:Int)<c.points.length by omega]
 simp only[aB,reduceCtorEq,mF,mG,mI,mH,mJ,h6,h2,Hj,show ¬(c.points.length:Int)<2 by omega,show ¬(20:Int)<c.points.length by omega]
 have uj:c.points.length≤aY:=by unfold aY;omega
 refine(xg c.points B8 (fun i=>[.int .i64 0,.int .i64 (i:Int)]) σ (.exit 0,[.int .i64 0,.int .i64 (c.points.length:Int)],σ) (fun i=>(.ret,[.int .i64 1,.int .i64 (i:Int)],σ))
  (some (.int .i64 (if ¬((c.points.getD 0 iZ).time=0∧(c.points.getD 0 iZ).way=0)then 3
 else if ¬((c.points.getD (c.points.length-1) iZ).time=1000∧(c.points.getD (c.points.length-1) iZ).way=1000)then 3
 else if(List.range' 1 (c.points.length-1)).any (zf c.points)=true then 7 else 0),σ)) (some (.int .i64 1,σ)) ?_ ?_ ?_ ?_).trans ?_
 ·intro i x hx
  obtain⟨g1,g2,g3⟩:=uF 2 cW hx
  have g3:=g3 uj
  simp only[aB,reduceCtorEq,wJ,wK,wT,wQ,wV,g1,g2,g3,nO,B8]
  rcases Bool.eq_false_or_eq_true (aU x.time 0 1000)with e|e
  ·rcases Bool.eq_false_or_eq_true (aU x.way 0 1000)with e'|e'<;>simp only[aB,reduceCtorEq,nO,e,e',Bool.false_or,Bool.or_false]
  ·simp only[aB,reduceCtorEq,e,Bool.true_or]
 ·exact th _ _ _
 ·have g0:=jy 2 cW c.points (An (l:=c.points) (i:=0) (by omega))
  have gl:=Ae 2 cW c.points (k:=c.points.length) (by omega) (An (by omega))
  have hw:IntKind.i64.wrap ((c.points.length:Int) -1)=(c.points.length:Int) -1:=wrap64 (by unfold aZ;omega)
  simp only[Int.ofNat_zero,Int.natCast_zero]at g0
  simp only[aB,reduceCtorEq,mF,mG,mI,mH,mJ,wJ,wK,wT,wQ,wV,g0,DW]
  by_cases e1:(c.points.getD 0 iZ).time=0∧(c.points.getD 0 iZ).way=0
  case neg=>simp only[aB,reduceCtorEq,e1]
  simp only[aB,reduceCtorEq,mF,mG,mI,mH,mJ,e1,hw,gl,wJ,wK,wT,wQ,wV]
  by_cases e2:(c.points.getD (c.points.length-1) iZ).time=1000∧(c.points.getD (c.points.length-1) iZ).way=1000
  case neg=>
   simp only[Lc,Ld,aB,reduceCtorEq,DW,e2]
  simp only[Lc,Ld,aB,reduceCtorEq,DW,e2]
  refine(UY 1 (c.points.length-1) (zf c.points) (fun i=>[.int .i64 0,.int .i64 (i:Int)]) σ (.exit 2,[.int .i64 0,.int .i64 (c.points.length:Int)],σ) (fun i=>(.ret,[.int .i64 7,.int .i64 (i:Int)],σ)) (some (U.int .i64 0,σ)) (some (U.int .i64 7,σ)) ?_ ?_ ?_ ?_).trans ?_
  ·intro i hi1 hi2
   have k1:=jy 2 cW c.points (An (l:=c.points) (i:=i) (by omega))
   have k2:=Ae 2 cW c.points (k:=i) (by omega) (An (by omega))
   have k3:IntKind.i64.wrap ((i:Int) -1)=(i:Int) -1:=wrap64 (by unfold aZ;omega)
   have k4:IntKind.i64.wrap ((i:Int)+1)=((i+1:Nat):Int):=by rw[wrap64 (by unfold aZ;omega)];omega
   have k5:(i:Int)<c.points.length:=by omega
   simp only[aB,reduceCtorEq,mF,mG,mI,mH,mJ,wJ,wK,wT,wQ,wV,k1,k2,k3,k5,zf]
   by_cases q1:(c.points.getD i iZ).time≤(c.points.getD (i-1) iZ).time
   ·simp only[aB,reduceCtorEq,q1]
   ·by_cases q2:(c.points.getD i iZ).way<(c.points.getD (i-1) iZ).way<;>simp only[aB,reduceCtorEq,mF,mG,mI,mH,mJ,wJ,wK,wT,wQ,wV,k1,k2,k3,k4,q1,q2]
  ·rw[show 1+(c.points.length-1)=c.points.length by omega]
   simp only[aB,reduceCtorEq,mF,mG,mI,mH,mJ,Int.lt_irrefl]
  ·simp only[aB,reduceCtorEq]
  ·intro i;simp only[aB,reduceCtorEq]
  ·cases(List.range' 1 (c.points.length-1)).any (zf c.points)<;>rfl
 ·intro i;simp only[aB,reduceCtorEq]
 ·unfold Rb
  cases c.points.any B8<;>rfl
theorem Vv (l:List Int) (hl:l.length≤aY) (σ:Heap):I8 [sl 1 rF l] σ=some (.int .i64 ((l.find? fun n=>decide (¬n=0)).getD 0),σ):=by
 refine wrap_eq rfl ?_ rfl
 show Ni (sl 1 rF l) σ=_
 unfold Ni
 simp only[aB,reduceCtorEq]
 refine(UZ l (fun n=>decide (¬n=0)) (fun i=>[.int .i64 0,.int .i64 (i:Int)]) σ (.exit 0,[.int .i64 0,.int .i64 (l.length:Int)],σ) (fun i n=>(.ret,[.int .i64 n,.int .i64 (i:Int)],σ)) (some (U.int .i64 0,σ)) (fun n=>some (U.int .i64 n,σ)) ?_ ?_ ?_ ?_).trans ?_
 ·intro i x hx
  obtain⟨g1,g2,g3⟩:=uF 1 rF hx
  have g3:=g3 hl
  simp only[aB,reduceCtorEq,g1,g2,g3]
  repeat' ((first|rw[mh]|rw[mg]|rw[me]|rw[lY]|rw[l9]|rw[l8]);split<;>try simp only[aB,reduceCtorEq, *])
  all_goals first|with_reducible rfl|(simp [*];done)|(simp_all;done)|(simp_all;omega)|rfl
 ·exact th _ _ _
 ·simp only[aB,reduceCtorEq]
 ·intro i n;simp only[aB,reduceCtorEq]
 ·cases l.find? (fun n=>decide (¬n=0))<;>rfl
theorem Dw (n:Int) (σ:Heap):Fc [.int .i64 n] σ=some (.bool (aU n 0 65535),σ):=by
 refine wrap_eq rfl ?_ rfl
 show Mu _ σ=_
 unfold Mu
 simp only[aB,reduceCtorEq,nO]
theorem ab1 (l:List ng) (hok:cH PA l) (σ:Heap):Mb [sl 3 jR l] σ=some (.int .i64 (Au l),σ):=by
 refine wrap_eq rfl ?_ rfl
 show Md (sl 3 jR l) σ=_
 unfold Md Au
 simp only[aB,reduceCtorEq]
 by_cases zC:30<l.length
 ·have vE:(30:Int)<l.length:=by omega
  simp only[aB,reduceCtorEq,zC,vE]
 ·have vE:¬(30:Int)<l.length:=by omega
  simp only[aB,reduceCtorEq,zC,vE]
  refine(mU (S:=Unit) (R:=Int) l (fun pre x _=>
    if aU x.low 0 65535=false∨aU x.high 0 65535=false∨x.high<x.low then .out 1
    else if 0<pre.length∧x.low≤(pre.getLast?.map (·.high)).getD 0 then .out 7
    else if nT x.name=false then .out 5
    else if fu x.name (pre.map (·.name))=true then .out 6 else .go ())
   (fun pre _=>[.int .i64 0,.int .i64 (pre.length:Int)]) (fun pre _=>σ++[aV.map (mM (·.name) pre)])
   (fun _=>(.exit 0,[.int .i64 0,.int .i64 (l.length:Int)],σ++[aV.map (mM (·.name) l)])) (fun pre _ r=>(.ret,[.int .i64 r,.int .i64 (pre.length:Int)],σ++[aV.map (mM (·.name) pre)]))
   (fun _ _=>True) () (fun _=>some (U.int .i64 0,σ)) (fun r=>some (U.int .i64 r,σ)) ?_ ?_ trivial (fun _ _ _ _ _ _ _ _=>trivial) ?_ ?_).trans ?_
  ·intro pre x rest u hl _
   have hx:=mZ hl
   have hlt:=pq hl
   have hi1:IntKind.i64.wrap ((pre.length:Int)+1)=(pre.length:Int)+1:=wrap64 (by unfold aZ;omega)
   have hi2:IntKind.i64.wrap ((pre.length:Int) -1)=(pre.length:Int) -1:=wrap64 (by unfold aZ;omega)
   have hlt':(pre.length:Int)<(l.length:Int):=by omega
   have hnm:=(hok.2 x (by rw[hl];simp)).2.2
   have gK:=jy 3 jR l hx
   have hN:=Kl _ hnm
   by_cases h0:0<pre.length
   ·obtain⟨y,hy,hy2⟩:=OY hl h0
    have Cg:=Ae 3 jR l h0 hy2
    have jZ:(0:Int)<pre.length:=by omega
    clear hl hx hlt hok zC vE hy2 hnm
    simp only[aB,reduceCtorEq,wL,wM,wN,wU,wR,wW,hlt',gK,Dw,hi1,hi2,hN,jZ,hy,h0]
    repeat' ((first|rw[mh]|rw[mg]|rw[me]|rw[lY]|rw[l9]|rw[l8]);split<;>try simp only[aB,reduceCtorEq,wL,wM,wN,wU,wR,wW,Dw, *])
    all_goals first|with_reducible rfl|(simp [*];done)|(simp_all;done)|(simp_all;omega)|rfl
   ·have jZ:¬(0:Int)<pre.length:=by omega
    clear hl hx hlt hok zC vE hnm
    simp only[aB,reduceCtorEq,wL,wM,wN,wU,wR,wW,hlt',gK,Dw,hi1,hi2,hN,jZ,h0]
    repeat' ((first|rw[mh]|rw[mg]|rw[me]|rw[lY]|rw[l9]|rw[l8]);split<;>try simp only[aB,reduceCtorEq,wL,wM,wN,wU,wR,wW,Dw, *])
    all_goals first|with_reducible rfl|(simp [*];done)|(simp_all;done)|(simp_all;omega)|rfl
  ·intro u _
   simp only[aB,reduceCtorEq,Int.lt_irrefl]
  ·intro u _;simp only[aB,reduceCtorEq]
  ·intros;simp only[aB,reduceCtorEq]
  ·refine(Af (ql:=Cb) ?_ ?_ (fun n=>some (U.int .i64 n,σ)) l []).trans ?_
   ·intro pre;rfl
   ·intro pre x rest;rw[Cb];simp only[xx,uK,uL]
   ·rfl
theorem abO (p:bV) (hok:BC p) (σ:Heap):L7 [.agg (cA p)] σ=some (.int .i64 (mW p),σ):=by
 refine wrap_eq rfl ?_ rfl
 show Ma (.agg (cA p)) σ=_
 obtain⟨pn,ps,l⟩:=p
 obtain⟨hnm,hps,Ci⟩:=hok
 simp only at hnm hps Ci
 have hN:=Kl _ hnm
 unfold Ma mW
 simp only[aB,reduceCtorEq,kW,kX,kY,lg,kZ,jQ,hN,nO]
 cases hn:nT pn
 ·simp only[aB,reduceCtorEq]
 cases hz:aU ps 1 512
 ·simp only[aB,reduceCtorEq]
 by_cases h0:l.length=0
 ·obtain rfl:l=[]:=List.eq_nil_of_length_eq_zero h0
  simp [aB,reduceCtorEq]
 have jZ:¬(l.length:Int)=0:=by omega
 by_cases CK:40<l.length
 ·have y9:(40:Int)<l.length:=by omega
  simp only[aB,reduceCtorEq,h0,jZ,CK,y9]
 have y9:¬(40:Int)<l.length:=by omega
 simp only[aB,reduceCtorEq,h0,jZ,CK,y9]
 refine(mU (S:=Unit) (R:=Int) l (fun pre x _=>
   if nT x.name=false then .out 5
   else if fu x.name (pre.map (·.name))=true then .out 6
   else if aU x.group 1 4=false then .out 4
   else if aU x.gQ 1 ps=false∨aU x.fq 0 ps=false∨aU x.default 0 65535=false then .out 1
   else if x.gQ=x.fq∨fu x.gQ (slotsOf pre)=true∨(0<x.fq∧fu x.fq (slotsOf pre)=true)then .out 12
   else if Au x.ranges=0 then .go ()else .out (Au x.ranges))
  (fun pre _=>[.lbx (cA ⟨pn,ps,l⟩),.int .i64 0,.int .i64 (pre.length:Int)]) (fun pre _=>σ++[aV.map (mM (·.name) pre),aV.map (qR id (slotsOf pre))])
  (fun _=>(.exit 1,[.lbx (cA ⟨pn,ps,l⟩),.int .i64 0,.int .i64 (l.length:Int)],σ++[aV.map (mM (·.name) l),aV.map (qR id (slotsOf l))]))
  (fun pre _ r=>(.ret,[.lbx (cA ⟨pn,ps,l⟩),.int .i64 r,.int .i64 (pre.length:Int)],σ++[aV.map (mM (·.name) pre),aV.map (qR id (slotsOf pre))]))
  (fun _ _=>True) () (fun _=>some (U.int .i64 0,σ)) (fun r=>some (U.int .i64 r,σ)) ?_ ?_ trivial (fun _ _ _ _ _ _ _ _=>trivial) ?_ ?_).trans ?_
 ·intro pre x rest u hl _
  have hx:=mZ hl;have hlt:=pq hl;have hi1:IntKind.i64.wrap ((pre.length:Int)+1)=(pre.length:Int)+1:=wrap64 (by unfold aZ;omega);have hi2:IntKind.i64.wrap ((pre.length:Int) -1)=(pre.length:Int) -1:=wrap64 (by unfold aZ;omega);have hlt':(pre.length:Int)<(l.length:Int):=by omega
  obtain⟨k1,k2,k3,k4,k5,k6⟩:=Ci.2 x (by rw[hl];simp)
  have hNx:=Kl _ k1
  have hRx:=ab1 _ k6
  have gK:=jy 7 cm l hx
  clear hl hx hlt Ci CK y9 h0 jZ k1 k2 k3 k4 k5 k6 hnm hps hN hn hz
  simp only[aB,reduceCtorEq,nF,nG,nH,nI,nJ,nK,nL,mT,mS,kD,kW,kX,kY,lg,kZ,jQ,hlt',gK,nO,Dw,hi1,hi2,hNx,hRx,List.map_id]
  repeat' ((first|rw[mh]|rw[mg]|rw[me]|rw[lY]|rw[l9]|rw[l8]);split<;>try simp only[aB,reduceCtorEq,nF,nG,nH,nI,nJ,nK,nL,mT,mS,kD,kW,kX,kY,lg,kZ,jQ,nO,Dw,List.map_id,Ve,afM,Bool.or_false, *])
  all_goals first|rfl|(simp_all;done)|(simp_all [TC,Ve];done)|(simp only[TC,ite_false,ite_true,if_false,if_true, *]<;>simp_all)
 ·intro u _
  simp only[aB,reduceCtorEq,Int.lt_irrefl]
 ·intro u _;simp only[aB,reduceCtorEq]
 ·intros;simp only[aB,reduceCtorEq]
 ·refine(Af (ql:=uS ps) ?_ ?_ (fun n=>some (U.int .i64 n,σ)) l []).trans ?_
  ·intro pre;rfl
  ·intro pre x rest;rw[uS];simp only[xx,uK,uL]
  ·rfl
theorem abM (l:List bV) (hok:cH BC l) (σ:Heap):L6 [sl 3 cA l] σ=some (.int .i64 (tP l),σ):=by
 refine wrap_eq rfl ?_ rfl
 show L9 (sl 3 cA l) σ=_
 unfold L9 tP
 simp only[aB,reduceCtorEq]
 by_cases ug:60<l.length
 ·have oG:(60:Int)<l.length:=by omega
  simp only[aB,reduceCtorEq,ug,oG]
 have oG:¬(60:Int)<l.length:=by omega
 simp only[aB,reduceCtorEq,ug,oG]
 refine(mU (S:=Unit) (R:=Int) l (fun pre x _=>if mW x=0 then(if fu x.name (pre.map (·.name))=true then .out 6 else .go ())else .out (mW x))
  (fun pre _=>[.int .i64 0,.int .i64 (pre.length:Int)]) (fun pre _=>σ++[aV.map (mM (·.name) pre)])
  (fun _=>(.exit 0,[.int .i64 0,.int .i64 (l.length:Int)],σ++[aV.map (mM (·.name) l)])) (fun pre _ r=>(.ret,[.int .i64 r,.int .i64 (pre.length:Int)],σ++[aV.map (mM (·.name) pre)]))
  (fun _ _=>True) () (fun _=>some (U.int .i64 0,σ)) (fun r=>some (U.int .i64 r,σ)) ?_ ?_ trivial (fun _ _ _ _ _ _ _ _=>trivial) ?_ ?_).trans ?_
 ·intro pre x rest u hl _
  have hx:=mZ hl;have hlt:=pq hl;have hi1:IntKind.i64.wrap ((pre.length:Int)+1)=(pre.length:Int)+1:=wrap64 (by unfold aZ;omega);have hi2:IntKind.i64.wrap ((pre.length:Int) -1)=(pre.length:Int) -1:=wrap64 (by unfold aZ;omega);have hlt':(pre.length:Int)<(l.length:Int):=by omega
  have hP:=abO x (hok.2 x (by rw[hl];simp))
  have gK:=jy 3 cA l hx
  clear hl hx hlt hok ug oG
  simp only[aB,reduceCtorEq,kW,kX,kY,lg,kZ,jQ,hlt',gK,hi1,hP]
  repeat' ((first|rw[mh]|rw[mg]|rw[me]|rw[lY]|rw[l9]|rw[l8]);split<;>try simp only[aB,reduceCtorEq,kW,kX,kY,lg,kZ,jQ, *])
  all_goals first|with_reducible rfl|(simp [*];done)|(simp_all;done)|(simp_all;omega)|rfl
 ·intro u _
  simp only[aB,reduceCtorEq,Int.lt_irrefl]
 ·intro u _;simp only[aB,reduceCtorEq]
 ·intros;simp only[aB,reduceCtorEq]
 ·refine(Af (ql:=xI) ?_ ?_ (fun n=>some (U.int .i64 n,σ)) l []).trans ?_
  ·intro pre;rfl
  ·intro pre x rest;rw[xI];simp only[xx,uK,uL]
  ·rfl
theorem OR {α:Type} (p:α→Bool) (l:List α):decide (0≤kN p l)=l.any p:=by
 rcases wO p l with⟨h1,h2,_⟩|⟨k,x,h1,h2,h3,_⟩
 ·rw[h1,Bool.eq_iff_iff]
  simp only[decide_eq_true_eq,List.any_eq_true]
  exact⟨fun h=>by omega,fun⟨x,hx,hp⟩=>by rw[h2 x hx]at hp;cases hp⟩
 ·rw[h3,Bool.eq_iff_iff]
  simp only[decide_eq_true_eq,List.any_eq_true]
  exact⟨fun _=>⟨x,List.mem_of_getElem? h1,h2⟩,fun _=>by omega⟩
theorem LV (dyn:Nat→List U→Heap→Option (U×Heap)) (l:List bV) (hl:l.length≤aY) (n:Nat) (caps:List U) (p:bV→Bool) (σ:Heap) (hd:∀x∈l,dyn n ((.agg (cA x):U)::caps) σ=some (.bool (p x),σ)):yp dyn [sl 3 cA l,.fn n caps] σ=some (.int .i64 (kN p l),σ):=by
 refine wrap_eq rfl ?_ rfl
 show Ir dyn (sl 3 cA l) (.fn n caps) σ=_
 unfold Ir
 simp only[aB,reduceCtorEq]
 refine(mU (S:=Unit) (R:=Int) l (fun pre x _=>if p x=true then .out (pre.length:Int)else .go ())
  (fun pre _=>[.int .i64 0,.int .i64 (pre.length:Int)]) (fun _ _=>σ) (fun _=>(.exit 0,[.int .i64 0,.int .i64 (l.length:Int)],σ)) (fun pre _ r=>(.ret,[.int .i64 (pre.length:Int),.int .i64 (pre.length:Int)],σ))
  (fun _ _=>True) () (fun _=>some (U.int .i64 (-1),σ)) (fun r=>some (U.int .i64 r,σ)) ?_ ?_ trivial (fun _ _ _ _ _ _ _ _=>trivial) ?_ ?_).trans ?_
 ·intro pre x rest u hl' _
  have hx:=mZ hl'
  have hlt:=pq hl'
  have hi1:IntKind.i64.wrap ((pre.length:Int)+1)=(pre.length:Int)+1:=wrap64 (by unfold aZ;unfold aY at hl;omega)
  have hlt':(pre.length:Int)<(l.length:Int):=by omega
  have gK:=jy 3 cA l hx
  have oM:=hd x (by rw[hl'];simp)
  simp only[aB,reduceCtorEq,kW,kX,kY,lg,kZ,jQ,hlt',gK,A.iI,List.cons_append,List.nil_append,oM,hi1]
  cases p x<;>simp [aB,reduceCtorEq]
 ·intro u _;simp only[aB,reduceCtorEq,Int.lt_irrefl]
 ·intro u _;simp only[aB,reduceCtorEq]
 ·intro pre x rest s q hl' _ hb
  have:q=(pre.length:Int):=by
   cases hpx:p x
   ·rw[hpx]at hb;cases hb
   ·rw[hpx]at hb;simp at hb;exact hb.symm
  simp only[aB,reduceCtorEq,this]
 ·rw[DU p _ _ l [] (by simp)]
  simp only[List.nil_append]
  split
  ·rename_i h;rw[h]
  ·rfl
theorem aah (dyn:Nat→List U→Heap→Option (U×Heap)) (l:List aA) (hl:l.length≤aY) (n:Nat) (caps:List U) (p:aA→Bool) (σ:Heap) (hd:∀x∈l,dyn n ((.agg (aK x):U)::caps) σ=some (.bool (p x),σ)):Ix dyn [sl 2 aK l,.fn n caps] σ=some (.int .i64 (kN p l),σ):=by
 refine wrap_eq rfl ?_ rfl
 show Iz dyn (sl 2 aK l) (.fn n caps) σ=_
 unfold Iz
 simp only[aB,reduceCtorEq]
 refine(mU (S:=Unit) (R:=Int) l (fun pre x _=>if p x=true then .out (pre.length:Int)else .go ())
  (fun pre _=>[.int .i64 0,.int .i64 (pre.length:Int)]) (fun _ _=>σ) (fun _=>(.exit 0,[.int .i64 0,.int .i64 (l.length:Int)],σ)) (fun pre _ r=>(.ret,[.int .i64 (pre.length:Int),.int .i64 (pre.length:Int)],σ))
  (fun _ _=>True) () (fun _=>some (U.int .i64 (-1),σ)) (fun r=>some (U.int .i64 r,σ)) ?_ ?_ trivial (fun _ _ _ _ _ _ _ _=>trivial) ?_ ?_).trans ?_
 ·intro pre x rest u hl' _
  have hx:=mZ hl'
  have hlt:=pq hl'
  have hi1:IntKind.i64.wrap ((pre.length:Int)+1)=(pre.length:Int)+1:=wrap64 (by unfold aZ;unfold aY at hl;omega)
  have hlt':(pre.length:Int)<(l.length:Int):=by omega
  have gK:=jy 2 aK l hx
  have oM:=hd x (by rw[hl'];simp)
  simp only[aB,reduceCtorEq,On,Oo,Ky,Pd,Aw,hlt',gK,A.iI,List.cons_append,List.nil_append,oM,hi1]
  cases p x<;>simp [aB,reduceCtorEq]
 ·intro u _;simp only[aB,reduceCtorEq,Int.lt_irrefl]
 ·intro u _;simp only[aB,reduceCtorEq]
 ·intro pre x rest s q hl' _ hb
  have:q=(pre.length:Int):=by
   cases hpx:p x
   ·rw[hpx]at hb;cases hb
   ·rw[hpx]at hb;simp at hb;exact hb.symm
  simp only[aB,reduceCtorEq,this]
 ·rw[DU p _ _ l [] (by simp)]
  simp only[List.nil_append]
  split
  ·rename_i h;rw[h]
  ·rfl
theorem Z7 (dyn:Nat→List U→Heap→Option (U×Heap)) (l:List aA) (hl:l.length≤aY) (n:Nat) (caps:List U) (p:aA→Bool) (σ:Heap) (hd:∀x∈l,dyn n ((.agg (aK x):U)::caps) σ=some (.bool (p x),σ)):Is dyn [sl 2 aK l,.fn n caps] σ=some (.bool (l.any p),σ):=by
 refine wrap_eq rfl ?_ rfl
 show It dyn (sl 2 aK l) (.fn n caps) σ=_
 unfold It
 simp only[aB,reduceCtorEq,aah dyn l hl n caps p σ hd]
 refine congrArg some (congrArg (fun b=>(U.bool b,σ)) ?_)
 exact OR p l
theorem Z8 (dyn:Nat→List U→Heap→Option (U×Heap)) (l:List aS) (hl:l.length≤aY) (n:Nat) (caps:List U) (p:aS→Bool) (σ:Heap) (hd:∀x∈l,dyn n ((.agg (aF x):U)::caps) σ=some (.bool (p x),σ)):Iu dyn [sl 8 aF l,.fn n caps] σ=some (.int .i64 (kN p l),σ):=by
 refine wrap_eq rfl ?_ rfl
 show Iv dyn (sl 8 aF l) (.fn n caps) σ=_
 unfold Iv
 simp only[aB,reduceCtorEq]
 refine(mU (S:=Unit) (R:=Int) l (fun pre x _=>if p x=true then .out (pre.length:Int)else .go ())
  (fun pre _=>[.int .i64 0,.int .i64 (pre.length:Int)]) (fun _ _=>σ) (fun _=>(.exit 0,[.int .i64 0,.int .i64 (l.length:Int)],σ)) (fun pre _ r=>(.ret,[.int .i64 (pre.length:Int),.int .i64 (pre.length:Int)],σ))
  (fun _ _=>True) () (fun _=>some (U.int .i64 (-1),σ)) (fun r=>some (U.int .i64 r,σ)) ?_ ?_ trivial (fun _ _ _ _ _ _ _ _=>trivial) ?_ ?_).trans ?_
 ·intro pre x rest u hl' _
  have hx:=mZ hl'
  have hlt:=pq hl'
  have hi1:IntKind.i64.wrap ((pre.length:Int)+1)=(pre.length:Int)+1:=wrap64 (by unfold aZ;unfold aY at hl;omega)
  have hlt':(pre.length:Int)<(l.length:Int):=by omega
  have gK:=jy 8 aF l hx
  have oM:=hd x (by rw[hl'];simp)
  simp only[aB,reduceCtorEq,aeA,aeB,aeC,aeD,aeE,aeF,aeG,aeH,Bu,Tc,tj,yz,sx,hlt',gK,A.iI,List.cons_append,List.nil_append,oM,hi1]
  cases p x<;>simp [aB,reduceCtorEq]
 ·intro u _;simp only[aB,reduceCtorEq,Int.lt_irrefl]
 ·intro u _;simp only[aB,reduceCtorEq]
 ·intro pre x rest s q hl' _ hb
  have:q=(pre.length:Int):=by
   cases hpx:p x
   ·rw[hpx]at hb;cases hb
   ·rw[hpx]at hb;simp at hb;exact hb.symm
  simp only[aB,reduceCtorEq,this]
 ·rw[DU p _ _ l [] (by simp)]
  simp only[List.nil_append]
  split
  ·rename_i h;rw[h]
  ·rfl
theorem Z6 (dyn:Nat→List U→Heap→Option (U×Heap)) (l:List aS) (hl:l.length≤aY) (n:Nat) (caps:List U) (p:aS→Bool) (σ:Heap) (hd:∀x∈l,dyn n ((.agg (aF x):U)::caps) σ=some (.bool (p x),σ)):E3 dyn [sl 8 aF l,.fn n caps] σ=some (.bool (l.any p),σ):=by
 refine wrap_eq rfl ?_ rfl
 show Iq dyn (sl 8 aF l) (.fn n caps) σ=_
 unfold Iq
 simp only[aB,reduceCtorEq,Z8 dyn l hl n caps p σ hd]
 refine congrArg some (congrArg (fun b=>(U.bool b,σ)) ?_)
 exact OR p l
theorem abj (l:List Int) (hl:l.length≤aY) (k:Int) (σ:Heap):Mk [sl 1 rF l,.int .i64 k] σ=some (.int .i64 (kN (fun x=>decide (k=x)) l),σ):=by
 refine wrap_eq rfl ?_ rfl
 show Mn (sl 1 rF l) (.int .i64 k) σ=_
 unfold Mn
 simp only[aB,reduceCtorEq]
 refine(mU (S:=Unit) (R:=Int) l (fun pre x _=>if(fun x=>decide (k=x)) x=true then .out (pre.length:Int)else .go ())
  (fun pre _=>[.int .i64 0,.int .i64 (pre.length:Int)]) (fun _ _=>σ) (fun _=>(.exit 0,[.int .i64 0,.int .i64 (l.length:Int)],σ)) (fun pre _ r=>(.ret,[.int .i64 (pre.length:Int),.int .i64 (pre.length:Int)],σ))
  (fun _ _=>True) () (fun _=>some (U.int .i64 (-1),σ)) (fun r=>some (U.int .i64 r,σ)) ?_ ?_ trivial (fun _ _ _ _ _ _ _ _=>trivial) ?_ ?_).trans ?_
 ·intro pre x rest u hl' _
  have hx:=mZ hl'
  have hlt:=pq hl'
  have hi1:IntKind.i64.wrap ((pre.length:Int)+1)=(pre.length:Int)+1:=wrap64 (by unfold aZ;unfold aY at hl;omega)
  have hlt':(pre.length:Int)<(l.length:Int):=by omega
  have gK:=jy 1 rF l hx
  simp only[aB,reduceCtorEq,hlt',gK,hi1]
  by_cases hk:k=x<;>simp [aB,reduceCtorEq,hk]
 ·intro u _;simp only[aB,reduceCtorEq,Int.lt_irrefl]
 ·intro u _;simp only[aB,reduceCtorEq]
 ·intro pre x rest s q hl' _ hb
  have:q=(pre.length:Int):=by
   by_cases hk:k=x
   ·simp [hk]at hb;exact hb.symm
   ·simp [hk]at hb
  simp only[aB,reduceCtorEq,this]
 ·rw[DU (fun x=>decide (k=x)) _ _ l [] (by simp)]
  simp only[List.nil_append]
  split
  ·rename_i h;rw[h]
  ·rfl
theorem aaT (l:List Int) (hl:l.length≤aY) (k:Int) (σ:Heap):IG [sl 1 rF l,.int .i64 k] σ=some (.bool (l.any fun x=>decide (k=x)),σ):=by
 refine wrap_eq rfl ?_ rfl
 show Mf (sl 1 rF l) (.int .i64 k) σ=_
 unfold Mf
 simp only[aB,reduceCtorEq,abj l hl k σ]
 refine congrArg some (congrArg (fun b=>(U.bool b,σ)) ?_)
 exact OR _ l
theorem vg (nm:ByteArray):∀(l:List bV),eP nm l=match l.find? (fun x:bV=>decide (x.name=nm))with|some p=>(p,true)|none=>(⟨⟨#[]⟩,0,[]⟩,false)
 |[]=>rfl
 |p::l=>by
  rw[eP]
  by_cases h:p.name=nm
  ·simp [h]
  ·simp [h,vg nm l]
theorem ab3 (x:bV) (nm:ByteArray) (σ:Heap):zU [.agg (cA x),.rp [.str nm]] σ=some (.bool (decide (x.name=nm)),σ):=by
 refine wrap_eq rfl ?_ rfl
 show Me (.agg (cA x)) (.rp [.str nm]) σ=_
 unfold Me
 simp only[aB,reduceCtorEq,kW,kX,kY,lg,kZ,jQ]
 show(some (U.str nm)).bind _=_
 simp only[aB,reduceCtorEq]
theorem nnP (x:dI):A.bY qK (cm x)=cm x:=rfl
theorem XA (p:bV) (b:Bool):A.nn (.t [(.a [.k,.k,(.e 7 qK)]),.k]) (.aL [.agg (cA p),.bool b])=.aL [.agg (cA p),.bool b]:=by
 show U.aL [.agg [.str p.name,.int .i64 p.size,A.nn (.e 7 qK) (sl 7 cm p.params)],.bool b]=_
 rw[gR nnP];rfl
theorem Um (l:List bV) (hl:l.length≤aY) (nm:ByteArray) (σ:Heap):IM [sl 3 cA l,.str nm] σ=some (.aL [.agg (cA (eP nm l).1),.bool (eP nm l).2],σ):=by
 have key:∃w,IS (sl 3 cA l) (.str nm) σ=some (w,σ)∧A.nn (.t [(.a [.k,.k,(.e 7 qK)]),.k]) w=.aL [.agg (cA (eP nm l).1),.bool (eP nm l).2]:=by
  unfold IS
  simp only[aB,reduceCtorEq]
  rw[LV _ l hl 64 [.rp [.str nm]] (fun x=>decide (x.name=nm)) σ (fun x _=>ab3 x nm σ)]
  simp only[aB,reduceCtorEq]
  rw[vg]
  rcases wO (fun x:bV=>decide (x.name=nm)) l with⟨h1,_,h3⟩|⟨k,x,h1,h2,h3,h4,_⟩
  ·refine⟨.aL [.agg [.str ⟨#[]⟩,.int .i64 0,.aH],.bool false],?_,?_⟩
   ·rw[h1]
    simp only[aB,reduceCtorEq,show((-1:Int)<0)from by decide]
    rfl
   ·rw[h3];rfl
  ·refine⟨.aL [.agg (cA x),.bool true],?_,?_⟩
   ·rw[h3]
    simp only[aB,reduceCtorEq,kW,kX,kY,lg,kZ,jQ,show ¬((k:Int)<0)from by omega,jy 3 cA l h1]
   ·rw[h4];exact XA x true
 obtain⟨w,h1,h2⟩:=key
 exact wrap_eq rfl h1 h2
theorem Np (l:List bV) (hl:l.length≤aY) (nm:ByteArray) (σ:Heap):Bs [sl 3 cA l,.str nm] σ=some (.aL [.agg (cA (eP nm l).1),.bool (eP nm l).2],σ):=by
 refine wrap_eq (v:=.aL [.agg (match l.find? (fun x:bV=>decide (x.name=nm))with|some p=>cA p|none=>[.str ⟨#[]⟩,.int .i64 0,.aH]),.bool (eP nm l).2]) rfl ?_ ?_
 ·show Fo (sl 3 cA l) (.str nm) σ=_
  rw[vg]
  unfold Fo
  simp only[aB,reduceCtorEq]
  refine(mU (S:=Unit) (R:=bV) l (fun pre x _=>if x.name=nm then .out x else .go ())
   (fun pre _=>[.lbx [.str ⟨#[]⟩,.int .i64 0,.aH],.bool false,.int .i64 (pre.length:Int)]) (fun _ _=>σ)
   (fun _=>(.exit 0,[.lbx [.str ⟨#[]⟩,.int .i64 0,.aH],.bool false,.int .i64 (l.length:Int)],σ)) (fun pre _ r=>(.ret,[.lbx (cA r),.bool true,.int .i64 (pre.length:Int)],σ))
   (fun _ _=>True) () (fun _=>some (U.aL [.agg [.str ⟨#[]⟩,.int .i64 0,.aH],.bool false],σ)) (fun r=>some (U.aL [.agg (cA r),.bool true],σ)) ?_ ?_ trivial (fun _ _ _ _ _ _ _ _=>trivial) ?_ ?_).trans ?_
  ·intro pre x rest u hl' _
   have hx:=mZ hl'
   have hlt:=pq hl'
   have hi1:IntKind.i64.wrap ((pre.length:Int)+1)=(pre.length:Int)+1:=wrap64 (by unfold aZ;unfold aY at hl;omega)
   have hlt':(pre.length:Int)<(l.length:Int):=by omega
   have gK:=jy 3 cA l hx
   clear hl' hx hlt hl
   simp only[aB,reduceCtorEq,kW,kX,kY,lg,kZ,jQ,hlt',gK,hi1]
   repeat' ((first|rw[mh]|rw[mg]|rw[me]|rw[lY]|rw[l9]|rw[l8]);split<;>try simp only[aB,reduceCtorEq,kW,kX,kY,lg,kZ,jQ, *])
   all_goals first|with_reducible rfl|(simp [*];done)|(simp_all;done)|(simp_all;omega)|rfl
  ·intro u _;simp only[aB,reduceCtorEq,Int.lt_irrefl]
  ·intro u _;simp only[aB,reduceCtorEq];rfl
  ·intros;simp only[aB,reduceCtorEq,kW,kX,kY,lg,kZ,jQ]
  ·have key:∀(l pre:List bV),(jL (fun(_:List bV) (x:bV) (_:Unit)=>if x.name=nm then(Rd.out x:Rd Unit bV)else .go ()) pre l ()).el (fun _=>some (U.aL [.agg [.str ⟨#[]⟩,.int .i64 0,.aH],.bool false],σ)) (fun r=>some (U.aL [.agg (cA r),.bool true],σ))=some (.aL [.agg (match l.find? (fun x:bV=>decide (x.name=nm))with|some p=>cA p|none=>[.str ⟨#[]⟩,.int .i64 0,.aH]),.bool (match l.find? (fun x:bV=>decide (x.name=nm))with|some p=>(p,true)|none=>(⟨⟨#[]⟩,0,[]⟩,false)).2],σ):=by
    intro l
    induction l with
    |nil=>intro pre;rfl
    |cons x l ih=>
     intro pre
     rw[jL]
     by_cases h:x.name=nm
     ·simp [h,Rd.el]
     ·simp only[if_neg h,ih]
      simp [h]
   exact key l []
 ·rw[vg]
  cases hf:l.find? (fun x:bV=>decide (x.name=nm))with
  |none=>rfl
  |some p=>exact XA p true
def marks (f:Nat→Bool):List U:=(List.range 513).map fun k=>.bool (f k)
theorem DQ (f:Nat→Bool) {k:Nat} (h:k<513):(marks f)[k]? =some (.bool (f k)):=by simp [marks,h]
theorem BB (f:Nat→Bool):(marks f).length=513:=by simp [marks]
theorem UP (f:Nat→Bool) {γ:Type} (K1 K2:γ):∀(s a:Nat) (pre:List Nat),(jL (fun _ k (_:Unit)=>if 512<k∨f k=true then(Rd.out ():Rd Unit Unit)else .go ()) pre (List.range' a s) ()).el (fun _=>K1) (fun _=>K2)=if uM f s a=true then K1 else K2
 |0,a,pre=>by simp [jL,uM,Rd.el]
 |s+1,a,pre=>by
  rw[List.range'_succ,jL,uM]
  by_cases h:512<a∨f a=true
  ·simp only[if_pos h,Rd.el];simp
  ·simp only[if_neg h]
   exact UP f K1 K2 s (a+1) _
theorem ahK (a s:Int) (h:aZ (a+s)) (h':aZ (a+s-1)) (σ:Heap):De [.np,.int .i64 a,.int .i64 s] σ=some (.bool (decide (a+s-1≤512)),σ):=by
 refine wrap_eq rfl ?_ rfl
 show Fa .np (.int .i64 a) (.int .i64 s) σ=_
 unfold Fa
 simp only[aB,reduceCtorEq,show A.eql .p U.np U.np=some (.bool true)from rfl,wrap64 h,wrap64 h']
theorem agp (cs:List U) {k:Nat} (h:k<513):A.xC 513 1 (.rp cs) (.int .i64 (k:Int))=some (.rp (cs.drop k)):=by
 have h1:A.idx 513 (.int .i64 (k:Int))=some k:=by
  show(if(0:Int)≤(k:Int)∧(k:Int)<((513:Nat):Int)then some (k:Int).toNat else none)=some k
  rw[if_pos ⟨by omega,by omega⟩];rfl
 unfold A.xC
 rw[h1]
 simp only[Option.bind_some,Nat.mul_one]
theorem ahM (f:Nat→Bool) (a s:Nat) (hs:a≤1024∧s≤1024) (σ:Heap):De [.rp (marks f),.int .i64 (a:Int),.int .i64 (s:Int)] σ=some (.bool (uM f s a),σ):=by
 refine wrap_eq rfl ?_ rfl
 show Fa (.rp (marks f)) (.int .i64 (a:Int)) (.int .i64 (s:Int)) σ=_
 unfold Fa
 have hw:IntKind.i64.wrap ((a:Int)+s)=(a:Int)+s:=wrap64 (by unfold aZ;omega)
 simp only[aB,reduceCtorEq,show A.eql .p (U.rp (marks f)) U.np=some (.bool false)from rfl,hw]
 refine(mU (S:=Unit) (R:=Unit) (List.range' a s) (fun _ k (_:Unit)=>if 512<k∨f k=true then(Rd.out ():Rd Unit Unit)else .go ())
  (fun pre _=>[.bool false,.int .i64 ((a:Int)+(pre.length:Int))]) (fun _ _=>σ) (fun _=>(.exit 0,[.bool false,.int .i64 ((a:Int)+s)],σ)) (fun pre _ _=>(.ret,[.bool false,.int .i64 ((a:Int)+(pre.length:Int))],σ))
  (fun _ _=>True) () (fun _=>some (U.bool true,σ)) (fun _=>some (U.bool false,σ)) ?_ ?_ trivial (fun _ _ _ _ _ _ _ _=>trivial) ?_ ?_ (hv:=by simp)).trans ?_
 ·intro pre k rest u hl _
  have hx:=mZ hl
  have hlt:=pq hl
  rw[List.length_range']at hlt
  obtain rfl:a+pre.length=k:=by
   have:=(List.getElem?_eq_some_iff.1 hx).2
   simpa [List.getElem_range']using this
  have hlt':(a:Int)+(pre.length:Int)<(a:Int)+s:=by omega
  have hi1:IntKind.i64.wrap ((a:Int)+(pre.length:Int)+1)=(a:Int)+((pre.length:Int)+1):=by rw[wrap64 (by unfold aZ;omega)];omega
  have ecast:(a:Int)+(pre.length:Int)=((a+pre.length:Nat):Int):=by omega
  clear hl hx
  by_cases h5:512<a+pre.length
  ·have RJ:(512:Int)<(a:Int)+(pre.length:Int):=by omega
   simp only[aB,reduceCtorEq,hlt',h5,RJ]
  have RJ:¬(512:Int)<(a:Int)+(pre.length:Int):=by omega
  have hp:A.an 0 ((marks f).drop (a+pre.length))=some (.bool (f (a+pre.length))):=by
   rw[R9];simp only[A.an,Nat.add_zero,DQ f (show a+pre.length<513 by omega)];rfl
  simp only[aB,reduceCtorEq,hlt',h5,RJ,show A.gZ (U.rp (marks f))=some (.rp (marks f))from rfl]
  rw[ecast,agp _ (by omega)]
  simp only[aB,reduceCtorEq,hp]
  cases hf:f (a+pre.length)
  ·simp only[aB,reduceCtorEq,←ecast,hi1]
  ·simp only[aB,reduceCtorEq,←ecast]
 ·intro u _
  rw[List.length_range']
  exact th _ _ _
 ·intro u _;simp only[aB,reduceCtorEq]
 ·intros;simp only[aB,reduceCtorEq]
 ·rw[UP]
  cases uM f s a<;>rfl
theorem ahL (f:Nat→Bool) (a s:Nat) (hs:a≤1024∧s≤1024) {σ:Heap} {id:Nat} (h:σ[id]? =some (.box (marks f))):De [.op id 0,.int .i64 (a:Int),.int .i64 (s:Int)] σ=some (.bool (uM f s a),σ):=by
 refine F1 (args':=[.rp (marks f),.int .i64 (a:Int),.int .i64 (s:Int)]) rfl ?_ rfl (ahM f a s hs []) rfl
 have e:A.sB σ 0 7 (marks f)=some (marks f):=by
  have key:∀(l:List Nat),A.sB σ 0 7 (l.map fun k=>U.bool (f k))=some (l.map fun k=>U.bool (f k)):=by
   intro l
   induction l with
   |nil=>simp [A.sB]
   |cons x l ih=>simp [A.sB,A.bT,ih]
  exact key _
 simp [A.fE,A.bT,h,e]
def sW (b:Nat):List Int→List (U×U)
 |[]=>[]
 |v::r=>(.int .i64 v,.op b 0)::sW (b+1) r
def iD (σ:Heap) (vs:List Int) (f:Int→Nat→Bool):Heap:=σ++(aV.map (sW (σ.length+1) vs)::vs.map fun v=>aV.box (marks (f v)))
theorem Wo (v:Int):∀(vs:List Int) (b:Nat),sW b (vs++[v])=sW b vs++[(.int .i64 v,.op (b+vs.length) 0)]
 |[],b=>rfl
 |w::r,b=>by
  simp only[List.cons_append,sW,Wo v r (b+1),List.length_cons]
  rw[show b+1+r.length=b+(r.length+1) by omega]
theorem Kk (v:Int):∀(vs:List Int) (b:Nat),A.find .i (.int .i64 v) (sW b vs)=some (if v∈vs then some (.op (b+vs.idxOf v) 0)else none)
 |[],b=>rfl
 |w::r,b=>by
  simp only[sW,A.find,A.ff,A.oL,if_true,Option.bind_some]
  by_cases h:v=w
  ·subst h;simp
  ·have h1:(v==w)=false:=by simpa using h
   have h2:(w==v)=false:=by simpa using fun e:w=v=>h e.symm
   simp only[h1,cond_false,Kk v r (b+1),List.mem_cons,h,false_or,List.idxOf_cons,h2]
   rw[show b+1+r.idxOf v=b+(r.idxOf v+1) by omega]
theorem Xe (v:Int) (w:U):∀(vs:List Int) (b:Nat),v∉vs→A.upd .i (.int .i64 v) w (sW b vs)=some (sW b vs++[(.int .i64 v,w)])
 |[],b,_=>rfl
 |x::r,b,h=>by
  simp only[List.mem_cons,not_or]at h
  have h1:(v==x)=false:=by simpa using h.1
  simp only[sW,A.upd,A.ff,A.oL,if_true,Option.bind_some,h1,cond_false,Xe v w r (b+1) h.2,Option.map_some,List.cons_append]
theorem Xg (σ:Heap) (vs:List Int) (f:Int→Nat→Bool):(iD σ vs f).length=σ.length+1+vs.length:=by simp [iD];omega
theorem KG (σ:Heap) (vs:List Int) (f:Int→Nat→Bool):(iD σ vs f)[σ.length]? =some (.map (sW (σ.length+1) vs)):=by simp [iD]
theorem Xf (σ:Heap) {vs:List Int} (f:Int→Nat→Bool) {v:Int} (h:v∈vs):(iD σ vs f)[σ.length+1+vs.idxOf v]? =some (.box (marks (f v))):=by
 unfold iD
 rw[List.getElem?_append_right (by omega),show σ.length+1+vs.idxOf v-σ.length=vs.idxOf v+1 by omega,List.getElem?_cons_succ,List.getElem?_map]
 have:vs[vs.idxOf v]? =some v:=by
  have hl:=List.idxOf_lt_length_of_mem h
  rw[List.getElem?_eq_getElem hl,List.getElem_idxOf hl]
 rw[this];rfl
theorem aiQ (σ:Heap) {vs:List Int} (hn:vs.Nodup) {f f':Int→Nat→Bool} {v:Int} (h:v∈vs) (ho:∀w,w≠v→f' w=f w):(iD σ vs f).set (σ.length+1+vs.idxOf v) (.box (marks (f' v)))=iD σ vs f':=by
 unfold iD
 rw[List.set_append_right _ _ (by omega),show σ.length+1+vs.idxOf v-σ.length=vs.idxOf v+1 by omega,List.set_cons_succ]
 refine congrArg (fun z=>σ++(aV.map (sW (σ.length+1) vs)::z)) ?_
 clear σ
 induction vs with
 |nil=>cases h
 |cons w r ih=>
  rw[List.nodup_cons]at hn
  rw[List.idxOf_cons]
  by_cases e:w=v
  ·subst e
   simp only[beq_self_eq_true,cond_true,List.map_cons,List.set_cons_zero]
   exact congrArg (aV.box (marks (f' w))::·) (List.map_congr_left fun x hx=>by rw[ho x (fun e=>hn.1 (e▸hx))])
  ·have e2:(w==v)=false:=by simpa using e
   simp only[e2,cond_false,List.map_cons,List.set_cons_succ]
   rw[ih hn.2 ((List.mem_cons.1 h).resolve_left fun q=>e q.symm),ho w e]
theorem aiP (σ:Heap) (vs:List Int) {f:Int→Nat→Bool} {v:Int} (h:∀k,f v k=false):((iD σ vs f)++[aV.box (List.replicate 513 aD)]).set σ.length (.map (sW (σ.length+1) (vs++[v])))=iD σ (vs++[v]) f:=by
 have e:marks (f v)=List.replicate 513 aD:=by
  rw[show f v=fun _=>false from funext h]
  refine List.eq_replicate_iff.2 ⟨BB _,fun b hb=>?_⟩
  obtain⟨k,_,rfl⟩:=List.mem_map.1 hb
  rfl
 unfold iD
 simp only[List.append_assoc,List.cons_append]
 rw[List.set_append_right _ _ (Nat.le_refl _),Nat.sub_self,List.set_cons_zero,List.map_append,List.map_cons,e]
 rfl
theorem afK (g g':Nat→Bool) {k:Nat} (hk:k<513) (h1:g' k=true) (h2:∀j,j≠k→g' j=g j):A.splice k [U.bool true] (marks g)=some (marks g'):=by
 unfold A.splice
 rw[if_pos (by rw[BB];simp;omega)]
 refine congrArg some (List.ext_getElem? fun j=>?_)
 simp only[List.append_assoc,List.cons_append,List.nil_append,List.length_cons,List.length_nil]
 by_cases hj:j<k
 ·rw[List.getElem?_append_left (by rw[List.length_take,BB];omega),List.getElem?_take_of_lt hj,DQ _ (by omega),DQ _ (by omega),h2 j (by omega)]
 ·rw[List.getElem?_append_right (by rw[List.length_take,BB];omega),List.length_take,BB,Nat.min_eq_left (by omega)]
  by_cases e:j=k
  ·subst e
   rw[Nat.sub_self,List.getElem?_cons_zero,DQ _ hk,h1]
  ·rw[show j-k=(j-k-1)+1 by omega,List.getElem?_cons_succ,List.getElem?_drop,show k+(0+1)+(j-k-1)=j by omega]
   by_cases hj2:j<513
   ·rw[DQ _ hj2,DQ _ hj2,h2 j e]
   ·rw[List.getElem?_eq_none (by rw[BB];omega),List.getElem?_eq_none (by rw[BB];omega)]
theorem KR {α γ:Type} (K1:Unit→γ) (K2:Unit→γ):∀(l pre:List α),(jL (fun _ (x:α) (_:Unit)=>(Rd.go ():Rd Unit Unit)) pre l ()).el K1 K2=K1 ()
 |[],pre=>rfl
 |x::l,pre=>by rw[jL];exact KR K1 K2 l _
theorem Un {α S:Type} {body:List α→α→S→Rd S Int} {ql:List α→List α→Int} (h0:∀pre,ql pre []=0) (h:∀pre x rest s,ql pre (x::rest)=(body pre x s).el (fun _=>ql (pre++[x]) rest) (fun r=>r)) {γ:Type} (K:Int→γ):
  ∀(l pre:List α) (s:S),(jL body pre l s).el (fun _=>K 0) K=K (ql pre l)
 |[],pre,s=>by rw[jL,h0];rfl
 |x::l,pre,s=>by
  rw[jL,h pre x l s]
  cases body pre x s with
  |go s'=>exact Un h0 h K l (pre++[x]) s'
  |out r=>rfl
theorem aew (f:Int→Nat→Bool) (v:Int) (a:Nat):oC f v a 0=f:=by
 funext w k
 unfold oC
 rw[if_neg (by omega)]
theorem Vo {γ:Type} (σ:Heap) {vs:List Int} (hn:vs.Nodup) (f:Int→Nat→Bool) (u:bX) (a s:Nat) (ha:u.address=a) (hs:a+s≤513) (hm:u.univ∈vs) (K:List U→Heap→Option γ):
  (A.loop (fun v11 lF=>
   ((A.lb (v11.getD 0 U.undef)).bind fun _=>some (3)).bind fun HS=>
   ((A.lb (v11.getD 0 U.undef)).bind fun gh=>A.an HS gh).bind fun bU=>
   (A.add bU (.int .i64 (s:Int))).bind fun bl=>
   (A.lss (v11.getD 1 U.undef) bl).bind fun bZ=>
   A.cond bZ (
    ((A.lb (v11.getD 0 U.undef)).bind fun _=>some (2)).bind fun p18=>
    ((A.lb (v11.getD 0 U.undef)).bind fun kP=>A.an p18 kP).bind fun bI=>
    (A.look .i (.om σ.length) bI U.np lF).bind fun bg=>
    (A.gZ bg).bind fun bB=>
    (A.xC 513 1 bB (v11.getD 1 U.undef)).bind fun ct=>
    (A.storeAt ct [U.bool true] lF).bind fun jq=>
    (A.add (v11.getD 1 U.undef) aI).bind fun cN=>
    some (AX.normal,[(v11.getD 0 U.undef),cN],jq)) (
    some (AX.exit 0,[(v11.getD 0 U.undef),(v11.getD 1 U.undef)],lF))) [.lbx (bQ u),.int .i64 (a:Int)] (iD σ vs f)).bind (fun pU=>
 bif decide (pU.1=AX.exit 0)then K pU.2.1 pU.2.2 else none)=K [.lbx (bQ u),.int .i64 ((a:Int)+s)] (iD σ vs (oC f u.univ a s)):=by
 have hw:IntKind.i64.wrap ((a:Int)+s)=(a:Int)+s:=wrap64 (by unfold aZ;omega)
 refine(mU (S:=Unit) (R:=Unit) (List.range' a s) (fun _ k (_:Unit)=>(Rd.go ():Rd Unit Unit))
  (fun pre _=>[.lbx (bQ u),.int .i64 ((a:Int)+(pre.length:Int))]) (fun pre _=>iD σ vs (oC f u.univ a pre.length)) (fun _=>(.exit 0,[.lbx (bQ u),.int .i64 ((a:Int)+s)],iD σ vs (oC f u.univ a s))) (fun pre _ _=>(.ret,[],σ))
  (fun _ _=>True) () (fun _=>K [.lbx (bQ u),.int .i64 ((a:Int)+s)] (iD σ vs (oC f u.univ a s))) (fun _=>none) ?_ ?_ trivial (fun _ _ _ _ _ _ _ _=>trivial) ?_ ?_ (hv:=by simp) (fQ:=by rw[List.length_nil,aew])).trans (KR _ _ _ _)
 ·intro pre k rest t hl _
  have hx:=mZ hl
  have hlt:=pq hl
  rw[List.length_range']at hlt
  obtain rfl:a+pre.length=k:=by
   have:=(List.getElem?_eq_some_iff.1 hx).2
   simpa [List.getElem_range']using this
  have hlt':(a:Int)+(pre.length:Int)<(a:Int)+s:=by omega
  have hi1:IntKind.i64.wrap ((a:Int)+(pre.length:Int)+1)=(a:Int)+((pre.length:Int)+1):=by rw[wrap64 (by unfold aZ;omega)];omega
  have ecast:(a:Int)+(pre.length:Int)=((a+pre.length:Nat):Int):=by omega
  clear hl hx
  have Qm:A.look .i (.om σ.length) (.int .i64 u.univ) U.np (iD σ vs (oC f u.univ a pre.length))=some (.op (σ.length+1+vs.idxOf u.univ) 0):=by
   rw[Ap .i rfl (KG σ vs _),Kk,if_pos hm];rfl
  have aky:A.xC 513 1 (.op (σ.length+1+vs.idxOf u.univ) 0) (.int .i64 ((a+pre.length:Nat):Int))=some (.op (σ.length+1+vs.idxOf u.univ) (a+pre.length)):=by
   have h1:A.idx 513 (.int .i64 ((a+pre.length:Nat):Int))=some (a+pre.length):=by
    show(if(0:Int)≤((a+pre.length:Nat):Int)∧((a+pre.length:Nat):Int)<((513:Nat):Int)then some ((a+pre.length:Nat):Int).toNat else none)=_
    rw[if_pos ⟨by omega,by omega⟩];rfl
   unfold A.xC
   rw[h1]
   simp only[Option.bind_some,Nat.mul_one,Nat.zero_add]
  have hst:A.storeAt (.op (σ.length+1+vs.idxOf u.univ) (a+pre.length)) [.bool true] (iD σ vs (oC f u.univ a pre.length))=some (iD σ vs (oC f u.univ a (pre.length+1))):=by
   simp only[A.storeAt,Xf σ _ hm]
   rw[afK _ (oC f u.univ a (pre.length+1) u.univ) (by omega) (by unfold oC;rw[if_pos ⟨rfl,by omega,by omega⟩]) (fun j hj=>by
    unfold oC
    by_cases q:a≤j∧j<a+pre.length
    ·rw[if_pos ⟨rfl,by omega,by omega⟩,if_pos ⟨rfl,q.1,q.2⟩]
    ·rw[if_neg (by omega),if_neg (by omega)])]
   simp only[Option.map_some]
   rw[aiQ σ hn hm (fun w hw=>by funext j;unfold oC;rw[if_neg (fun q=>hw q.1),if_neg (fun q=>hw q.1)])]
  simp only[aB,reduceCtorEq,kq,kr,ku,kC,jA,jx,jh,ha,hw,hlt',Qm,show A.gZ (.op (σ.length+1+vs.idxOf u.univ) 0)=some (.op (σ.length+1+vs.idxOf u.univ) 0)from rfl]
  rw[ecast,aky]
  simp only[aB,reduceCtorEq,hst,←ecast,hi1]
 ·intro t _
  rw[List.length_range']
  simp only[aB,reduceCtorEq,kq,kr,ku,kC,jA,jx,jh,ha,hw,Int.lt_irrefl]
 ·intro t _;simp only[aB,reduceCtorEq]
 ·intro pre x rest t r _ _ hb;cases hb
theorem aiN (σ:Heap) {vs:List Int} (hn:vs.Nodup) (f:Int→Nat→Bool) (u:bX) (a s:Nat) (ha:u.address=a) (hs:a+s≤513) (hf:u.univ∉vs→∀k,f u.univ k=false):
  IX [.om σ.length,.agg (bQ u),.int .i64 (s:Int)] (iD σ vs f)=some (.aL [],iD σ (if u.univ∈vs then vs else vs++[u.univ]) (oC f u.univ a s)):=by
 have e:Fk (.om σ.length) (.agg (bQ u)) (.int .i64 (s:Int)) (iD σ vs f)=some (.aL [],iD σ (if u.univ∈vs then vs else vs++[u.univ]) (oC f u.univ a s)):=by
  unfold Fk
  have Qm:A.look .i (.om σ.length) (.int .i64 u.univ) U.np (iD σ vs f)=some (if u.univ∈vs then .op (σ.length+1+vs.idxOf u.univ) 0 else .np):=by
   rw[Ap .i rfl (KG σ vs _),Kk]
   by_cases hm:u.univ∈vs<;>simp [hm]
  simp only[aB,reduceCtorEq,kq,kr,ku,kC,jA,jx,jh,Qm]
  by_cases hm:u.univ∈vs
  ·simp only[if_pos hm,show A.eql .p (.op (σ.length+1+vs.idxOf u.univ) 0) U.np=some (.bool false)from rfl,aB,reduceCtorEq,kq,kr,ku,kC,jA,jx,jh,ha]
   exact Vo σ hn f u a s ha hs hm fun _ h=>some (U.aL [],h)
  ·have RZ:A.hG .i (.om σ.length) (.int .i64 u.univ) (.op (iD σ vs f).length 0) (iD σ vs f++[aV.box (List.replicate 513 aD)])=some (iD σ (vs++[u.univ]) f):=by
    rw[F8 .i rfl (es:=sW (σ.length+1) vs) (by rw[List.getElem?_append_left (by rw[Xg];omega)];exact KG σ vs f),Xe _ _ _ _ hm]
    rw[Option.map_some,Xg,←Wo,aiP σ vs (hf hm)]
   simp only[if_neg hm,show A.eql .p U.np U.np=some (.bool true)from rfl,aB,reduceCtorEq,kq,kr,ku,kC,jA,jx,jh,RZ,ha]
   exact Vo σ (by rw[List.nodup_append];exact⟨hn,by simp,fun x hx y hy e=>hm (by simp at hy;rw[←hy,←e];exact hx)⟩) f u a s ha hs (by simp) fun _ h=>some (U.aL [],h)
 unfold IX A.wrap
 rw[Bool.false_and,cond_false]
 show(Fk (.om σ.length) (.agg (bQ u)) (.int .i64 (s:Int)) (iD σ vs f)).map _=_
 rw[e];rfl
theorem wI (n:Int) (σ:Heap):zW [.int .i64 n] σ=some (.bool (aU n 0 65535),σ):=by
 refine wrap_eq rfl ?_ rfl
 show M9 (.int .i64 n) σ=_
 unfold M9
 simp only[aB,reduceCtorEq,nM]
theorem Vm (x:dI) (σ:Heap):Jx [.agg (cm x)] σ=some (sl 1 rF (oD x.gQ x.fq),σ):=by
 refine wrap_eq (v:=sl 1 rF (oD x.gQ x.fq)) rfl ?_ rfl
 show N8 (.agg (cm x)) σ=_
 unfold N8 oD
 simp only[aB,reduceCtorEq,nF,nG,nH,nI,nJ,nK,nL,mT,mS,kD]
 repeat' ((first|rw[mh]|rw[mg]|rw[me]|rw[lY]|rw[l9]|rw[l8]);split<;>try simp only[aB,reduceCtorEq, *])
 all_goals rfl
theorem agx (σ:Heap) (l:List ng):(jL (fun pre (x:ng) (_:Unit)=>
    if aU x.low 0 65535=false∨aU x.high 0 65535=false∨x.high<x.low then(.out 1:Rd Unit Int)
    else if 0<pre.length∧x.low≤(pre.getLast?.map (·.high)).getD 0 then .out 7
    else if nT x.name=false then .out 5
    else if fu x.name (pre.map (·.name))=true then .out 6 else .go ()) [] l ()).el (fun _=>some (U.int .i64 0,σ)) (fun r=>some (U.int .i64 r,σ))=some (.int .i64 (Cb [] l),σ):=by
 refine(Af (ql:=Cb) ?_ ?_ (fun n=>some (U.int .i64 n,σ)) l []).trans ?_
 ·intro pre;rfl
 ·intro pre x rest;rw[Cb];simp only[xx,uK,uL]
 ·rfl
theorem ab0 (x:dI) (hx:Pz x) (l:List dI) (hl:l.length≤aY) (size:Int) (hf:∀y∈l,0≤y.fq) (σ:Heap):MB [.agg (cm x),sl 7 cm l,.int .i64 size] σ=some (.int .i64 (xK size l x),σ):=by
 refine wrap_eq rfl ?_ rfl
 show ME (.agg (cm x)) (sl 7 cm l) (.int .i64 size) σ=_
 obtain⟨k1,k2,k3,k4,k5,k6⟩:=hx
 have hN:=Jt _ k1
 unfold ME xK
 simp only[aB,reduceCtorEq,nF,nG,nH,nI,nJ,nK,nL,mT,mS,kD,hN]
 cases hn:nT x.name
 ·simp only[aB,reduceCtorEq]
 simp only[aB,reduceCtorEq]
 refine(xg l (fun y=>decide (y.name=x.name)) (fun i=>[.lbx (cm x),.int .i64 0,.int .i64 (i:Int)]) σ (.exit 0,[.lbx (cm x),.int .i64 0,.int .i64 (l.length:Int)],σ) (fun i=>(.ret,[.lbx (cm x),.int .i64 6,.int .i64 (i:Int)],σ)) _ (some (.int .i64 6,σ)) ?_ ?_ rfl ?_).trans ?_
 ·intro i y hy
  obtain⟨h1,h2,h3⟩:=uF 7 cm hy
  have h3:=h3 hl
  simp only[aB,reduceCtorEq,nF,nG,nH,nI,nJ,nK,nL,mT,mS,kD,h1,h2,h3]
  repeat' ((first|rw[mh]|rw[mg]|rw[me]|rw[lY]|rw[l9]|rw[l8]);split<;>try simp only[aB,reduceCtorEq, *])
 ·simp only[aB,reduceCtorEq,Int.lt_irrefl]
 ·intro i;simp only[aB,reduceCtorEq]
 rw[←J9 x.name (fun y:dI=>y.name)]
 cases hm:fu x.name (l.map (·.name))
 ·simp only[aB,reduceCtorEq,nF,nG,nH,nI,nJ,nK,nL,mT,mS,kD,nM,wI]
  cases hg:aU x.group 1 4
  ·simp only[aB,reduceCtorEq]
  simp only[aB,reduceCtorEq]
  by_cases hw:aU x.gQ 1 size=false∨aU x.fq 0 size=false∨aU x.default 0 65535=false
  ·rw[if_pos hw]
   cases ha:aU x.gQ 1 size
   ·simp only[aB,reduceCtorEq]
   cases hb:aU x.fq 0 size
   ·simp only[aB,reduceCtorEq,nM,hb]
   ·have hc:aU x.default 0 65535=false:=by simpa [ha,hb]using hw
    simp only[aB,reduceCtorEq,nM,wI,hb,hc]
  ·rw[if_neg hw]
   simp only[not_or,Bool.not_eq_false]at hw
   obtain⟨ha,hb,hc⟩:=hw
   have hx0:0≤x.fq:=by simp [aU]at hb;exact hb.1
   simp only[aB,reduceCtorEq,nM,wI,ha,hb,hc]
   by_cases he:x.gQ=x.fq
   ·simp only[aB,reduceCtorEq,he]
   simp only[aB,reduceCtorEq,he]
   refine(xg l (fun y=>Eb x.gQ x.fq y.gQ y.fq) (fun i=>[.lbx (cm x),.int .i64 0,.int .i64 (i:Int)]) σ (.exit 3,[.lbx (cm x),.int .i64 0,.int .i64 (l.length:Int)],σ) (fun i=>(.ret,[.lbx (cm x),.int .i64 12,.int .i64 (i:Int)],σ)) _ (some (.int .i64 12,σ)) ?_ ?_ rfl ?_).trans ?_
   ·intro i y hy
    obtain⟨h1,h2,h3⟩:=uF 7 cm hy
    have h3:=h3 hl
    have qt:∀a b:Int,(oD a b).length≤aY:=by intro a b;unfold oD aY;split<;>simp
    simp only[aB,reduceCtorEq,nF,nG,nH,nI,nJ,nK,nL,mT,mS,kD,h1,h2,h3,Vm]
    refine(xg (oD x.gQ x.fq) (fun s=>fu s (oD y.gQ y.fq)) (fun j=>[.lbx (cm x),.int .i64 0,.lbx (cm y),.int .i64 (j:Int)]) σ (.exit 5,[.lbx (cm x),.int .i64 0,.lbx (cm y),.int .i64 ((oD x.gQ x.fq).length:Int)],σ) (fun j=>(.ret,[.lbx (cm x),.int .i64 12,.lbx (cm y),.int .i64 (j:Int)],σ)) _ (some (.ret,[.lbx (cm x),.int .i64 12,.int .i64 (i:Int)],σ)) ?_ ?_ rfl ?_).trans ?_
    ·intro j s hs
     obtain⟨g1,g2,g3⟩:=uF 1 rF hs
     have g3:=g3 (qt _ _)
     have hc:∀σ,IG [sl 1 rF (oD y.gQ y.fq),.int .i64 s] σ=some (.bool (fu s (oD y.gQ y.fq)),σ):=by
      intro σ
      rw[aaT _ (qt _ _) s σ]
      simp only[fu]
      congr 4;funext z;rw[decide_eq_decide];exact eq_comm
     simp only[aB,reduceCtorEq,nF,nG,nH,nI,nJ,nK,nL,mT,mS,kD,g1,g2,g3,Vm,hc]
     cases fu s (oD y.gQ y.fq)<;>simp only[aB,reduceCtorEq]
    ·simp only[aB,reduceCtorEq,Int.lt_irrefl]
    ·intro j;simp only[aB,reduceCtorEq]
    ·simp only[aB,reduceCtorEq,Eb,h3];rfl
   ·simp only[aB,reduceCtorEq,Int.lt_irrefl]
   ·intro i;simp only[aB,reduceCtorEq]
   have iO:(l.any fun y=>Eb x.gQ x.fq y.gQ y.fq)=true↔(fu x.gQ (slotsOf l)=true∨(0<x.fq∧fu x.fq (slotsOf l)=true)):=afp hf hx0
   by_cases EO:(l.any fun y=>Eb x.gQ x.fq y.gQ y.fq)=true
   ·rw[if_pos EO,if_pos (iO.1 EO)]
   rw[if_neg EO,if_neg (fun h=>EO (iO.2 h))]
   clear iO EO
   simp only[aB,reduceCtorEq,nF,nG,nH,nI,nJ,nK,nL,mT,mS,kD]
   unfold Au
   by_cases zC:30<x.ranges.length
   ·have vE:(30:Int)<x.ranges.length:=by omega
    simp only[aB,reduceCtorEq,zC,vE]
   have vE:¬(30:Int)<x.ranges.length:=by omega
   simp only[aB,reduceCtorEq,zC,vE]
   refine(mU (S:=Unit) (R:=Int) x.ranges _
    (fun pre _=>[.lbx (cm x),.int .i64 0,.int .i64 (pre.length:Int)]) (fun pre _=>σ)
    (fun _=>(.exit 7,[.lbx (cm x),.int .i64 0,.int .i64 (x.ranges.length:Int)],σ)) (fun pre _ r=>(.ret,[.lbx (cm x),.int .i64 r,.int .i64 (pre.length:Int)],σ))
    (fun _ _=>True) () (fun _=>some (U.int .i64 0,σ)) (fun r=>some (U.int .i64 r,σ)) ?_ ?_ trivial (fun _ _ _ _ _ _ _ _=>trivial) ?_ ?_).trans (agx σ x.ranges)
   ·intro pre r rest u hl' _
    have hr:=mZ hl'
    have hlt:=pq hl'
    have hi1:IntKind.i64.wrap ((pre.length:Int)+1)=(pre.length:Int)+1:=wrap64 (by unfold aZ;omega)
    have hi2:IntKind.i64.wrap ((pre.length:Int) -1)=(pre.length:Int) -1:=wrap64 (by unfold aZ;omega)
    have hlt':(pre.length:Int)<(x.ranges.length:Int):=by omega
    have hnm:=(k6.2 r (by rw[hl'];simp)).2.2
    have gK:=jy 3 jR x.ranges hr
    have Zv:=Jt _ hnm
    have hst:=fun σ=>DC 3 jR x.ranges (k:=pre.length) (by omega) (σ:=σ)
    rw[Kf hl']at hst
    have hpl:pre.length≤aY:=by unfold aY;omega
    by_cases h0:0<pre.length
    ·obtain⟨y,hy,hy2⟩:=OY hl' h0
     have Cg:=Ae 3 jR x.ranges h0 hy2
     have jZ:(0:Int)<pre.length:=by omega
     clear hl' hr hlt zC vE hy2 hnm k1 k2 k3 k4 k5 k6 hN hn hm hg ha hb hc hx0 he hf
     simp only[aB,reduceCtorEq,wL,wM,wN,wU,wR,wW,nF,nG,nH,nI,nJ,nK,nL,mT,mS,kD,hlt',gK,wI,hi1,hi2,Zv,jZ,hy,h0]
     repeat' ((first|rw[mh]|rw[mg]|rw[me]|rw[lY]|rw[l9]|rw[l8]);split<;>try simp only[aB,reduceCtorEq,wL,wM,wN,wU,wR,wW,nF,nG,nH,nI,nJ,nK,nL,mT,mS,kD,wI, *])
     all_goals first|rfl|(simp_all;done)|skip
     all_goals
      refine(xg pre (fun z=>decide (z.name=r.name)) (fun j=>[.lbx (cm x),.int .i64 0,.lbx (jR r),.int .i64 (j:Int)]) σ (.exit 10,[.lbx (cm x),.int .i64 0,.lbx (jR r),.int .i64 (pre.length:Int)],σ) (fun j=>(.ret,[.lbx (cm x),.int .i64 6,.lbx (jR r),.int .i64 (j:Int)],σ)) _ (some (.ret,[.lbx (cm x),.int .i64 6,.int .i64 (pre.length:Int)],σ)) ?_ ?_ rfl ?_).trans ?_
      ·intro j z hz
       obtain⟨g1,g2,g3⟩:=uF 3 jR hz
       have g3:=g3 hpl
       simp only[aB,reduceCtorEq,wL,wM,wN,wU,wR,wW,g1,g2,g3]
       repeat' ((first|rw[mh]|rw[mg]|rw[me]|rw[lY]|rw[l9]|rw[l8]);split<;>try simp only[aB,reduceCtorEq, *])
      ·simp only[aB,reduceCtorEq,Int.lt_irrefl]
      ·intro j;simp only[aB,reduceCtorEq]
      ·rw[←J9 r.name (fun z:ng=>z.name)]
       simp_all [aB,reduceCtorEq]
       try (split<;>simp_all)
    ·have jZ:¬(0:Int)<pre.length:=by omega
     clear hl' hr hlt zC vE hnm k1 k2 k3 k4 k5 k6 hN hn hm hg ha hb hc hx0 he hf
     simp only[aB,reduceCtorEq,wL,wM,wN,wU,wR,wW,nF,nG,nH,nI,nJ,nK,nL,mT,mS,kD,hlt',gK,wI,hi1,hi2,Zv,jZ,h0]
     repeat' ((first|rw[mh]|rw[mg]|rw[me]|rw[lY]|rw[l9]|rw[l8]);split<;>try simp only[aB,reduceCtorEq,wL,wM,wN,wU,wR,wW,nF,nG,nH,nI,nJ,nK,nL,mT,mS,kD,wI, *])
     all_goals first|rfl|(simp_all;done)|skip
     all_goals
      refine(xg pre (fun z=>decide (z.name=r.name)) (fun j=>[.lbx (cm x),.int .i64 0,.lbx (jR r),.int .i64 (j:Int)]) σ (.exit 10,[.lbx (cm x),.int .i64 0,.lbx (jR r),.int .i64 (pre.length:Int)],σ) (fun j=>(.ret,[.lbx (cm x),.int .i64 6,.lbx (jR r),.int .i64 (j:Int)],σ)) _ (some (.ret,[.lbx (cm x),.int .i64 6,.int .i64 (pre.length:Int)],σ)) ?_ ?_ rfl ?_).trans ?_
      ·intro j z hz
       obtain⟨g1,g2,g3⟩:=uF 3 jR hz
       have g3:=g3 hpl
       simp only[aB,reduceCtorEq,wL,wM,wN,wU,wR,wW,g1,g2,g3]
       repeat' ((first|rw[mh]|rw[mg]|rw[me]|rw[lY]|rw[l9]|rw[l8]);split<;>try simp only[aB,reduceCtorEq, *])
      ·simp only[aB,reduceCtorEq,Int.lt_irrefl]
      ·intro j;simp only[aB,reduceCtorEq]
      ·rw[←J9 r.name (fun z:ng=>z.name)]
       simp_all [aB,reduceCtorEq]
       try (split<;>simp_all)
   ·intro u _;simp only[aB,reduceCtorEq,Int.lt_irrefl]
   ·intro u _;simp only[aB,reduceCtorEq]
   ·intros;simp only[aB,reduceCtorEq]
 ·simp only[aB,reduceCtorEq]
theorem abE (p:bV) (hok:BC p) (σ:Heap):Mp [.agg (cA p)] σ=some (.int .i64 (mW p),σ):=by
 refine wrap_eq rfl ?_ rfl
 show Ms (.agg (cA p)) σ=_
 obtain⟨pn,ps,l⟩:=p
 obtain⟨hnm,hps,Ci⟩:=hok
 simp only at hnm hps Ci
 have hN:=Jt _ hnm
 unfold Ms mW
 simp only[aB,reduceCtorEq,kW,kX,kY,lg,kZ,jQ,hN,nM]
 cases hn:nT pn
 ·simp only[aB,reduceCtorEq]
 cases hz:aU ps 1 512
 ·simp only[aB,reduceCtorEq]
 by_cases h0:l.length=0
 ·obtain rfl:l=[]:=List.eq_nil_of_length_eq_zero h0
  simp [aB,reduceCtorEq]
 have jZ:¬(l.length:Int)=0:=by omega
 by_cases CK:40<l.length
 ·have y9:(40:Int)<l.length:=by omega
  simp only[aB,reduceCtorEq,h0,jZ,CK,y9]
 have y9:¬(40:Int)<l.length:=by omega
 simp only[aB,reduceCtorEq,h0,jZ,CK,y9]
 refine(mU (S:=Unit) (R:=Int) l (fun pre x _=>if xK ps pre x=0 then .go ()else .out (xK ps pre x))
  (fun pre _=>[.lbx (cA ⟨pn,ps,l⟩),.int .i64 0,.int .i64 (pre.length:Int)]) (fun pre _=>σ)
  (fun _=>(.exit 1,[.lbx (cA ⟨pn,ps,l⟩),.int .i64 0,.int .i64 (l.length:Int)],σ))
  (fun pre _ r=>(.ret,[.lbx (cA ⟨pn,ps,l⟩),.int .i64 r,.int .i64 (pre.length:Int)],σ))
  (fun pre _=>∀y∈pre,0≤y.fq) () (fun _=>some (U.int .i64 0,σ)) (fun r=>some (U.int .i64 r,σ)) ?_ ?_ (by simp) ?_ ?_ ?_).trans ?_
 ·intro pre x rest u hl hpre
  have hx:=mZ hl;have hlt:=pq hl;have hi1:IntKind.i64.wrap ((pre.length:Int)+1)=(pre.length:Int)+1:=wrap64 (by unfold aZ;omega);have hi2:IntKind.i64.wrap ((pre.length:Int) -1)=(pre.length:Int) -1:=wrap64 (by unfold aZ;omega);have hlt':(pre.length:Int)<(l.length:Int):=by omega
  have hX:=ab0 x (Ci.2 x (by rw[hl];simp)) pre (by unfold aY;omega) ps hpre σ
  have gK:=jy 7 cm l hx
  have hst:=fun σ=>DC 7 cm l (k:=pre.length) (by omega) (σ:=σ)
  rw[Kf hl]at hst
  clear hl hx hlt Ci CK y9 h0 jZ hnm hps hN hn hz hpre
  simp only[aB,reduceCtorEq,nF,nG,nH,nI,nJ,nK,nL,mT,mS,kD,kW,kX,kY,lg,kZ,jQ,hlt',gK,hst,hX,hi1]
  repeat' ((first|rw[mh]|rw[mg]|rw[me]|rw[lY]|rw[l9]|rw[l8]);split<;>try simp only[aB,reduceCtorEq,nF,nG,nH,nI,nJ,nK,nL,mT,mS,kD, *])
  all_goals first|with_reducible rfl|(simp [*];done)|(simp_all;done)|(simp_all;omega)|rfl
 ·intro u _
  exact th _ _ _
 ·intro pre x rest s s' hl hpre hb y hy
  rcases List.mem_append.1 hy with hy|hy
  ·exact hpre y hy
  ·simp at hy;subst hy
   by_cases h:xK ps pre y=0
   ·exact afo h
   ·rw[if_neg h]at hb;cases hb
 ·intro u _;simp only[aB,reduceCtorEq]
 ·intros;simp only[aB,reduceCtorEq]
 ·refine(Af (ql:=uS ps) ?_ ?_ (fun n=>some (U.int .i64 n,σ)) l []).trans ?_
  ·intro pre;rfl
  ·intro pre x rest;rw[afn];simp only[xx,uK,uL]
  ·rfl
theorem abD (l:List bV) (hok:cH BC l) (σ:Heap):Mo [sl 3 cA l] σ=some (.int .i64 (tP l),σ):=by
 refine wrap_eq rfl ?_ rfl
 show Mr (sl 3 cA l) σ=_
 unfold Mr tP
 simp only[aB,reduceCtorEq]
 by_cases ug:60<l.length
 ·have oG:(60:Int)<l.length:=by omega
  simp only[aB,reduceCtorEq,ug,oG]
 have oG:¬(60:Int)<l.length:=by omega
 simp only[aB,reduceCtorEq,ug,oG]
 refine(mU (S:=Unit) (R:=Int) l (fun pre x _=>if mW x=0 then(if fu x.name (pre.map (·.name))=true then .out 6 else .go ())else .out (mW x))
  (fun pre _=>[.int .i64 0,.int .i64 (pre.length:Int)]) (fun pre _=>σ)
  (fun _=>(.exit 0,[.int .i64 0,.int .i64 (l.length:Int)],σ)) (fun pre _ r=>(.ret,[.int .i64 r,.int .i64 (pre.length:Int)],σ))
  (fun _ _=>True) () (fun _=>some (U.int .i64 0,σ)) (fun r=>some (U.int .i64 r,σ)) ?_ ?_ trivial (fun _ _ _ _ _ _ _ _=>trivial) ?_ ?_).trans ?_
 ·intro pre x rest u hl _
  have hx:=mZ hl;have hlt:=pq hl;have hi1:IntKind.i64.wrap ((pre.length:Int)+1)=(pre.length:Int)+1:=wrap64 (by unfold aZ;omega);have hi2:IntKind.i64.wrap ((pre.length:Int) -1)=(pre.length:Int) -1:=wrap64 (by unfold aZ;omega);have hlt':(pre.length:Int)<(l.length:Int):=by omega
  have hP:=abE x (hok.2 x (by rw[hl];simp))
  have gK:=jy 3 cA l hx
  have hst:=fun σ=>DC 3 cA l (k:=pre.length) (by omega) (σ:=σ)
  rw[Kf hl]at hst
  have hpl:pre.length≤aY:=by unfold aY;omega
  clear hl hx hlt hok ug oG
  simp only[aB,reduceCtorEq,kW,kX,kY,lg,kZ,jQ,hlt',gK,hi1,hst,hP]
  by_cases hp:mW x=0
  ·simp only[aB,reduceCtorEq,hp]
   refine(xg pre (fun z=>decide (z.name=x.name)) (fun j=>[.int .i64 0,.lbx (cA x),.int .i64 (j:Int)]) σ (.exit 2,[.int .i64 0,.lbx (cA x),.int .i64 (pre.length:Int)],σ) (fun j=>(.ret,[.int .i64 6,.lbx (cA x),.int .i64 (j:Int)],σ)) _ (some (.ret,[.int .i64 6,.int .i64 (pre.length:Int)],σ)) ?_ ?_ rfl ?_).trans ?_
   ·intro j z hz
    obtain⟨g1,g2,g3⟩:=uF 3 cA hz
    have g3:=g3 hpl
    simp only[aB,reduceCtorEq,kW,kX,kY,lg,kZ,jQ,g1,g2,g3]
    repeat' ((first|rw[mh]|rw[mg]|rw[me]|rw[lY]|rw[l9]|rw[l8]);split<;>try simp only[aB,reduceCtorEq, *])
   ·simp only[aB,reduceCtorEq,Int.lt_irrefl]
   ·intro j;simp only[aB,reduceCtorEq]
   ·rw[←J9 x.name (fun z:bV=>z.name)]
    simp only[aB,reduceCtorEq,hi1]
    cases fu x.name (pre.map (·.name))<;>simp [Rd.el]
  ·simp only[aB,reduceCtorEq,hp]
 ·intro u _
  exact th _ _ _
 ·intro u _;simp only[aB,reduceCtorEq]
 ·intros;simp only[aB,reduceCtorEq]
 ·refine(Af (ql:=xI) ?_ ?_ (fun n=>some (U.int .i64 n,σ)) l []).trans ?_
  ·intro pre;rfl
  ·intro pre x rest;rw[xI];simp only[xx,uK,uL]
  ·rfl
theorem VX (r:bu) (u:bX) (hl:r.bz.length≤aY) (h:aZ (u.address+(eP u.profile r.bz).1.size)) (h':aZ (jl r.bz u)) (σ:Heap):FK [.agg (aP r),.agg (bQ u)] σ=some (.int .i64 (jl r.bz u),σ):=by
 refine wrap_eq rfl ?_ rfl
 show Oq (.agg (aP r)) (.agg (bQ u)) σ=_
 unfold Oq
 unfold jl at h' ⊢
 simp only[aB,reduceCtorEq,lQ,lR,lT,lS,lU,kq,kr,ku,kC,jA,jx,jh,kW,kX,kY,lg,kZ,jQ,Np _ hl,wrap64 h,wrap64 h']
theorem Uj {α:Type} (f:α→Int) {l pre rest:List α} {x:α} (h:l=pre++x::rest) (n:Int):(∃y,0<pre.length∧l[pre.length-1]? =some y∧A8 (pre.map f) n=decide (n≤f y))∨(¬0<pre.length∧A8 (pre.map f) n=false):=by
 by_cases h0:0<pre.length
 ·obtain⟨y,hy,hy2⟩:=OY h h0
  exact .inl ⟨y,h0,hy2,by simp [A8,List.getLast?_map,hy]⟩
 ·obtain rfl:pre=[]:=List.eq_nil_of_length_eq_zero (by omega)
  exact .inr ⟨h0,rfl⟩
theorem ajc {r:bu} {x:bX} (h:1≤x.address∧x.address≤jl r.bz x∧jl r.bz x≤512):aZ (x.address+(eP x.profile r.bz).1.size)∧aZ (jl r.bz x):=by
 unfold jl at h ⊢
 unfold aZ
 omega
theorem acE (r:bu) (hok:fU r) (σ:Heap):MQ [.agg (aP r)] σ=some (.int .i64 (dO r),σ):=by
 refine wrap_eq rfl ?_ rfl
 show MV (.agg (aP r)) σ=_
 obtain⟨Et,R1⟩:=hok
 have uj:=Et.1
 unfold MV dO
 simp only[aB,reduceCtorEq,lQ,lR,lT,lS,lU,abD _ Et]
 by_cases hf:tP r.bz=0
 case neg=>simp only[aB,reduceCtorEq,hf]
 by_cases h4:400<r.units.length
 ·have h4':(400:Int)<r.units.length:=by omega
  simp only[aB,reduceCtorEq,lQ,lR,lT,lS,lU,hf,h4,h4']
 have h4':¬(400:Int)<r.units.length:=by omega
 simp only[aB,reduceCtorEq,lQ,lR,lT,lS,lU,hf,h4,h4']
 have Ef:=Ug hf
 generalize zG:r.units=l at *
 refine(mU (S:=Unit) (R:=Int) l (fun pre u _=>if aU u.number 1 9999=false then .out 1
    else if A8 (pre.map (·.number)) u.number=true then .out 7
    else if(eP u.profile r.bz).2=false then .out 5
    else if aU u.univ 1 64=false∨aU u.address 1 512=false∨512<jl r.bz u then .out 1
    else if Az r.bz u pre=true then .out 12 else .go ())
  (fun pre _=>[.lbx (aP r),.int .i64 0,.int .i64 (pre.length:Int)]) (fun pre _=>σ)
  (fun _=>(.exit 0,[.lbx (aP r),.int .i64 0,.int .i64 (l.length:Int)],σ)) (fun pre _ n=>(.ret,[.lbx (aP r),.int .i64 n,.int .i64 (pre.length:Int)],σ))
  (fun pre _=>DZ r.bz pre) () (fun _=>some (U.int .i64 0,σ)) (fun n=>some (U.int .i64 n,σ)) ?_ ?_ (by intro x hx;simp at hx) ?_ ?_ ?_).trans ?_
 ·intro pre u rest s hl hP
  have hx:=mZ hl;have hlt:=pq hl;have hi1:IntKind.i64.wrap ((pre.length:Int)+1)=(pre.length:Int)+1:=wrap64 (by unfold aZ;omega);have hi2:IntKind.i64.wrap ((pre.length:Int) -1)=(pre.length:Int) -1:=wrap64 (by unfold aZ;omega);have hlt':(pre.length:Int)<(l.length:Int):=by omega
  have hmp:pre.length≤aY:=by unfold aY;omega
  have gK:=jy 4 bQ l hx
  have hst:=fun σ=>DC 4 bQ l (k:=pre.length) (by omega) (σ:=σ)
  rw[Kf hl]at hst
  have EM:=Np r.bz uj u.profile
  have ho:=Uj (·.number) hl u.number
  clear R1 h4 h4' hl hx
  simp only[aB,reduceCtorEq,kq,kr,ku,kC,jA,jx,jh,lQ,lR,lT,lS,lU,zG,hlt',gK,EM,kW,kX,kY,lg,kZ,jQ,nM]
  cases h1:aU u.number 1 9999
  ·simp only[aB,reduceCtorEq]
  simp only[aB,reduceCtorEq]
  rcases ho with⟨y,h0,hy,ho⟩|⟨h0,ho⟩
  case' inl=>
   have jZ:(0:Int)<pre.length:=by omega
   have Cg:=Ae 4 bQ l h0 hy
   by_cases hq:u.number≤y.number
   ·simp only[aB,reduceCtorEq,kq,kr,ku,kC,jA,jx,jh,lQ,lR,lT,lS,lU,zG,jZ,hi2,Cg,ho,hq]
   simp only[aB,reduceCtorEq,kq,kr,ku,kC,jA,jx,jh,lQ,lR,lT,lS,lU,zG,jZ,hi2,Cg,ho,hq]
  case' inr=>
   have jZ:¬(0:Int)<pre.length:=by omega
   simp only[aB,reduceCtorEq,jZ,ho]
  all_goals
   cases hp:(eP u.profile r.bz).2
   ·simp only[aB,reduceCtorEq]
   have hsz:=Ef _ (FI _ _ hp)
   cases hu:aU u.univ 1 64
   ·simp only[aB,reduceCtorEq,kq,kr,ku,kC,jA,jx,jh,nM,hu]
   cases ha:aU u.address 1 512
   ·simp only[aB,reduceCtorEq,kq,kr,ku,kC,jA,jx,jh,nM,hu,ha]
   have ha':1≤u.address∧u.address≤512:=by simpa [aU]using ha
   have RL:=VX r u uj (by unfold aZ;omega) (by unfold jl aZ;omega)
   by_cases h5:512<jl r.bz u
   ·simp only[aB,reduceCtorEq,kq,kr,ku,kC,jA,jx,jh,lQ,lR,lT,lS,lU,nM,hu,ha,RL,h5]
   simp only[aB,reduceCtorEq,kq,kr,ku,kC,jA,jx,jh,lQ,lR,lT,lS,lU,nM,hu,ha,RL,h5,zG,hst]
   refine(xg pre (fun x=>decide (x.univ=u.univ∧x.address≤jl r.bz u∧u.address≤jl r.bz x)) (fun j=>[.lbx (aP r),.int .i64 0,.lbx (bQ u),.int .i64 (j:Int)]) σ (.exit 3,[.lbx (aP r),.int .i64 0,.lbx (bQ u),.int .i64 (pre.length:Int)],σ) (fun j=>(.ret,[.lbx (aP r),.int .i64 12,.lbx (bQ u),.int .i64 (j:Int)],σ)) _ (some (.ret,[.lbx (aP r),.int .i64 12,.int .i64 (pre.length:Int)],σ)) ?_ ?_ rfl ?_).trans ?_
   ·intro j z hz
    obtain⟨g1,g2,g3⟩:=uF 4 bQ hz
    have g3:=g3 hmp
    have ZM:=ajc (hP z (List.mem_of_getElem? hz))
    have hLz:=VX r z uj ZM.1 ZM.2
    clear hP Ef hz
    simp only[aB,reduceCtorEq,kq,kr,ku,kC,jA,jx,jh,lQ,lR,lT,lS,lU,g1,g2,g3]
    repeat' ((first|rw[mh]|rw[mg]|rw[me]|rw[lY]|rw[l9]|rw[l8]);split<;>try simp only[aB,reduceCtorEq,kq,kr,ku,kC,jA,jx,jh,lQ,lR,lT,lS,lU,RL,hLz, *])
    all_goals first|with_reducible rfl|(simp [*];done)|(simp_all;done)|(simp_all;omega)|rfl
   ·exact th _ _ _
   ·intro j;simp only[aB,reduceCtorEq]
   ·unfold Az
    simp only[aB,reduceCtorEq,hi1]
    cases pre.any (fun x=>decide (x.univ=u.univ∧x.address≤jl r.bz u∧u.address≤jl r.bz x))<;>simp [Rd.el]
 ·intro u _
  exact th _ _ _
 ·intro pre u rest s s' hl hP hb
  split at hb
  ·cases hb
  split at hb
  ·cases hb
  split at hb
  ·cases hb
  rename_i hp
  split at hb
  ·cases hb
  rename_i hw
  simp only[not_or,Bool.not_eq_false,aU,Bool.and_eq_true,decide_eq_true_eq]at hw hp
  have hsz:=Ef _ (FI _ _ (by simpa using hp))
  exact hP.snoc ⟨hw.2.1.1,by unfold jl;omega,by omega⟩
 ·intro u _;simp only[aB,reduceCtorEq]
 ·intros;simp only[aB,reduceCtorEq]
 ·refine(Af (ql:=xJ r.bz) ?_ ?_ (fun n=>some (U.int .i64 n,σ)) l []).trans ?_
  ·intro pre;rfl
  ·intro pre x rest;rw[xJ];simp only[xx,uK,uL]
  ·rfl
theorem ahk (σ:Heap) (vs:List Int) (f:Int→Nat→Bool) (v:Int):A.look .i (.om σ.length) (.int .i64 v) U.np (iD σ vs f)=some (if v∈vs then .op (σ.length+1+vs.idxOf v) 0 else .np):=by
 rw[Ap .i rfl (KG σ vs _),Kk]
 by_cases hm:v∈vs<;>simp [hm]
theorem WH (σ:Heap) (vs:List Int) (f:Int→Nat→Bool) (n:Int):A.fin σ (.int .i64 n) (iD σ vs f)=some (.int .i64 n,σ):=Pk _ _ _ _
theorem No (r:bu) (hok:fU r) (σ:Heap):IL [.agg (aP r)] σ=some (.int .i64 (dO r),σ):=by
 refine wrap_eq rfl ?_ rfl
 show Ml (.agg (aP r)) σ=_
 obtain⟨Et,R1⟩:=hok
 have uj:=Et.1
 unfold Ml dO
 simp only[aB,reduceCtorEq,lQ,lR,lT,lS,lU,abM _ Et]
 by_cases hf:tP r.bz=0
 case neg=>simp only[aB,reduceCtorEq,hf]
 by_cases h4:400<r.units.length
 ·have h4':(400:Int)<r.units.length:=by omega
  simp only[aB,reduceCtorEq,lQ,lR,lT,lS,lU,hf,h4,h4']
 have h4':¬(400:Int)<r.units.length:=by omega
 simp only[aB,reduceCtorEq,lQ,lR,lT,lS,lU,hf,h4,h4']
 have Ef:=Ug hf
 generalize zG:r.units=l at *
 refine(mU (S:=List Int×(Int→Nat→Bool)) (R:=Int) l (fun pre u s=>if aU u.number 1 9999=false then .out 1
    else if A8 (pre.map (·.number)) u.number=true then .out 7
    else if(eP u.profile r.bz).2=false then .out 5
    else if aU u.univ 1 64=false∨aU u.address 1 512=false∨512<jl r.bz u then .out 1
    else if Az r.bz u pre=true then .out 12 else .go (if u.univ∈s.1 then s.1 else s.1++[u.univ],oC s.2 u.univ u.address.toNat (eP u.profile r.bz).1.size.toNat))
  (fun pre _=>[.lbx (aP r),.int .i64 0,.int .i64 (pre.length:Int)]) (fun pre s=>iD σ s.1 s.2)
  (fun s=>(.exit 0,[.lbx (aP r),.int .i64 0,.int .i64 (l.length:Int)],iD σ s.1 s.2)) (fun pre s n=>(.ret,[.lbx (aP r),.int .i64 n,.int .i64 (pre.length:Int)],iD σ s.1 s.2))
  (fun pre s=>DZ r.bz pre∧Ax r.bz pre s.2∧s.1.Nodup∧∀v,v∉s.1→∀k,s.2 v k=false) ([],fun _ _=>false) (fun _=>some (U.int .i64 0,σ)) (fun n=>some (U.int .i64 n,σ)) ?_ ?_ ⟨(by intro x hx;simp at hx),Ax.nil _,List.nodup_nil,fun _ _ _=>rfl⟩ ?_ ?_ ?_).trans ?_
 ·intro pre u rest s hl hP
  have hx:=mZ hl;have hlt:=pq hl;have hi1:IntKind.i64.wrap ((pre.length:Int)+1)=(pre.length:Int)+1:=wrap64 (by unfold aZ;omega);have hi2:IntKind.i64.wrap ((pre.length:Int) -1)=(pre.length:Int) -1:=wrap64 (by unfold aZ;omega);have hlt':(pre.length:Int)<(l.length:Int):=by omega
  have hmp:pre.length≤aY:=by unfold aY;omega
  have gK:=jy 4 bQ l hx
  have EM:=Um r.bz uj u.profile
  have ho:=Uj (·.number) hl u.number
  obtain⟨vs,f⟩:=s
  obtain⟨Ht,Hu,EJ,EL⟩:=hP
  dsimp only at Ht Hu EJ EL ⊢
  clear R1 h4 h4' hl hx
  simp only[aB,reduceCtorEq,kq,kr,ku,kC,jA,jx,jh,lQ,lR,lT,lS,lU,zG,hlt',gK,EM,kW,kX,kY,lg,kZ,jQ,nO]
  cases h1:aU u.number 1 9999
  ·simp only[aB,reduceCtorEq]
  simp only[aB,reduceCtorEq]
  rcases ho with⟨y,h0,hy,ho⟩|⟨h0,ho⟩
  case' inl=>
   have jZ:(0:Int)<pre.length:=by omega
   have Cg:=Ae 4 bQ l h0 hy
   by_cases hq:u.number≤y.number
   ·simp only[aB,reduceCtorEq,kq,kr,ku,kC,jA,jx,jh,lQ,lR,lT,lS,lU,zG,jZ,hi2,Cg,ho,hq]
   simp only[aB,reduceCtorEq,kq,kr,ku,kC,jA,jx,jh,lQ,lR,lT,lS,lU,zG,jZ,hi2,Cg,ho,hq]
  case' inr=>
   have jZ:¬(0:Int)<pre.length:=by omega
   simp only[aB,reduceCtorEq,jZ,ho]
  all_goals
   try simp only[aB,reduceCtorEq,kq,kr,ku,kC,jA,jx,jh,lQ,lR,lT,lS,lU,zG,EM]
   cases hp:(eP u.profile r.bz).2
   ·simp only[aB,reduceCtorEq,kW,kX,kY,lg,kZ,jQ]
   have hsz:=Ef _ (FI _ _ hp)
   try simp only[aB,reduceCtorEq,kq,kr,ku,kC,jA,jx,jh,kW,kX,kY,lg,kZ,jQ,nO]
   cases hu:aU u.univ 1 64
   ·simp only[aB,reduceCtorEq]
   cases ha:aU u.address 1 512
   ·simp only[aB,reduceCtorEq,kq,kr,ku,kC,jA,jx,jh,nO,ha]
   have ha':1≤u.address∧u.address≤512:=by simpa [aU]using ha
   have hw1:IntKind.i64.wrap (u.address+(eP u.profile r.bz).1.size)=u.address+(eP u.profile r.bz).1.size:=wrap64 (by unfold aZ;omega)
   have ZJ:IntKind.i64.wrap (u.address+(eP u.profile r.bz).1.size-1)=jl r.bz u:=wrap64 (by unfold aZ;omega)
   have hlu:jl r.bz u=u.address+(eP u.profile r.bz).1.size-1:=rfl
   by_cases h5:512<jl r.bz u
   ·simp only[aB,reduceCtorEq,kq,kr,ku,kC,jA,jx,jh,kW,kX,kY,lg,kZ,jQ,nO,ha,hw1,ZJ,h5]
   obtain⟨a,RN⟩:∃a:Nat,u.address=a:=⟨u.address.toNat,by omega⟩
   obtain⟨n,hne⟩:∃n:Nat,(eP u.profile r.bz).1.size=n:=⟨(eP u.profile r.bz).1.size.toNat,by omega⟩
   have LC:=aeo Hu Ht u a n RN (by omega) (by omega) (by omega)
   have hfree:De [if u.univ∈vs then .op (σ.length+1+vs.idxOf u.univ) 0 else .np,.int .i64 (a:Int),.int .i64 (n:Int)] (iD σ vs f)=some (.bool (!Az r.bz u pre),iD σ vs f):=by
    by_cases hm:u.univ∈vs
    ·rw[if_pos hm,ahL (f u.univ) a n (by omega) (Xf σ f hm),LC]
    ·rw[if_neg hm,ahK a n (by unfold aZ;omega) (by unfold aZ;omega),←LC]
     have e:uM (f u.univ) n a=true:=(Oi _ _ _).2 fun k h1 h2=>⟨by omega,EL _ hm k⟩
     rw[e,show decide ((a:Int)+n-1≤512)=true from decide_eq_true (by omega)]
   have zK:=aiN σ EJ f u a n RN (by omega) (EL u.univ)
   simp only[aB,reduceCtorEq,kq,kr,ku,kC,jA,jx,jh,kW,kX,kY,lg,kZ,jQ,nO,ha,hw1,ZJ,h5,ahk]
   rw[RN,hne]
   simp only[aB,reduceCtorEq,hfree]
   cases hc:Az r.bz u pre
   ·simp only[aB,reduceCtorEq,kq,kr,ku,kC,jA,jx,jh,kW,kX,kY,lg,kZ,jQ,hne,zK,hi1,Int.toNat_natCast]
   ·simp only[aB,reduceCtorEq]
 ·intro s _
  exact th _ _ _
 ·intro pre u rest s s' hl hP hb
  obtain⟨vs,f⟩:=s
  obtain⟨Ht,Hu,EJ,EL⟩:=hP
  dsimp only at Ht Hu EJ EL hb
  split at hb
  ·cases hb
  split at hb
  ·cases hb
  split at hb
  ·cases hb
  rename_i hp
  split at hb
  ·cases hb
  rename_i hw
  split at hb
  ·cases hb
  injection hb with hb
  subst hb
  simp only[not_or,Bool.not_eq_false,aU,Bool.and_eq_true,decide_eq_true_eq]at hw hp
  have hsz:=Ef _ (FI _ _ (by simpa using hp))
  have hlu:jl r.bz u=u.address+(eP u.profile r.bz).1.size-1:=rfl
  refine⟨Ht.snoc ⟨hw.2.1.1,by omega,by omega⟩,Hu.snoc u u.address.toNat _ (by omega) (by omega),?_,?_⟩
  ·dsimp only
   split
   ·exact EJ
   ·rename_i hm
    rw[List.nodup_append];exact⟨EJ,by simp,fun x hx y hy e=>hm (by simp at hy;rw[←hy,←e];exact hx)⟩
  ·intro v hv k
   dsimp only at hv ⊢
   have h1:v≠u.univ∧v∉vs:=by
    split at hv
    ·rename_i hm
     exact⟨fun e=>hv (e▸hm),hv⟩
    ·simp only[List.mem_append,List.mem_singleton,not_or]at hv
     exact⟨hv.2,hv.1⟩
   unfold oC
   rw[if_neg (fun q=>h1.1 q.1)]
   exact EL v h1.2 k
 ·intro s _;simp only[aB,reduceCtorEq,WH]
 ·intros;simp only[aB,reduceCtorEq,WH]
 ·refine(Un (ql:=xJ r.bz) ?_ ?_ (fun n=>some (U.int .i64 n,σ)) l [] _).trans ?_
  ·intro pre;rfl
  ·intro pre x rest s;rw[xJ];simp only[xx,uK,uL]
  ·rfl
def lz (gC:List bV) (u:bX):List aA:=(eP u.profile gC).1.params.map fun x=>⟨u.number,x.name⟩
def jI (r:bu):List aA:=r.units.flatMap (lz r.bz)
theorem abR {p:bV} (h:mW p=0):p.params.length≤40:=by
 unfold mW at h
 repeat' split at h
 all_goals first|(simp at h;done)|omega
theorem T4:∀(l pre:List bV),xI pre l=0→∀p∈l,mW p=0
 |[],pre,h,p,hp=>by simp at hp
 |q::rest,pre,h,p,hp=>by
  rw[xI]at h
  by_cases e:mW q=0
  ·rw[if_pos e]at h
   by_cases e2:fu q.name (pre.map (·.name))=true
   ·rw[if_pos e2]at h;simp at h
   ·rw[if_neg e2]at h
    simp only[List.mem_cons]at hp
    rcases hp with rfl|hp
    ·exact e
    ·exact T4 rest _ h p hp
  ·rw[if_neg e]at h;exact absurd h e
theorem O1 {r:bu} (h:dO r=0):tP r.bz=0:=by
 unfold dO at h
 split at h
 ·assumption
 ·rename_i h2;exact absurd h h2
theorem NZ {l:List bV} (h:tP l=0):∀p∈l,mW p=0:=by
 unfold tP at h
 by_cases e:60<l.length
 ·rw[if_pos e]at h;simp at h
 ·rw[if_neg e]at h;exact T4 l [] h
theorem Bz {r:bu} (h:dO r=0) (nm:ByteArray):(eP nm r.bz).1.params.length≤40:=by
 rw[vg]
 cases hf:r.bz.find? (fun x:bV=>decide (x.name=nm))with
 |none=>exact Nat.zero_le _
 |some p=>exact abR (NZ (O1 h) p (List.mem_of_find?_eq_some hf))
theorem Nn {r:bu} (h:dO r=0):∀(l:List bX),(l.flatMap (lz r.bz)).length≤l.length*40
 |[]=>by simp
 |u::l=>by
  have h1:=Bz h u.profile
  have h2:=Nn h l
  rw[List.flatMap_cons,List.length_append,List.length_cons,Nat.succ_mul]
  have h3:(lz r.bz u).length=(eP u.profile r.bz).1.params.length:=by simp [lz]
  omega
theorem ajg (l:List aA) (n:Int):A.nn (.t [(.s 2),.k]) (.aL [if l=[]then .aH else sl 2 aK l,.int .i64 n])=.aL [sl 2 aK l,.int .i64 n]:=by
 show U.aL [A.nn (.s 2) (if l=[]then .aH else sl 2 aK l),.int .i64 n]=_
 rw[ajh]
theorem uC {r:bu} (h:dO r=0):r.units.length≤400:=by
 unfold dO at h
 split at h
 ·split at h
  ·cases h
  ·omega
 ·rename_i h2;exact absurd h h2
theorem Wr (r:bu) (hok:fU r) (σ:Heap):IW [.agg (aP r)] σ=some (.aL [sl 2 aK (if dO r=0 then jI r else[]),.int .i64 (dO r)],σ):=by
 by_cases hf:dO r=0
 ·refine wrap_eq rfl (v:=.aL [if jI r=[]then .aH else sl 2 aK (jI r),.int .i64 0]) ?_ (by rw[if_pos hf,hf];exact ajg _ _)
  show Fj (.agg (aP r)) σ=_
  unfold Fj
  have hu:=uC hf
  have Et:=hok.1.2
  simp only[aB,reduceCtorEq,lQ,lR,lT,lS,lU,No r hok,hf]
  refine(mU (S:=Unit) (R:=Unit) r.units (fun pre u _=>(Rd.go ():Rd Unit Unit))
   (fun pre _=>[.lbx (aP r),uV σ.length 2 (pre.flatMap (lz r.bz)),.int .i64 (pre.length:Int)]) (fun pre _=>σ++rJ 2 aK (pre.flatMap (lz r.bz)))
   (fun _=>(.exit 0,[.lbx (aP r),uV σ.length 2 (jI r),.int .i64 (r.units.length:Int)],σ++rJ 2 aK (jI r))) (fun pre _ _=>(.ret,[],σ))
   (fun _ _=>True) () (fun _=>some (U.aL [if jI r=[]then .aH else sl 2 aK (jI r),.int .i64 0],σ)) (fun _=>none) ?_ ?_ trivial (fun _ _ _ _ _ _ _ _=>trivial) ?_ ?_ (fQ:=by simp [ag5])).trans (KR _ _ _ _)
  ·intro pre u rest s hl _
   have hx:=mZ hl
   have hlt:=pq hl
   have hi1:IntKind.i64.wrap ((pre.length:Int)+1)=(pre.length:Int)+1:=wrap64 (by unfold aZ;omega)
   have hlt':(pre.length:Int)<(r.units.length:Int):=by omega
   have gK:=jy 4 bQ r.units hx
   have EM:=Um r.bz hok.1.1 u.profile
   have hps:=Bz hf u.profile
   have rj:=Nn hf pre
   have hsn:(pre++[u]).flatMap (lz r.bz)=pre.flatMap (lz r.bz)++lz r.bz u:=by simp
   have als:pre.length≤399:=by omega
   generalize hK:pre.flatMap (lz r.bz)=K at *
   generalize hq:(eP u.profile r.bz).1=p at *
   simp only[aB,reduceCtorEq,kq,kr,ku,kC,jA,jx,jh,lQ,lR,lT,lS,lU,hlt',gK,EM,hq,kW,kX,kY,lg,kZ,jQ]
   refine(mU (S:=Unit) (R:=Unit) p.params (fun pre u _=>(Rd.go ():Rd Unit Unit))
    (fun vZ _=>[.lbx (aP r),uV σ.length 2 (K++vZ.map fun x=>(⟨u.number,x.name⟩:aA)),.lbx (bQ u),.int .i64 (vZ.length:Int)]) (fun vZ _=>σ++rJ 2 aK (K++vZ.map fun x=>(⟨u.number,x.name⟩:aA)))
    (fun _=>(.exit 2,[.lbx (aP r),uV σ.length 2 (K++lz r.bz u),.lbx (bQ u),.int .i64 (p.params.length:Int)],σ++rJ 2 aK (K++lz r.bz u))) (fun pre _ _=>(.ret,[],σ))
    (fun _ _=>True) () (fun _=>some (.normal,[.lbx (aP r),uV σ.length 2 (K++lz r.bz u),.int .i64 ((pre.length:Int)+1)],σ++rJ 2 aK (K++lz r.bz u))) (fun _=>none) ?_ ?_ trivial (fun _ _ _ _ _ _ _ _=>trivial) ?_ ?_ (hv:=by simp) (fQ:=by simp)).trans ((KR _ _ _ _).trans ?_)
   ·intro vZ x rest' s hl' _
    have gx:=mZ hl'
    have glt:=pq hl'
    have Zr:IntKind.i64.wrap ((vZ.length:Int)+1)=(vZ.length:Int)+1:=wrap64 (by unfold aZ;omega)
    have akx:(vZ.length:Int)<(p.params.length:Int):=by omega
    have gia:=jy 7 cm p.params gx
    have hap:=aez (most:=140737488355328 / 24) (sz:=2) aK (K++vZ.map fun x=>(⟨u.number,x.name⟩:aA)) ⟨u.number,x.name⟩ σ (by
     rw[List.length_append,List.length_map]
     omega)
    have akR:(K++(vZ++[x]).map fun x=>(⟨u.number,x.name⟩:aA))=(K++vZ.map fun x=>(⟨u.number,x.name⟩:aA))++[⟨u.number,x.name⟩]:=by simp
    clear hl gx glt hx hlt rj hl'
    rw[akR]
    have hch:U.sl 2 (chunks 2 1 [U.int .i64 u.number,U.str x.name])=.sl 2 [aK ⟨u.number,x.name⟩]:=rfl
    simp only[aB,reduceCtorEq,nF,nG,nH,nI,nJ,nK,nL,mT,mS,kD,kq,kr,ku,kC,jA,jx,jh,akx,gia,Zr]
    show(A.append 2 _ _ (U.sl 2 [aK ⟨u.number,x.name⟩]) _).bind _=_
    rw[hap]
    simp only[aB,reduceCtorEq,Zr]
   ·intro s _
    refine(th _ _ _).trans ?_
    subst hq
    rfl
   ·intro s _;simp only[aB,reduceCtorEq,hi1]
   ·intros;rename_i hb;cases hb
   ·rw[hsn]
  ·intro s _
   exact th _ _ _
  ·intro s _
   simp only[aB,reduceCtorEq,agK uI]
  ·intros;rename_i hb;cases hb
 ·refine wrap_eq rfl (v:=.aL [.aH,.int .i64 (dO r)]) ?_ (by rw[if_neg hf];rfl)
  show Fj (.agg (aP r)) σ=_
  unfold Fj
  simp only[aB,reduceCtorEq,lQ,lR,lT,lS,lU,No r hok,hf]
theorem TP (n:Int) (σ:Heap):IY [.int .i64 n] σ=some (.bool (aU n 0 65535),σ):=by
 refine wrap_eq rfl ?_ rfl
 show MN (.int .i64 n) σ=_
 unfold MN
 simp only[aB,reduceCtorEq,nO]
def BR (s:ByteArray):Bool:=if s=⟨#[]⟩then true else xB s
theorem agq (s:ByteArray) (hs:gD s) (σ:Heap):M7 [.str s] σ=some (.bool (BR s),σ):=by
 refine wrap_eq rfl ?_ rfl
 show Nh (.str s) σ=_
 unfold Nh BR
 by_cases h:s=⟨#[]⟩
 ·simp only[aB,reduceCtorEq,h]
 ·simp only[aB,reduceCtorEq,h,Vx s hs]
def XR:dI:=⟨⟨#[]⟩,0,0,0,0,false,[]⟩
def tC (p:bV) (nm:ByteArray):dI×Bool:=(p.params.find? fun x=>decide (x.name=nm)).elim (XR,false) fun x=>(x,true)
def jB (r:bu) (k:aA):dI×Bool:=(r.units.find? fun u=>decide (u.number=k.unit)).elim (XR,false) fun u=>tC (eP u.profile r.bz).1 k.param
theorem ahi (r:bu) (hl:r.units.length≤aY) (n:Int) (σ:Heap):Ol [.agg (aP r),.int .i64 n] σ=some (.int .i64 (kN (fun u:bX=>decide (u.number=n)) r.units),σ):=by
 refine wrap_eq rfl ?_ rfl
 show Ot (.agg (aP r)) (.int .i64 n) σ=_
 unfold Ot
 simp only[aB,reduceCtorEq,lQ,lR,lT,lS,lU]
 refine(agX r.units (fun u=>decide (u.number=n)) (fun i=>[.int .i64 0,.int .i64 (i:Int)]) σ (.exit 0,[.int .i64 0,.int .i64 (r.units.length:Int)],σ) (fun i=>(.ret,[.int .i64 (i:Int),.int .i64 (i:Int)],σ)) (some (U.int .i64 (-1),σ)) (fun i=>some (U.int .i64 i,σ)) ?_ ?_ ?_ ?_).trans ?_
 ·intro i x hx
  obtain⟨g1,g2,g3⟩:=uF 4 bQ hx
  have g3:=g3 hl
  simp only[aB,reduceCtorEq,kq,kr,ku,kC,jA,jx,jh,g1,g2,g3]
  repeat' ((first|rw[mh]|rw[mg]|rw[me]|rw[lY]|rw[l9]|rw[l8]);split<;>try simp only[aB,reduceCtorEq, *])
 ·exact th _ _ _
 ·simp only[aB,reduceCtorEq]
 ·intro i;simp only[aB,reduceCtorEq]
 ·split
  ·rename_i h;rw[h]
  ·rfl
theorem afS (p:bV) (hl:p.params.length≤aY) (nm:ByteArray) (σ:Heap):N1 [.agg (cA p),.str nm] σ=some (.aL [.agg (cm (tC p nm).1),.bool (tC p nm).2],σ):=by
 have key:∃w,N7 (.agg (cA p)) (.str nm) σ=some (w,σ)∧A.nn (.t [(.a qK),.k]) w=.aL [.agg (cm (tC p nm).1),.bool (tC p nm).2]:=by
  refine⟨(p.params.find? fun x=>decide (x.name=nm)).elim (.aL [.agg [.str ⟨#[]⟩,.int .i64 0,.int .i64 0,.int .i64 0,.int .i64 0,.bool false,.aH],.bool false]) (fun x=>.aL [.agg (cm x),.bool true]),?_,?_⟩
  ·unfold N7
   simp only[aB,reduceCtorEq,kW,kX,kY,lg,kZ,jQ]
   refine(UZ p.params (fun x=>decide (x.name=nm)) (fun i=>[.lbx [.str ⟨#[]⟩,.int .i64 0,.int .i64 0,.int .i64 0,.int .i64 0,.bool false,.aH],.bool false,.int .i64 (i:Int)]) σ (.exit 0,[.lbx [.str ⟨#[]⟩,.int .i64 0,.int .i64 0,.int .i64 0,.int .i64 0,.bool false,.aH],.bool false,.int .i64 (p.params.length:Int)],σ) (fun i x=>(.ret,[.lbx (cm x),.bool true,.int .i64 (i:Int)],σ))
    (some (U.aL [.agg [.str ⟨#[]⟩,.int .i64 0,.int .i64 0,.int .i64 0,.int .i64 0,.bool false,.aH],.bool false],σ)) (fun x=>some (U.aL [.agg (cm x),.bool true],σ)) ?_ ?_ ?_ ?_).trans ?_
   ·intro i x hx
    obtain⟨g1,g2,g3⟩:=uF 7 cm hx
    have g3:=g3 hl
    simp only[aB,reduceCtorEq,nF,nG,nH,nI,nJ,nK,nL,mT,mS,kD,g1,g2,g3]
    repeat' ((first|rw[mh]|rw[mg]|rw[me]|rw[lY]|rw[l9]|rw[l8]);split<;>try simp only[aB,reduceCtorEq,nF,nG,nH,nI,nJ,nK,nL,mT,mS,kD, *])
    all_goals first|with_reducible rfl|(simp [*];done)|(simp_all;done)|(simp_all;omega)|rfl
   ·exact th _ _ _
   ·simp only[aB,reduceCtorEq];rfl
   ·intro i x;simp only[aB,reduceCtorEq,nF,nG,nH,nI,nJ,nK,nL,mT,mS,kD]
   ·cases p.params.find? fun x=>decide (x.name=nm)<;>rfl
  ·unfold tC
   cases p.params.find? fun x=>decide (x.name=nm)<;>rfl
 obtain⟨w,h1,h2⟩:=key
 exact wrap_eq rfl h1 h2
theorem afT {l:List bV} (h:∀x∈l,BC x) (nm:ByteArray):(eP nm l).1.params.length≤aY:=by
 rw[vg]
 cases hf:l.find? (fun x:bV=>decide (x.name=nm))with
 |none=>exact Nat.zero_le _
 |some p=>exact(h p (List.mem_of_find?_eq_some hf)).2.2.1
theorem Fv (r:bu) (hok:fU r) (k:aA) (σ:Heap):zX [.agg (aP r),.agg (aK k)] σ=some (.aL [.agg (cm (jB r k).1),.bool (jB r k).2],σ):=by
 have key:∃w,Nc (.agg (aP r)) (.agg (aK k)) σ=some (w,σ)∧A.nn (.t [(.a qK),.k]) w=.aL [.agg (cm (jB r k).1),.bool (jB r k).2]:=by
  unfold Nc jB
  simp only[aB,reduceCtorEq,lQ,lR,lT,lS,lU,On,Oo,Ky,Pd,Aw,ahi r hok.2.1]
  rcases wO (fun u:bX=>decide (u.number=k.unit)) r.units with⟨h1,_,h3⟩|⟨j,x,h1,h2,h3,h4,_⟩
  ·refine⟨.aL [.agg [.str ⟨#[]⟩,.int .i64 0,.int .i64 0,.int .i64 0,.int .i64 0,.bool false,.aH],.bool false],?_,?_⟩
   ·rw[h1]
    simp only[aB,reduceCtorEq,show((-1:Int)<0)from by decide]
    rfl
   ·rw[h3];rfl
  ·refine⟨.aL [.agg (cm (tC (eP x.profile r.bz).1 k.param).1),.bool (tC (eP x.profile r.bz).1 k.param).2],?_,?_⟩
   ·rw[h3]
    simp only[aB,reduceCtorEq,lQ,lR,lT,lS,lU,On,Oo,Ky,Pd,Aw,kq,kr,ku,kC,jA,jx,jh,kW,kX,kY,lg,kZ,jQ,nF,nG,nH,nI,nJ,nK,nL,mT,mS,kD,show ¬((j:Int)<0)from by omega,jy 4 bQ r.units h1,Np _ hok.1.1,afS _ (afT hok.1.2 x.profile)]
   ·rw[h4];rfl
 obtain⟨w,h1,h2⟩:=key
 exact wrap_eq rfl h1 h2
section
set_option maxRecDepth 100000
noncomputable def Nl (a0:Int):Option Bool:=
 some (aU a0 0 36000000)
theorem Dt {a0:Int} {σ:Heap} {r:Bool} (h:Nl a0=some r):zZ [(U.int .i64 a0)] σ=some ((U.bool r),σ):=by
 refine Aj (f:=Nf) (y0:=(U.int .i64 a0)) (enc:=fun r:Bool=>(U.bool r)) (T:=Nl a0) rfl rfl ?_ r h
 unfold Nf Nl
 refine ak _ (nO a0 0 36000000 σ) ?_
 exact cq _ (bK _ _) ⟨rfl,rfl⟩
noncomputable def Br (a0:aA) (a1:aA):Option Int:=
 if ¬(a0.unit=a1.unit)then
  if a0.unit<a1.unit then
   some (-1)
  else
  some 1
 else
 some (Lib.compareBytes a0.param.data.toList a1.param.data.toList)
theorem Ti {a0:aA} {a1:aA} {σ:Heap} {r:Int} (h:Br a0 a1=some r):I1 [(U.agg (aK a0)),(U.agg (aK a1))] σ=some ((U.int .i64 r),σ):=by
 refine oo (f:=MX) (y0:=(U.agg (aK a0))) (y1:=(U.agg (aK a1))) (enc:=fun r:Int=>(U.int .i64 r)) (T:=Br a0 a1) rfl rfl ?_ r h
 unfold MX Br
 refine ak _ rfl<|ak _ rfl<|ak _ rfl<|ak _ rfl<|ak _ (gB _ _ _) ?_
 refine gU (p:=¬(a0.unit=a1.unit)) (fun c2=>?_) (fun c2=>?_)
 ·refine ak _ rfl<|ak _ rfl<|ak _ rfl ?_
  refine gU (p:=a0.unit<a1.unit) (fun c1=>?_) (fun c1=>?_)
  ·exact cq _ (bK _ _) ⟨rfl,rfl⟩
  exact cq _ (bK _ _) ⟨rfl,rfl⟩
 refine ak _ rfl<|ak _ rfl<|ak _ rfl ?_
 exact cq _ (bK _ _) ⟨rfl,rfl⟩
noncomputable def Dh (a0:(List aS)):Option Int:=
 gz a0 (fun(i8:Nat) e7 (s1:Unit)=>(show Option (Lr Unit Unit Int)from
   if(!(aU e7.key.unit 1 9999))=true then
    some (.ret 1)
   else
   (tq (gD e7.key.param) (nT e7.key.param)).bind fun r9=>
   if(!r9)=true then
    some (.ret 5)
   else
   if((e7.release&&(decide (¬(e7.value=(⟨0,0⟩:iG)))))||((decide (¬(e7.value.level=0)))&&(decide (¬(e7.value.dz=0)))))=true then
    some (.ret 3)
   else
   if((!(aU e7.value.level 0 65535))||(!(aU e7.value.dz 0 999)))=true then
    some (.ret 1)
   else
   if((!e7.yR)&&((decide (¬(e7.delay=0)))||(decide (¬(e7.time=0)))))=true then
    some (.ret 3)
   else
   if((!((aU e7.delay 0 36000000)))||(!((aU e7.time 0 36000000))))=true then
    some (.ret 1)
   else
   (if decide (0<(i8:Int))=true then kf a0 (IntKind.i64.wrap ((i8:Int) -1))else some default).bind fun bf=>
   (if decide (0<(i8:Int))=true then Br bf.key e7.key else some default).bind fun cD=>
   if((decide (0<(i8:Int)))&&(decide (0≤cD)))=true then
    some (.ret 7)
   else
   some (.go ()))) (fun s1=>some ()) () (fun b2=>
  some 0) (fun b2=>
  some b2)
theorem abF {a0:(List aS)} {σ:Heap} {r:Int} (h:Dh a0=some r):Mv [(sl 8 aF a0)] σ=some ((U.int .i64 r),σ):=by
 refine Aj (f:=Mw) (y0:=(sl 8 aF a0)) (enc:=fun r:Int=>(U.int .i64 r)) (T:=Dh a0) rfl rfl ?_ r h
 unfold Mw Dh
 refine ak _ (cu _ _ _) ?_
 refine jj (B:=Unit) (R:=Int) (fun(i8:Nat) (s1:Unit) v w3=>v=[ah,(U.int .i64 (i8:Int))]∧σ=w3) (fun(b2:Unit) (q:LS)=>∃u2 u7,q=((AX.exit 0),([u2,u7]:List U),σ)) (fun(b2:Int) (q:LS)=>∃u7,q=(AX.ret,([(U.int .i64 b2),u7]:List U),σ)) ?_ ?_ ⟨rfl,rfl⟩ ?_ ?_
 ·intro lD i8 e7 s1 v w3 eS hI
  obtain⟨rfl,rfl⟩:=hI
  refine ak _ (eR eS)<|jo<|ak _ (dR eS)<|ak _ rfl<|ak _ rfl<|ak _ (sx _ _ rfl)<|ak _ rfl<|ak _ (nO e7.key.unit 1 9999 σ)<|ak _ rfl ?_
  refine fJ (c:=(!(aU e7.key.unit 1 9999))) (fun eu=>?_) (fun eu=>?_)
  ·exact bn (ey (by simp) ⟨_,rfl⟩)
  refine ak _ rfl ?_
  refine iq (fun r9:Bool=>((U.bool r9),σ)) (fun r9 HI=>(p5 (e:=fun r:Bool=>((U.bool r),σ)) (fun hs=>Kl e7.key.param hs σ)) HI) (fun r9 HI=>?_)
  refine ak _ rfl ?_
  refine fJ (c:=(!r9)) (fun iN=>?_) (fun iN=>?_)
  ·exact bn (ey (by simp) ⟨_,rfl⟩)
  refine ak _ rfl<|bh (U.agg (ou e7.value)) (fun hg=>rfl)<|bh (U.agg (ou (⟨0,0⟩:iG))) (fun hg=>rfl)<|bh (U.bool (decide (¬(e7.value=(⟨0,0⟩:iG))))) (fun hg=>by(try rw[hg]);exact(V2 _ _))<|ak _ (iR _ _)<|eX (U.int .i64 e7.value.level) (fun hg=>rfl)<|eX (U.bool (decide (¬(e7.value.level=0)))) (fun hg=>by(try rw[hg]);exact(gB _ _ _))<|eX (U.bool (decide (¬(e7.value.level=0)))) (fun hg=>by(try rw[hg]);exact rfl)<|BY (U.int .i64 e7.value.dz) (fun hg=>rfl)<|BY (U.bool (decide (¬(e7.value.dz=0)))) (fun hg=>by(try rw[hg]);exact(gB _ _ _))<|eX (U.bool ((decide (¬(e7.value.level=0)))&&(decide (¬(e7.value.dz=0))))) (fun hg=>by(try rw[hg]);exact(iR _ _))<|ak _ (pK _ _) ?_
  refine fJ (c:=((e7.release&&(decide (¬(e7.value=(⟨0,0⟩:iG)))))||((decide (¬(e7.value.level=0)))&&(decide (¬(e7.value.dz=0)))))) (fun jW=>?_) (fun jW=>?_)
  ·exact bn (ey (by simp) ⟨_,rfl⟩)
  refine ak _ rfl<|ak _ (nO e7.value.level 0 65535 σ)<|ak _ rfl<|eX (U.int .i64 e7.value.dz) (fun hg=>rfl)<|eX (U.bool (aU e7.value.dz 0 999)) (fun hg=>by(try rw[hg]);exact(quiet_of (nO e7.value.dz 0 999 σ)))<|eX (U.bool (!(aU e7.value.dz 0 999))) (fun hg=>by(try rw[hg]);exact rfl)<|ak _ (pK _ _) ?_
  refine fJ (c:=((!(aU e7.value.level 0 65535))||(!(aU e7.value.dz 0 999)))) (fun fV=>?_) (fun fV=>?_)
  ·exact bn (ey (by simp) ⟨_,rfl⟩)
  refine ak _ rfl<|ak _ rfl<|bh (U.int .i64 e7.delay) (fun hg=>rfl)<|bh (U.bool (decide (¬(e7.delay=0)))) (fun hg=>by(try rw[hg]);exact(gB _ _ _))<|bh (U.bool (decide (¬(e7.delay=0)))) (fun hg=>by(try rw[hg]);exact rfl)<|KQ (U.int .i64 e7.time) (fun hg=>rfl)<|KQ (U.bool (decide (¬(e7.time=0)))) (fun hg=>by(try rw[hg]);exact(gB _ _ _))<|bh (U.bool ((decide (¬(e7.delay=0)))||(decide (¬(e7.time=0))))) (fun hg=>by(try rw[hg]);exact(pK _ _))<|ak _ (iR _ _) ?_
  refine fJ (c:=((!e7.yR)&&((decide (¬(e7.delay=0)))||(decide (¬(e7.time=0)))))) (fun gh=>?_) (fun gh=>?_)
  ·exact bn (ey (by simp) ⟨_,rfl⟩)
  refine ak _ rfl<|ak _ (Dt (σ:=σ) (r:=(aU e7.delay 0 36000000)) rfl)<|ak _ rfl<|eX (U.int .i64 e7.time) (fun hg=>rfl)<|eX (U.bool ((aU e7.time 0 36000000))) (fun hg=>by(try rw[hg]);exact(quiet_of (Dt (σ:=σ) (r:=(aU e7.time 0 36000000)) rfl)))<|eX (U.bool (!((aU e7.time 0 36000000)))) (fun hg=>by(try rw[hg]);exact rfl)<|ak _ (pK _ _) ?_
  refine fJ (c:=((!((aU e7.delay 0 36000000)))||(!((aU e7.time 0 36000000))))) (fun ep=>?_) (fun ep=>?_)
  ·exact bn (ey (by simp) ⟨_,rfl⟩)
  refine ak _ rfl<|bh (sl 8 aF a0) (fun hg=>rfl)<|bh (U.int .i64 (i8:Int)) (fun hg=>rfl)<|bh (U.int .i64 (IntKind.i64.wrap ((i8:Int) -1))) (fun hg=>by(try rw[hg]);exact rfl) ?_
  refine oz (ω:=aS) (fun bf=>(U.rp (aF bf))) (fun hg bf GP=>by(try rw[hg]);exact pI GP) (fun bf GP=>?_)
  refine bh (U.rp (aF bf)) (fun hg=>by(try rw[hg]);exact rfl)<|bh (U.agg (aK bf.key)) (fun hg=>by(try rw[hg]);exact rfl)<|bh (U.agg (aK e7.key)) (fun hg=>rfl) ?_
  refine oz (ω:=Int) (fun cD=>(U.int .i64 cD)) (fun hg cD sH=>by(try rw[hg]);exact(quiet_of (Ti sH))) (fun cD sH=>?_)
  refine bh (U.bool (decide (0≤cD))) (fun hg=>by(try rw[hg]);exact rfl)<|ak _ (iR _ _) ?_
  refine fJ (c:=((decide (0<(i8:Int)))&&(decide (0≤cD)))) (fun bR=>?_) (fun bR=>?_)
  ·exact bn (ey (by simp) ⟨_,rfl⟩)
  refine ak _ (dB eS lD) ?_
  exact bn (iH ⟨rfl,rfl⟩)
 ·intro hl s1 v w3 hI
  obtain⟨rfl,rfl⟩:=hI
  refine ak _ (eO _)<|jm ?_
  exact bn ⟨by simp,⟨_,_,rfl⟩⟩
 ·intro hl b2 q hq
  obtain⟨u2,u7,rfl⟩:=hq
  refine dS rfl ?_
  exact cq _ (bK _ _) ⟨rfl,rfl⟩
 ·intro hl b2 q hq
  obtain⟨u7,rfl⟩:=hq
  refine mm rfl<|dS rfl ?_
  exact cq _ (bK _ _) ⟨rfl,rfl⟩
noncomputable def DL (a0:(List aO)):Option Int:=
 if 300<(a0.length:Int)then
  some 2
 else
 gz a0 (fun(i8:Nat) e7 (s1:Int)=>(show Option (Lr Int Int Int)from
   if(!(aU e7.number 1 9999999))=true then
    some (.ret 1)
   else
   (if decide (0<(i8:Int))=true then kf a0 (IntKind.i64.wrap ((i8:Int) -1))else some default).bind fun x9=>
   if((decide (0<(i8:Int)))&&(decide (e7.number≤x9.number)))=true then
    some (.ret 7)
   else
   (if decide (¬(e7.title=(⟨#[]⟩:ByteArray)))=true then tq (gD e7.title) (xB e7.title)else some default).bind fun iz=>
   if((decide (¬(e7.title=(⟨#[]⟩:ByteArray))))&&(!iz))=true then
    some (.ret 3)
   else
   if(((((!((aU e7.delay 0 36000000)))||(!((aU e7.up 0 36000000))))||(!((aU e7.down 0 36000000))))||(!((aU e7.other 0 36000000))))||(!(aU e7.follow (-1) 36000000)))=true then
    some (.ret 1)
   else
   if ¬((sy e7.dg)=0)then
    some (.ret (sy e7.dg))
   else
   if 2000<(e7.aJ.length:Int)then
    some (.ret 2)
   else
   (Dh e7.aJ).bind fun cD=>
   if ¬(cD=0)then
    some (.ret cD)
   else
   some (.go (IntKind.i64.wrap (s1+(e7.aJ.length:Int)))))) (fun s1=>some s1) 0 (fun b2=>
  some (if(decide (10000<b2))=true then 2 else 0)) (fun b2=>
  some b2)
theorem Ue {a0:(List aO)} {σ:Heap} {r:Int} (h:DL a0=some r):DI [(sl 11 aM a0)] σ=some ((U.int .i64 r),σ):=by
 refine Aj (f:=Od) (y0:=(sl 11 aM a0)) (enc:=fun r:Int=>(U.int .i64 r)) (T:=DL a0) (bH (gR (fun _=>rfl) _) rfl) rfl ?_ r h
 unfold Od DL
 refine ak _ (cu _ _ _)<|ak _ rfl ?_
 refine gU (p:=300<(a0.length:Int)) (fun kP=>?_) (fun kP=>?_)
 ·exact cq _ (bK _ _) ⟨rfl,rfl⟩
 refine ak _ (cu _ _ _) ?_
 refine jj (B:=Int) (R:=Int) (fun(i8:Nat) (s1:Int) v w3=>v=[ah,(U.int .i64 s1),(U.int .i64 (i8:Int))]∧σ=w3) (fun(b2:Int) (q:LS)=>∃u2 jt,q=((AX.exit 0),([u2,(U.int .i64 b2),jt]:List U),σ)) (fun(b2:Int) (q:LS)=>∃u3 jt,q=(AX.ret,([(U.int .i64 b2),u3,jt]:List U),σ)) ?_ ?_ ⟨rfl,rfl⟩ ?_ ?_
 ·intro lD i8 e7 s1 v w3 eS hI
  obtain⟨rfl,rfl⟩:=hI
  refine ak _ (eR eS)<|jo<|ak _ (dR eS)<|ak _ rfl<|ak _ rfl<|ak _ (yF _ _ rfl)<|ak _ rfl<|ak _ (nO e7.number 1 9999999 σ)<|ak _ rfl ?_
  refine fJ (c:=(!(aU e7.number 1 9999999))) (fun eu=>?_) (fun eu=>?_)
  ·exact bn (ey (by simp) ⟨_,_,rfl⟩)
  refine ak _ rfl<|bh (U.int .i64 e7.number) (fun hg=>rfl)<|bh (sl 11 aM a0) (fun hg=>rfl)<|bh (U.int .i64 (i8:Int)) (fun hg=>rfl)<|bh (U.int .i64 (IntKind.i64.wrap ((i8:Int) -1))) (fun hg=>by(try rw[hg]);exact rfl) ?_
  refine oz (ω:=aO) (fun x9=>(U.rp (aM x9))) (fun hg x9 mB=>by(try rw[hg]);exact pI mB) (fun x9 mB=>?_)
  refine bh (U.rp (aM x9)) (fun hg=>by(try rw[hg]);exact rfl)<|bh (U.int .i64 x9.number) (fun hg=>by(try rw[hg]);exact rfl)<|bh (U.bool (decide (e7.number≤x9.number))) (fun hg=>by(try rw[hg]);exact rfl)<|ak _ (iR _ _) ?_
  refine fJ (c:=((decide (0<(i8:Int)))&&(decide (e7.number≤x9.number)))) (fun iN=>?_) (fun iN=>?_)
  ·exact bn (ey (by simp) ⟨_,_,rfl⟩)
  refine ak _ rfl<|ak _ (Gv _ _)<|bh (U.str e7.title) (fun hg=>rfl) ?_
  refine oz (ω:=Bool) (fun iz=>(U.bool iz)) (fun hg iz A6=>by(try rw[hg]);exact(quiet_of ((p5 (e:=fun r:Bool=>((U.bool r),σ)) (fun hs=>Vx e7.title hs σ)) A6))) (fun iz A6=>?_)
  refine bh (U.bool (!iz)) (fun hg=>by(try rw[hg]);exact rfl)<|ak _ (iR _ _) ?_
  refine fJ (c:=((decide (¬(e7.title=(⟨#[]⟩:ByteArray))))&&(!iz))) (fun jW=>?_) (fun jW=>?_)
  ·exact bn (ey (by simp) ⟨_,_,rfl⟩)
  refine ak _ rfl<|ak _ (Dt (σ:=σ) (r:=(aU e7.delay 0 36000000)) rfl)<|ak _ rfl<|eX (U.int .i64 e7.up) (fun hg=>rfl)<|eX (U.bool ((aU e7.up 0 36000000))) (fun hg=>by(try rw[hg]);exact(quiet_of (Dt (σ:=σ) (r:=(aU e7.up 0 36000000)) rfl)))<|eX (U.bool (!((aU e7.up 0 36000000)))) (fun hg=>by(try rw[hg]);exact rfl)<|ak _ (pK _ _)<|eX (U.int .i64 e7.down) (fun hg=>rfl)<|eX (U.bool ((aU e7.down 0 36000000))) (fun hg=>by(try rw[hg]);exact(quiet_of (Dt (σ:=σ) (r:=(aU e7.down 0 36000000)) rfl)))<|eX (U.bool (!((aU e7.down 0 36000000)))) (fun hg=>by(try rw[hg]);exact rfl)<|ak _ (pK _ _)<|eX (U.int .i64 e7.other) (fun hg=>rfl)<|eX (U.bool ((aU e7.other 0 36000000))) (fun hg=>by(try rw[hg]);exact(quiet_of (Dt (σ:=σ) (r:=(aU e7.other 0 36000000)) rfl)))<|eX (U.bool (!((aU e7.other 0 36000000)))) (fun hg=>by(try rw[hg]);exact rfl)<|ak _ (pK _ _)<|eX (U.int .i64 e7.follow) (fun hg=>rfl)<|eX (U.bool (aU e7.follow (-1) 36000000)) (fun hg=>by(try rw[hg]);exact(quiet_of (nO e7.follow (-1) 36000000 σ)))<|eX (U.bool (!(aU e7.follow (-1) 36000000))) (fun hg=>by(try rw[hg]);exact rfl)<|ak _ (pK _ _) ?_
  refine fJ (c:=(((((!((aU e7.delay 0 36000000)))||(!((aU e7.up 0 36000000))))||(!((aU e7.down 0 36000000))))||(!((aU e7.other 0 36000000))))||(!(aU e7.follow (-1) 36000000)))) (fun fV=>?_) (fun fV=>?_)
  ·exact bn (ey (by simp) ⟨_,_,rfl⟩)
  refine ak _ rfl<|ak _ (acg e7.dg σ)<|ak _ (gB _ _ _) ?_
  refine gU (p:=¬((sy e7.dg)=0)) (fun gh=>?_) (fun gh=>?_)
  ·exact bn (ey (by simp) ⟨_,_,rfl⟩)
  refine ak (sl 8 aF e7.aJ) rfl<|ak _ (cu _ _ _)<|ak _ rfl ?_
  refine gU (p:=2000<(e7.aJ.length:Int)) (fun ep=>?_) (fun ep=>?_)
  ·exact bn (ey (by simp) ⟨_,_,rfl⟩)
  refine ak (sl 8 aF e7.aJ) rfl ?_
  refine iq (fun cD:Int=>((U.int .i64 cD),σ)) (fun cD sH=>abF sH) (fun cD sH=>?_)
  refine ak _ (gB _ _ _) ?_
  refine gU (p:=¬(cD=0)) (fun bR=>?_) (fun bR=>?_)
  ·exact bn (ey (by simp) ⟨_,_,rfl⟩)
  refine ak (sl 8 aF e7.aJ) rfl<|ak _ (cu _ _ _)<|ak _ rfl<|ak _ (dB eS lD) ?_
  exact bn (iH ⟨rfl,rfl⟩)
 ·intro hl s1 v w3 hI
  obtain⟨rfl,rfl⟩:=hI
  refine ak _ (eO _)<|jm ?_
  exact bn ⟨by simp,⟨_,_,rfl⟩⟩
 ·intro hl b2 q hq
  obtain⟨u2,jt,rfl⟩:=hq
  refine dS rfl<|ak _ rfl<|ak _ (Km (decide (10000<b2)) 2 σ) ?_
  exact cq _ (bK _ _) ⟨rfl,rfl⟩
 ·intro hl b2 q hq
  obtain⟨u3,jt,rfl⟩:=hq
  refine mm rfl<|dS rfl ?_
  exact cq _ (bK _ _) ⟨rfl,rfl⟩
noncomputable def DE (a0:bu):Option (List (aA×Bool)):=
 (tq (fU a0) (((if dO a0=0 then jI a0 else[]:List aA),dO a0))).bind fun r1=>
 gz r1.1 (fun(qu:Nat) gp (s4:(List (aA×Bool)))=>(show Option (Lr (List (aA×Bool)) (List (aA×Bool)) Unit)from
   some (.go (gf gp true s4)))) (fun s4=>some s4) ([]:List (aA×Bool)) (fun b5=>
  some b5) (fun b5=>
  none)
theorem ads {a0:bu} {σ:Heap} {r:(List (aA×Bool))} (h:DE a0=some r):Ny [(U.agg (aP a0))] σ=some ((uY (fun x=>(U.agg (aK x))) (fun x=>(U.bool x)) r),σ):=by
 refine Aj (f:=NK) (y0:=(U.agg (aP a0))) (enc:=fun r:(List (aA×Bool))=>(uY (fun x=>(U.agg (aK x))) (fun x=>(U.bool x)) r)) (T:=DE a0) rfl rfl ?_ r h
 unfold NK DE
 refine ak _ rfl<|ak _ rfl ?_
 refine iq (fun r1:((List aA)×Int)=>((U.aL [(sl 2 aK r1.1),(U.int .i64 r1.2)]),σ)) (fun r1 j0=>(p5 (e:=fun r:((List aA)×Int)=>((U.aL [(sl 2 aK r.1),(U.int .i64 r.2)]),σ)) (fun hs=>Wr a0 hs σ)) j0) (fun r1 j0=>?_)
 refine ak (sl 2 aK r1.1) rfl<|ak _ rfl ?_
 have hp2:Hp σ σ []:=Ed σ
 have RX:Hp σ (σ++[aV.map []]) [((U.om σ.length),(Ct.m (List.map (fun p=>((fun x=>(U.agg (aK x))) p.1,(fun x=>(U.bool x)) p.2)) ([]:List (aA×Bool)))))]:=Qn hp2
 refine ak _ (cu _ _ _) ?_
 refine jj (B:=(List (aA×Bool))) (R:=Unit) (fun(qu:Nat) (s4:(List (aA×Bool))) v w6=>v=[(U.int .i64 (qu:Int))]∧Hp σ w6 [((U.om σ.length),(Ct.m (List.map (fun p=>((fun x=>(U.agg (aK x))) p.1,(fun x=>(U.bool x)) p.2)) s4)))]) (fun(b5:(List (aA×Bool))) (q:LS)=>∃u16 w7,q=((AX.exit 0),([u16]:List U),w7)∧Hp σ w7 [((U.om σ.length),(Ct.m (List.map (fun p=>((fun x=>(U.agg (aK x))) p.1,(fun x=>(U.bool x)) p.2)) b5)))]) (fun(b5:Unit) (q:LS)=>False) ?_ ?_ ⟨rfl,RX⟩ ?_ ?_
 ·intro Gl qu gp s4 v w6 vF hI
  obtain⟨rfl,qq⟩:=hI
  refine ak _ (eR vF)<|jo<|ak _ (dR vF)<|ak _ rfl<|ak _ rfl<|ak _ (Aw _ _ rfl)<|ak _ rfl ?_
  obtain⟨Bn,RF,Ev⟩:=Pt (ek:=(.s [0,2])) (eK:=(fun x=>(U.agg (aK x)))) (eV:=(fun x=>(U.bool x))) qq 0 rfl yD gp true rfl
  change Hp σ Bn [((U.om σ.length),(Ct.m (List.map (fun p=>((fun x=>(U.agg (aK x))) p.1,(fun x=>(U.bool x)) p.2)) (gf gp true s4))))]at Ev
  refine ak Bn RF<|ak _ (dB vF Gl) ?_
  exact bn (iH ⟨rfl,Ev⟩)
 ·intro hl s4 v w6 hI
  obtain⟨rfl,qq⟩:=hI
  refine ak _ (eO _)<|jm ?_
  exact bn ⟨by simp,⟨_,_,rfl,qq⟩⟩
 ·intro hl b5 q hq
  obtain⟨u16,w7,rfl,HE⟩:=hq
  refine dS rfl ?_
  exact cq _ (BU HE (Xp HE (k:=0) rfl (by intro p hp;obtain⟨x,_,rfl⟩:=List.mem_map.1 hp;exact⟨(pY (uI _)),(F6 _)⟩))) ⟨rfl,rfl⟩
 ·intro hl b5 q hq
  exact False.elim hq
noncomputable def Dr (a0:aA) (a1:aA):Option Bool:=
 if ¬(a0.unit=a1.unit)then
  some (decide (a0.unit<a1.unit))
 else
 some (decide ((Lib.compareBytes a0.param.data.toList a1.param.data.toList)<0))
theorem acm {a0:aA} {a1:aA} {σ:Heap} {r:Bool} (h:Dr a0 a1=some r):MU [(U.agg (aK a0)),(U.agg (aK a1))] σ=some ((U.bool r),σ):=by
 refine oo (f:=MZ) (y0:=(U.agg (aK a0))) (y1:=(U.agg (aK a1))) (enc:=fun r:Bool=>(U.bool r)) (T:=Dr a0 a1) rfl rfl ?_ r h
 unfold MZ Dr
 refine ak _ rfl<|ak _ rfl<|ak _ rfl<|ak _ rfl<|ak _ (gB _ _ _) ?_
 refine gU (p:=¬(a0.unit=a1.unit)) (fun c1=>?_) (fun c1=>?_)
 ·refine ak _ rfl<|ak _ rfl<|ak _ rfl ?_
  exact cq _ (bK _ _) ⟨rfl,rfl⟩
 refine ak _ rfl<|ak _ rfl<|ak _ rfl<|ak _ rfl ?_
 exact cq _ (bK _ _) ⟨rfl,rfl⟩
noncomputable def Df (a0:bu) (a1:(List bO)):Option Int:=
 (tq (fU a0) (dO a0)).bind fun r1=>
 (tq (([r1,(if(decide (200<(a1.length:Int)))=true then 2 else 0)]:(List Int)).length≤aY) ((([r1,(if(decide (200<(a1.length:Int)))=true then 2 else 0)]:(List Int)).find? fun n=>decide (¬n=0)).getD 0)).bind fun r2=>
 if ¬(r2=0)then
  some r2
 else
 (DE a0).bind fun r3=>
 gz a1 (fun(qu:Nat) gp (s4:Unit)=>(show Option (Lr Unit Unit Int)from
   if(!(aU gp.number 1 999))=true then
    some (.ret 1)
   else
   (if decide (0<(qu:Int))=true then kf a1 (IntKind.i64.wrap ((qu:Int) -1))else some default).bind fun bC=>
   if((decide (0<(qu:Int)))&&(decide (gp.number≤bC.number)))=true then
    some (.ret 7)
   else
   (tq (gD gp.title) (BR gp.title)).bind fun fR=>
   if(!fR)=true then
    some (.ret 3)
   else
   if 2000<(gp.iY.length:Int)then
    some (.ret 2)
   else
   gz gp.iY (fun(i21:Nat) zA (zQ:Unit)=>(show Option (Lr Unit Unit Int)from
     if(!((cr zA.key r3).getD false))=true then
      some (.ret 8)
     else
     if(!(aU zA.level 0 65535))=true then
      some (.ret 1)
     else
     (if decide (0<(i21:Int))=true then kf gp.iY (IntKind.i64.wrap ((i21:Int) -1))else some default).bind fun bB=>
     (if decide (0<(i21:Int))=true then Dr bB.key zA.key else some default).bind fun kS=>
     if((decide (0<(i21:Int)))&&(!kS))=true then
      some (.ret 7)
     else
     some (.go ()))) (fun zQ=>some ()) () (fun Cs=>
    some (.go ())) (fun Cs=>
    some (.ret Cs)))) (fun s4=>some ()) () (fun b5=>
  some 0) (fun b5=>
  some b5)
theorem abn {a0:bu} {a1:(List bO)} {σ:Heap} {r:Int} (h:Df a0 a1=some r):Mh [(U.agg (aP a0)),(sl 3 eB a1)] σ=some ((U.int .i64 r),σ):=by
 refine oo (f:=Mi) (y0:=(U.agg (aP a0))) (y1:=(sl 3 eB a1)) (enc:=fun r:Int=>(U.int .i64 r)) (T:=Df a0 a1) rfl rfl ?_ r h
 unfold Mi Df
 refine ak _ rfl<|ak _ rfl ?_
 refine iq (fun r1:Int=>((U.int .i64 r1),σ)) (fun r1 j0=>(p5 (e:=fun r:Int=>((U.int .i64 r),σ)) (fun hs=>No a0 hs σ)) j0) (fun r1 j0=>?_)
 refine ak _ (cu _ _ _)<|ak _ rfl<|ak _ (Km (decide (200<(a1.length:Int))) 2 σ)<|ak (sl 1 rF ([r1,(if(decide (200<(a1.length:Int)))=true then 2 else 0)]:(List Int))) rfl ?_
 refine iq (fun r2:Int=>((U.int .i64 r2),σ)) (fun r2 sP=>(p5 (e:=fun r:Int=>((U.int .i64 r),σ)) (fun hs=>Vv ([r1,(if(decide (200<(a1.length:Int)))=true then 2 else 0)]:(List Int)) hs σ)) sP) (fun r2 sP=>?_)
 refine ak _ (gB _ _ _) ?_
 refine gU (p:=¬(r2=0)) (fun qU=>?_) (fun qU=>?_)
 ·exact cq _ (bK _ _) ⟨rfl,rfl⟩
 refine ak _ rfl ?_
 refine iq (fun r3:(List (aA×Bool))=>((uY (fun x=>(U.agg (aK x))) (fun x=>(U.bool x)) r3),σ)) (fun r3 HH=>ads HH) (fun r3 HH=>?_)
 refine ak _ (cu _ _ _) ?_
 refine jj (B:=Unit) (R:=Int) (fun(qu:Nat) (s4:Unit) v w6=>∃u4,v=[u4,(U.int .i64 (qu:Int))]∧σ=w6) (fun(b5:Unit) (q:LS)=>∃u4 H9,q=((AX.exit 0),([u4,H9]:List U),σ)) (fun(b5:Int) (q:LS)=>∃H9,q=(AX.ret,([(U.int .i64 b5),H9]:List U),σ)) ?_ ?_ ⟨_,rfl,rfl⟩ ?_ ?_
 ·intro Gl qu gp s4 v w6 vF hI
  obtain⟨u4,rfl,rfl⟩:=hI
  refine ak _ (eR vF)<|jo<|ak _ (dR vF)<|ak _ rfl<|ak _ rfl<|ak _ (DJ _ _ rfl)<|ak _ rfl<|ak _ (nO gp.number 1 999 σ)<|ak _ rfl ?_
  refine fJ (c:=(!(aU gp.number 1 999))) (fun rQ=>?_) (fun rQ=>?_)
  ·exact bn (ey (by simp) ⟨_,rfl⟩)
  refine ak _ rfl<|bh (U.int .i64 gp.number) (fun hg=>rfl)<|bh (sl 3 eB a1) (fun hg=>rfl)<|bh (U.int .i64 (qu:Int)) (fun hg=>rfl)<|bh (U.int .i64 (IntKind.i64.wrap ((qu:Int) -1))) (fun hg=>by(try rw[hg]);exact rfl) ?_
  refine oz (ω:=bO) (fun bC=>(U.rp (eB bC))) (fun hg bC YR=>by(try rw[hg]);exact pI YR) (fun bC YR=>?_)
  refine bh (U.rp (eB bC)) (fun hg=>by(try rw[hg]);exact rfl)<|bh (U.int .i64 bC.number) (fun hg=>by(try rw[hg]);exact rfl)<|bh (U.bool (decide (gp.number≤bC.number))) (fun hg=>by(try rw[hg]);exact rfl)<|ak _ (iR _ _) ?_
  refine fJ (c:=((decide (0<(qu:Int)))&&(decide (gp.number≤bC.number)))) (fun qT=>?_) (fun qT=>?_)
  ·exact bn (ey (by simp) ⟨_,rfl⟩)
  refine ak _ rfl ?_
  refine iq (fun fR:Bool=>((U.bool fR),σ)) (fun fR GL=>(p5 (e:=fun r:Bool=>((U.bool r),σ)) (fun hs=>agq gp.title hs σ)) GL) (fun fR GL=>?_)
  refine ak _ rfl ?_
  refine fJ (c:=(!fR)) (fun mu=>?_) (fun mu=>?_)
  ·exact bn (ey (by simp) ⟨_,rfl⟩)
  refine ak (sl 3 dc gp.iY) rfl<|ak _ (cu _ _ _)<|ak _ rfl ?_
  refine gU (p:=2000<(gp.iY.length:Int)) (fun l6=>?_) (fun l6=>?_)
  ·exact bn (ey (by simp) ⟨_,rfl⟩)
  refine ak (sl 3 dc gp.iY) rfl<|ak _ (cu _ _ _) ?_
  refine jj (B:=Unit) (R:=Int) (fun(i21:Nat) (zQ:Unit) v SD=>∃u4,v=[u4,(U.lbx (eB gp)),(U.int .i64 (i21:Int))]∧σ=SD) (fun(Cs:Unit) (q:LS)=>∃u4 u8 Ii,q=((AX.exit 3),([u4,u8,Ii]:List U),σ)) (fun(Cs:Int) (q:LS)=>∃u8 Ii,q=(AX.ret,([(U.int .i64 Cs),u8,Ii]:List U),σ)) ?_ ?_ ⟨_,rfl,rfl⟩ ?_ ?_
  ·intro ajJ i21 zA zQ v SD QY hI
   obtain⟨u4,rfl,rfl⟩:=hI
   refine ak _ (eR QY)<|jo<|ak _ (dR QY)<|ak _ rfl<|ak _ rfl<|ak _ (Bx _ _ rfl)<|ak _ rfl<|ak _ (OM (ek:=(.s [0,2])) (eK:=(fun x=>(U.agg (aK x)))) (eV:=(fun x=>(U.bool x))) yD zA.key false rfl)<|ak _ rfl ?_
   refine fJ (c:=(!((cr zA.key r3).getD false))) (fun jE=>?_) (fun jE=>?_)
   ·exact bn (ey (by simp) ⟨_,_,rfl⟩)
   refine ak _ rfl<|ak _ (TP zA.level σ)<|ak _ rfl ?_
   refine fJ (c:=(!(aU zA.level 0 65535))) (fun jq=>?_) (fun jq=>?_)
   ·exact bn (ey (by simp) ⟨_,_,rfl⟩)
   refine ak _ rfl<|ak _ rfl<|bh (sl 3 dc gp.iY) (fun hg=>rfl)<|bh (U.int .i64 (i21:Int)) (fun hg=>rfl)<|bh (U.int .i64 (IntKind.i64.wrap ((i21:Int) -1))) (fun hg=>by(try rw[hg]);exact rfl) ?_
   refine oz (ω:=bW) (fun bB=>(U.rp (dc bB))) (fun hg bB YV=>by(try rw[hg]);exact pI YV) (fun bB YV=>?_)
   refine bh (U.rp (dc bB)) (fun hg=>by(try rw[hg]);exact rfl)<|bh (U.agg (aK bB.key)) (fun hg=>by(try rw[hg]);exact rfl)<|bh (U.agg (aK zA.key)) (fun hg=>rfl) ?_
   refine oz (ω:=Bool) (fun kS=>(U.bool kS)) (fun hg kS YO=>by(try rw[hg]);exact(quiet_of (acm YO))) (fun kS YO=>?_)
   refine bh (U.bool (!kS)) (fun hg=>by(try rw[hg]);exact rfl)<|ak _ (iR _ _) ?_
   refine fJ (c:=((decide (0<(i21:Int)))&&(!kS))) (fun eH=>?_) (fun eH=>?_)
   ·exact bn (ey (by simp) ⟨_,_,rfl⟩)
   refine ak _ (dB QY ajJ) ?_
   exact bn (iH ⟨_,rfl,rfl⟩)
  ·intro hl zQ v SD hI
   obtain⟨u4,rfl,rfl⟩:=hI
   refine ak _ (eO _)<|jm ?_
   exact bn ⟨by simp,⟨_,_,_,rfl⟩⟩
  ·intro hl Cs q hq
   obtain⟨u4,u8,Ii,rfl⟩:=hq
   refine dS rfl<|ak _ (dB vF Gl) ?_
   exact bn (iH ⟨_,rfl,rfl⟩)
  ·intro hl Cs q hq
   obtain⟨u8,Ii,rfl⟩:=hq
   refine mm rfl<|dS rfl ?_
   exact bn (ey (by simp) ⟨_,rfl⟩)
 ·intro hl s4 v w6 hI
  obtain⟨u4,rfl,rfl⟩:=hI
  refine ak _ (eO _)<|jm ?_
  exact bn ⟨by simp,⟨_,_,rfl⟩⟩
 ·intro hl b5 q hq
  obtain⟨u4,H9,rfl⟩:=hq
  refine dS rfl ?_
  exact cq _ (bK _ _) ⟨rfl,rfl⟩
 ·intro hl b5 q hq
  obtain⟨H9,rfl⟩:=hq
  refine mm rfl<|dS rfl ?_
  exact cq _ (bK _ _) ⟨rfl,rfl⟩
noncomputable def Ab (a0:(List bO)) (a1:aA) (a2:iG):Option (Int×Int):=
 if((decide (¬(a2.level=0)))&&(decide (¬(a2.dz=0))))=true then
  some (0,3)
 else
 if(!(aU a2.level 0 65535))=true then
  some (0,1)
 else
 if a2.dz=0 then
  some (a2.level,0)
 else
 gz a0 (fun(i8:Nat) e7 (s1:Unit)=>(show Option (Lr Unit Unit Int)from
   if ¬(e7.number=a2.dz)then
    some (.go ())
   else
   gz e7.iY (fun(i16:Nat) Lx (s9:Unit)=>(show Option (Lr Unit Unit Int)from
     if Lx.key=a1 then
      some (.ret Lx.level)
     else
     some (.go ()))) (fun s9=>some ()) () (fun Cr=>
    some (.brk ())) (fun Cr=>
    some (.ret Cr)))) (fun s1=>some ()) () (fun b2=>
  some (0,8)) (fun b2=>
  some (b2,0))
theorem Tr {a0:(List bO)} {a1:aA} {a2:iG} {σ:Heap} {r:(Int×Int)} (h:Ab a0 a1 a2=some r):Fm [(sl 3 eB a0),(U.agg (aK a1)),(U.agg (ou a2))] σ=some ((U.aL [(U.int .i64 r.1),(U.int .i64 r.2)]),σ):=by
 refine Ak (f:=Ng) (y0:=(sl 3 eB a0)) (y1:=(U.agg (aK a1))) (y2:=(U.agg (ou a2))) (enc:=fun r:(Int×Int)=>(U.aL [(U.int .i64 r.1),(U.int .i64 r.2)])) (T:=Ab a0 a1 a2) rfl rfl ?_ r h
 unfold Ng Ab
 refine ak _ rfl<|ak _ rfl<|ak _ rfl<|ak _ (gB _ _ _)<|bh (U.int .i64 a2.dz) (fun hg=>rfl)<|bh (U.bool (decide (¬(a2.dz=0)))) (fun hg=>by(try rw[hg]);exact(gB _ _ _))<|ak _ (iR _ _) ?_
 refine fJ (c:=((decide (¬(a2.level=0)))&&(decide (¬(a2.dz=0))))) (fun iu=>?_) (fun iu=>?_)
 ·exact cq _ (bK _ _) ⟨rfl,rfl⟩
 refine ak _ rfl<|ak _ (TP a2.level σ)<|ak _ rfl ?_
 refine fJ (c:=(!(aU a2.level 0 65535))) (fun i7=>?_) (fun i7=>?_)
 ·exact cq _ (bK _ _) ⟨rfl,rfl⟩
 refine ak _ rfl<|ak _ (l5 _ _ _) ?_
 refine gU (p:=a2.dz=0) (fun kP=>?_) (fun kP=>?_)
 ·refine ak _ rfl ?_
  exact cq _ (bK _ _) ⟨rfl,rfl⟩
 refine ak _ (cu _ _ _) ?_
 refine jj (B:=Unit) (R:=Int) (fun(i8:Nat) (s1:Unit) v w3=>v=[(U.lbx (aK a1)),(U.lbx (ou a2)),ah,ah,(U.int .i64 (i8:Int))]∧σ=w3) (fun(b2:Unit) (q:LS)=>∃u4 u5 u6 u7 Ib,q=((AX.exit 0),([u4,u5,u6,u7,Ib]:List U),σ)) (fun(b2:Int) (q:LS)=>∃u4 u5 Ib,q=(AX.ret,([u4,u5,(U.int .i64 b2),ah,Ib]:List U),σ)) ?_ ?_ ⟨rfl,rfl⟩ ?_ ?_
 ·intro lD i8 e7 s1 v w3 eS hI
  obtain⟨rfl,rfl⟩:=hI
  refine ak _ (eR eS)<|jo<|ak _ (dR eS)<|ak _ rfl<|ak _ rfl<|ak _ (DJ _ _ rfl)<|ak _ rfl<|ak _ rfl<|ak _ rfl<|ak _ (gB _ _ _) ?_
  refine gU (p:=¬(e7.number=a2.dz)) (fun eu=>?_) (fun eu=>?_)
  ·refine ak _ (dB eS lD) ?_
   exact bn (iH ⟨rfl,rfl⟩)
  refine ak (sl 3 dc e7.iY) rfl<|ak _ (cu _ _ _) ?_
  refine jj (B:=Unit) (R:=Int) (fun(i16:Nat) (s9:Unit) v SC=>v=[(U.lbx (aK a1)),ah,ah,(U.int .i64 (i16:Int))]∧σ=SC) (fun(Cr:Unit) (q:LS)=>∃u4 u6 u7 Ic,q=((AX.exit 2),([u4,u6,u7,Ic]:List U),σ)) (fun(Cr:Int) (q:LS)=>∃u4 Ic,q=(AX.ret,([u4,(U.int .i64 Cr),ah,Ic]:List U),σ)) ?_ ?_ ⟨rfl,rfl⟩ ?_ ?_
  ·intro ajI i16 Lx s9 v SC QX hI
   obtain⟨rfl,rfl⟩:=hI
   refine ak _ (eR QX)<|jo<|ak _ (dR QX)<|ak _ rfl<|ak _ rfl<|ak _ (Bx _ _ rfl)<|ak _ rfl<|ak _ rfl<|ak _ (Ge _ _) ?_
   refine gU (p:=Lx.key=a1) (fun iN=>?_) (fun iN=>?_)
   ·refine ak _ rfl ?_
    exact bn (ey (by simp) ⟨_,_,rfl⟩)
   refine ak _ (dB QX ajI) ?_
   exact bn (iH ⟨rfl,rfl⟩)
  ·intro hl s9 v SC hI
   obtain⟨rfl,rfl⟩:=hI
   refine ak _ (eO _)<|jm ?_
   exact bn ⟨by simp,⟨_,_,_,_,rfl⟩⟩
  ·intro hl Cr q hq
   obtain⟨u4,u6,u7,Ic,rfl⟩:=hq
   refine dS rfl ?_
   exact bn (PJ (by simp) ⟨_,_,_,_,_,rfl⟩)
  ·intro hl Cr q hq
   obtain⟨u4,Ic,rfl⟩:=hq
   refine mm rfl<|dS rfl ?_
   exact bn (ey (by simp) ⟨_,_,_,rfl⟩)
 ·intro hl s1 v w3 hI
  obtain⟨rfl,rfl⟩:=hI
  refine ak _ (eO _)<|jm ?_
  exact bn ⟨by simp,⟨_,_,_,_,_,rfl⟩⟩
 ·intro hl b2 q hq
  obtain⟨u4,u5,u6,u7,Ib,rfl⟩:=hq
  refine dS rfl ?_
  exact cq _ (bK _ _) ⟨rfl,rfl⟩
 ·intro hl b2 q hq
  obtain⟨u4,u5,Ib,rfl⟩:=hq
  refine mm rfl<|dS rfl ?_
  exact cq _ (bK _ _) ⟨rfl,rfl⟩
noncomputable def Fh (a0:bu) (a1:(List bO)) (a2:(List aO)):Option Int:=
 (Df a0 a1).bind fun r1=>
 (DL a2).bind fun r2=>
 (tq (([r1,r2]:(List Int)).length≤aY) ((([r1,r2]:(List Int)).find? fun n=>decide (¬n=0)).getD 0)).bind fun r3=>
 if ¬(r3=0)then
  some r3
 else
 (tq (fU a0) (((if dO a0=0 then jI a0 else[]:List aA),dO a0))).bind fun r4=>
 gz r4.1 (fun(R4:Nat) Lw (s7:(List (aA×Bool)))=>(show Option (Lr (List (aA×Bool)) (List (aA×Bool)) Unit)from
   some (.go (gf Lw true s7)))) (fun s7=>some s7) ([]:List (aA×Bool)) (fun b8=>
  gz a2 (fun(R5:Nat) Hg (vc:Unit)=>(show Option (Lr Unit Unit Int)from
    gz Hg.aJ (fun(i33:Nat) Ba (wq:Unit)=>(show Option (Lr Unit Unit Int)from
      if(!((cr Ba.key b8).getD false))=true then
       some (.ret 8)
      else
      (Ab a1 Ba.key Ba.value).bind fun iB=>
      if ¬(iB.2=0)then
       some (.ret iB.2)
      else
      some (.go ()))) (fun wq=>some ()) () (fun Cw=>
     some (.go ())) (fun Cw=>
     some (.ret Cw)))) (fun vc=>some ()) () (fun Cv=>
   some 0) (fun Cv=>
   some Cv)) (fun b8=>
  none)
theorem S4 {a0:bu} {a1:(List bO)} {a2:(List aO)} {σ:Heap} {r:Int} (h:Fh a0 a1 a2=some r):Ff [(U.agg (aP a0)),(sl 3 eB a1),(sl 11 aM a2)] σ=some ((U.int .i64 r),σ):=by
 refine Ak (f:=MG) (y0:=(U.agg (aP a0))) (y1:=(sl 3 eB a1)) (y2:=(sl 11 aM a2)) (enc:=fun r:Int=>(U.int .i64 r)) (T:=Fh a0 a1 a2) (bH (oH (bH (gR (fun _=>(bH rfl (bH rfl (bH (gR (fun _=>rfl) _) kE)))) _) (bH rfl kE))) (bH (gR (fun _=>rfl) _) (bH (gR (fun _=>rfl) _) rfl))) rfl ?_ r h
 unfold MG Fh
 refine ak _ rfl<|ak _ rfl ?_
 refine iq (fun r1:Int=>((U.int .i64 r1),σ)) (fun r1 j0=>abn j0) (fun r1 j0=>?_)
 refine iq (fun r2:Int=>((U.int .i64 r2),σ)) (fun r2 sP=>Ue sP) (fun r2 sP=>?_)
 refine ak (sl 1 rF ([r1,r2]:(List Int))) rfl ?_
 refine iq (fun r3:Int=>((U.int .i64 r3),σ)) (fun r3 HH=>(p5 (e:=fun r:Int=>((U.int .i64 r),σ)) (fun hs=>Vv ([r1,r2]:(List Int)) hs σ)) HH) (fun r3 HH=>?_)
 refine ak _ (gB _ _ _) ?_
 refine gU (p:=¬(r3=0)) (fun uc=>?_) (fun uc=>?_)
 ·exact cq _ (bK _ _) ⟨rfl,rfl⟩
 refine ak _ rfl ?_
 refine iq (fun r4:((List aA)×Int)=>((U.aL [(sl 2 aK r4.1),(U.int .i64 r4.2)]),σ)) (fun r4 ZE=>(p5 (e:=fun r:((List aA)×Int)=>((U.aL [(sl 2 aK r.1),(U.int .i64 r.2)]),σ)) (fun hs=>Wr a0 hs σ)) ZE) (fun r4 ZE=>?_)
 refine ak (sl 2 aK r4.1) rfl<|ak _ rfl ?_
 have hp5:Hp σ σ []:=Ed σ
 have hp6:Hp σ (σ++[aV.map []]) [((U.om σ.length),(Ct.m (List.map (fun p=>((fun x=>(U.agg (aK x))) p.1,(fun x=>(U.bool x)) p.2)) ([]:List (aA×Bool)))))]:=Qn hp5
 refine ak _ (cu _ _ _) ?_
 refine jj (B:=(List (aA×Bool))) (R:=Unit) (fun(R4:Nat) (s7:(List (aA×Bool))) v w9=>v=[(U.int .i64 (R4:Int))]∧Hp σ w9 [((U.om σ.length),(Ct.m (List.map (fun p=>((fun x=>(U.agg (aK x))) p.1,(fun x=>(U.bool x)) p.2)) s7)))]) (fun(b8:(List (aA×Bool))) (q:LS)=>∃Bl SB,q=((AX.exit 0),([Bl]:List U),SB)∧Hp σ SB [((U.om σ.length),(Ct.m (List.map (fun p=>((fun x=>(U.agg (aK x))) p.1,(fun x=>(U.bool x)) p.2)) b8)))]) (fun(b8:Unit) (q:LS)=>False) ?_ ?_ ⟨rfl,hp6⟩ ?_ ?_
 ·intro ajH R4 Lw s7 v w9 QW hI
  obtain⟨rfl,GJ⟩:=hI
  refine ak _ (eR QW)<|jo<|ak _ (dR QW)<|ak _ rfl<|ak _ rfl<|ak _ (Aw _ _ rfl)<|ak _ rfl ?_
  obtain⟨E0,jc,A4⟩:=Pt (ek:=(.s [0,2])) (eK:=(fun x=>(U.agg (aK x)))) (eV:=(fun x=>(U.bool x))) GJ 0 rfl yD Lw true rfl
  change Hp σ E0 [((U.om σ.length),(Ct.m (List.map (fun p=>((fun x=>(U.agg (aK x))) p.1,(fun x=>(U.bool x)) p.2)) (gf Lw true s7))))]at A4
  refine ak E0 jc<|ak _ (dB QW ajH) ?_
  exact bn (iH ⟨rfl,A4⟩)
 ·intro hl s7 v w9 hI
  obtain⟨rfl,GJ⟩:=hI
  refine ak _ (eO _)<|jm ?_
  exact bn ⟨by simp,⟨_,_,rfl,GJ⟩⟩
 ·intro hl b8 q hq
  obtain⟨Bl,SB,rfl,akK⟩:=hq
  refine dS rfl<|ak _ (cu _ _ _) ?_
  refine jj (B:=Unit) (R:=Int) (fun(R5:Nat) (vc:Unit) v wB=>∃u6,v=[u6,(U.int .i64 (R5:Int))]∧Hp σ wB [((U.om σ.length),(Ct.m (List.map (fun p=>((fun x=>(U.agg (aK x))) p.1,(fun x=>(U.bool x)) p.2)) b8)))]) (fun(Cv:Unit) (q:LS)=>∃u6 Ig C3,q=((AX.exit 2),([u6,Ig]:List U),C3)∧Hp σ C3 [((U.om σ.length),(Ct.m (List.map (fun p=>((fun x=>(U.agg (aK x))) p.1,(fun x=>(U.bool x)) p.2)) b8)))]) (fun(Cv:Int) (q:LS)=>∃Ig C3,q=(AX.ret,([(U.int .i64 Cv),Ig]:List U),C3)∧Hp σ C3 []) ?_ ?_ ⟨_,rfl,akK⟩ ?_ ?_
  ·intro ajL R5 Hg vc v wB Q1 hI
   obtain⟨u6,rfl,GK⟩:=hI
   refine ak _ (eR Q1)<|jo<|ak _ (dR Q1)<|ak _ rfl<|ak _ rfl<|ak _ (yF _ _ rfl)<|ak (sl 8 aF Hg.aJ) rfl<|ak _ (cu _ _ _) ?_
   refine jj (B:=Unit) (R:=Int) (fun(i33:Nat) (wq:Unit) v Bo=>∃u6,v=[u6,(U.int .i64 (i33:Int))]∧Hp σ Bo [((U.om σ.length),(Ct.m (List.map (fun p=>((fun x=>(U.agg (aK x))) p.1,(fun x=>(U.bool x)) p.2)) b8)))]) (fun(Cw:Unit) (q:LS)=>∃u6 Ih C4,q=((AX.exit 4),([u6,Ih]:List U),C4)∧Hp σ C4 [((U.om σ.length),(Ct.m (List.map (fun p=>((fun x=>(U.agg (aK x))) p.1,(fun x=>(U.bool x)) p.2)) b8)))]) (fun(Cw:Int) (q:LS)=>∃Ih C4,q=(AX.ret,([(U.int .i64 Cw),Ih]:List U),C4)∧Hp σ C4 []) ?_ ?_ ⟨_,rfl,GK⟩ ?_ ?_
   ·intro ajM i33 Ba wq v Bo Q2 hI
    obtain⟨u6,rfl,Ex⟩:=hI
    refine ak _ (eR Q2)<|jo<|ak _ (dR Q2)<|ak _ rfl<|ak _ rfl<|ak _ (sx _ _ rfl)<|ak _ rfl<|ak _ (agQ (ek:=(.s [0,2])) (eK:=(fun x=>(U.agg (aK x)))) (eV:=(fun x=>(U.bool x))) Ex 0 rfl yD Ba.key false rfl)<|ak _ rfl ?_
    refine fJ (c:=(!((cr Ba.key b8).getD false))) (fun jF=>?_) (fun jF=>?_)
    ·exact bn (ey (by simp) ⟨_,_,rfl,(Pu Ex)⟩)
    refine ak _ rfl<|ak _ rfl ?_
    refine iq (fun iB:(Int×Int)=>((U.aL [(U.int .i64 iB.1),(U.int .i64 iB.2)]),Bo)) (fun iB YQ=>Tr YQ) (fun iB YQ=>?_)
    refine ak _ rfl<|ak _ rfl<|ak _ (gB _ _ _) ?_
    refine gU (p:=¬(iB.2=0)) (fun lE=>?_) (fun lE=>?_)
    ·exact bn (ey (by simp) ⟨_,_,rfl,(Pu Ex)⟩)
    refine ak _ (dB Q2 ajM) ?_
    exact bn (iH ⟨_,rfl,Ex⟩)
   ·intro hl wq v Bo hI
    obtain⟨u6,rfl,Ex⟩:=hI
    refine ak _ (eO _)<|jm ?_
    exact bn ⟨by simp,⟨_,_,_,rfl,Ex⟩⟩
   ·intro hl Cw q hq
    obtain⟨u6,Ih,C4,rfl,Ey⟩:=hq
    refine dS rfl<|ak _ (dB Q1 ajL) ?_
    exact bn (iH ⟨_,rfl,Ey⟩)
   ·intro hl Cw q hq
    obtain⟨Ih,C4,rfl,Ey⟩:=hq
    refine mm rfl<|dS rfl ?_
    exact bn (ey (by simp) ⟨_,_,rfl,(Pu Ey)⟩)
  ·intro hl vc v wB hI
   obtain⟨u6,rfl,GK⟩:=hI
   refine ak _ (eO _)<|jm ?_
   exact bn ⟨by simp,⟨_,_,_,rfl,GK⟩⟩
  ·intro hl Cv q hq
   obtain⟨u6,Ig,C3,rfl,Ew⟩:=hq
   refine dS rfl ?_
   exact cq _ (BU Ew (PX (gd _ _))) ⟨rfl,rfl⟩
  ·intro hl Cv q hq
   obtain⟨Ig,C3,rfl,Ew⟩:=hq
   refine mm rfl<|dS rfl ?_
   exact cq _ (BU Ew (PX (gd _ _))) ⟨rfl,rfl⟩
 ·intro hl b8 q hq
  exact False.elim hq
noncomputable def Dq (a0:(List bO)) (a1:Int):Option (bO×Bool):=
 gz a0 (fun(i8:Nat) e7 (s1:Unit)=>(show Option (Lr Unit Unit (bO×Bool))from
   if e7.number=a1 then
    some (.ret (e7,true))
   else
   some (.go ()))) (fun s1=>some ()) () (fun b2=>
  some ((⟨0,(⟨#[]⟩:ByteArray),[]⟩:bO),false)) (fun b2=>
  some (b2.1,b2.2))
theorem acj {a0:(List bO)} {a1:Int} {σ:Heap} {r:(bO×Bool)} (h:Dq a0 a1=some r):MR [(sl 3 eB a0),(U.int .i64 a1)] σ=some ((U.aL [(U.agg (eB r.1)),(U.bool r.2)]),σ):=by
 refine oo (f:=MW) (y0:=(sl 3 eB a0)) (y1:=(U.int .i64 a1)) (enc:=fun r:(bO×Bool)=>(U.aL [(U.agg (eB r.1)),(U.bool r.2)])) (T:=Dq a0 a1) rfl rfl ?_ r h
 unfold MW Dq
 refine ak _ (cu _ _ _) ?_
 refine jj (B:=Unit) (R:=(bO×Bool)) (fun(i8:Nat) (s1:Unit) v w3=>v=[(U.lbx [ah,(U.str (⟨#[]⟩:ByteArray)),U.aH]),aD,(U.int .i64 (i8:Int))]∧σ=w3) (fun(b2:Unit) (q:LS)=>∃u5 wz,q=((AX.exit 0),([(U.lbx [ah,(U.str (⟨#[]⟩:ByteArray)),U.aH]),u5,wz]:List U),σ)) (fun(b2:(bO×Bool)) (q:LS)=>∃wz,q=(AX.ret,([(U.lbx (eB b2.1)),(U.bool b2.2),wz]:List U),σ)) ?_ ?_ ⟨rfl,rfl⟩ ?_ ?_
 ·intro lD i8 e7 s1 v w3 eS hI
  obtain⟨rfl,rfl⟩:=hI
  refine ak _ (eR eS)<|jo<|ak _ (dR eS)<|ak _ rfl<|ak _ rfl<|ak _ (DJ _ _ rfl)<|ak _ rfl<|ak _ (l5 _ _ _) ?_
  refine gU (p:=e7.number=a1) (fun c9=>?_) (fun c9=>?_)
  ·refine ak _ rfl<|ak _ rfl<|ak _ rfl<|ak _ (DJ _ _ rfl) ?_
   exact bn (ey (by simp) ⟨_,rfl⟩)
  refine ak _ (dB eS lD) ?_
  exact bn (iH ⟨rfl,rfl⟩)
 ·intro hl s1 v w3 hI
  obtain⟨rfl,rfl⟩:=hI
  refine ak _ (eO _)<|jm ?_
  exact bn ⟨by simp,⟨_,_,rfl⟩⟩
 ·intro hl b2 q hq
  obtain⟨u5,wz,rfl⟩:=hq
  refine dS rfl<|ak _ rfl<|ak [ah,(U.str (⟨#[]⟩:ByteArray)),U.aH] rfl<|ak [ah,(U.str (⟨#[]⟩:ByteArray)),U.aH] rfl<|ak (U.agg [ah,(U.str (⟨#[]⟩:ByteArray)),U.aH]) rfl ?_
  exact cq _ (bK _ _) ⟨(Lm (bH (oH (bH rfl (bH rfl (bH (by first|rfl|exact WU _ _) kE)))) (bH rfl kE))),rfl⟩
 ·intro hl b2 q hq
  obtain⟨wz,rfl⟩:=hq
  refine mm rfl<|dS rfl<|ak _ rfl ?_
  exact cq _ (bK _ _) ⟨(Lm (bH (oH rfl) (bH rfl kE))),rfl⟩
noncomputable def NU (a0:aA) (a1:aA):Option Bool:=
 some ((decide (a0.unit<a1.unit))||((decide (a0.unit=a1.unit))&&(Op.bytesLess a0.param.toList a1.param.toList)))
theorem Jh {a0:aA} {a1:aA} {σ:Heap} {r:Bool} (h:NU a0 a1=some r):Dy [(U.agg (aK a0)),(U.agg (aK a1))] σ=some ((U.bool r),σ):=by
 refine oo (f:=NF) (y0:=(U.agg (aK a0))) (y1:=(U.agg (aK a1))) (enc:=fun r:Bool=>(U.bool r)) (T:=NU a0 a1) rfl rfl ?_ r h
 unfold NF NU
 refine ak _ rfl<|ak _ rfl<|ak _ rfl<|ak _ rfl<|ak _ rfl<|eX (U.int .i64 a0.unit) (fun hg=>rfl)<|eX (U.int .i64 a1.unit) (fun hg=>rfl)<|eX (U.bool (decide (a0.unit=a1.unit))) (fun hg=>by(try rw[hg]);exact(l5 _ _ _))<|eX (U.bool (decide (a0.unit=a1.unit))) (fun hg=>by(try rw[hg]);exact rfl)<|BY (U.str a0.param) (fun hg=>rfl)<|BY (U.str a1.param) (fun hg=>rfl)<|BY (U.bool (Op.bytesLess a0.param.toList a1.param.toList)) (fun hg=>by(try rw[hg]);exact rfl)<|eX (U.bool ((decide (a0.unit=a1.unit))&&(Op.bytesLess a0.param.toList a1.param.toList))) (fun hg=>by(try rw[hg]);exact(iR _ _))<|ak _ (pK _ _) ?_
 exact cq _ (bK _ _) ⟨rfl,rfl⟩
noncomputable def Dg (a0:bu) (a1:(List bO)):Option Int:=
 (tq (fU a0) (dO a0)).bind fun r1=>
 if ¬(r1=0)then
  some r1
 else
 if 200<(a1.length:Int)then
  some 2
 else
 gz a1 (fun(i9:Nat) e8 (s2:Unit)=>(show Option (Lr Unit Unit Int)from
   if(!(aU e8.number 1 999))=true then
    some (.ret 1)
   else
   (if decide (0<(i9:Int))=true then kf a1 (IntKind.i64.wrap ((i9:Int) -1))else some default).bind fun bf=>
   if((decide (0<(i9:Int)))&&(decide (e8.number≤bf.number)))=true then
    some (.ret 7)
   else
   (if decide (¬(e8.title=(⟨#[]⟩:ByteArray)))=true then tq (gD e8.title) (xB e8.title)else some default).bind fun cD=>
   if((decide (¬(e8.title=(⟨#[]⟩:ByteArray))))&&(!cD))=true then
    some (.ret 3)
   else
   if 2000<(e8.iY.length:Int)then
    some (.ret 2)
   else
   gz e8.iY (fun(um:Nat) jM (lF:Unit)=>(show Option (Lr Unit Unit Int)from
     (tq (fU a0) (jB a0 jM.key)).bind fun fA=>
     if(!fA.2)=true then
      some (.ret 8)
     else
     if(!(aU jM.level 0 65535))=true then
      some (.ret 1)
     else
     (if decide (0<(um:Int))=true then kf e8.iY (IntKind.i64.wrap ((um:Int) -1))else some default).bind fun bg=>
     if((decide (0<(um:Int)))&&(!(((decide (bg.key.unit<jM.key.unit))||((decide (bg.key.unit=jM.key.unit))&&(Op.bytesLess bg.key.param.toList jM.key.param.toList))))))=true then
      some (.ret 7)
     else
     some (.go ()))) (fun lF=>some ()) () (fun rP=>
    some (.go ())) (fun rP=>
    some (.ret rP)))) (fun s2=>some ()) () (fun b3=>
  some 0) (fun b3=>
  some b3)
theorem abt {a0:bu} {a1:(List bO)} {σ:Heap} {r:Int} (h:Dg a0 a1=some r):Mq [(U.agg (aP a0)),(sl 3 eB a1)] σ=some ((U.int .i64 r),σ):=by
 refine oo (f:=Mt) (y0:=(U.agg (aP a0))) (y1:=(sl 3 eB a1)) (enc:=fun r:Int=>(U.int .i64 r)) (T:=Dg a0 a1) rfl rfl ?_ r h
 unfold Mt Dg
 refine ak _ rfl<|ak _ rfl ?_
 refine iq (fun r1:Int=>((U.int .i64 r1),σ)) (fun r1 j0=>(p5 (e:=fun r:Int=>((U.int .i64 r),σ)) (fun hs=>acE a0 hs σ)) j0) (fun r1 j0=>?_)
 refine ak _ (gB _ _ _) ?_
 refine gU (p:=¬(r1=0)) (fun rQ=>?_) (fun rQ=>?_)
 ·exact cq _ (bK _ _) ⟨rfl,rfl⟩
 refine ak _ (cu _ _ _)<|ak _ rfl ?_
 refine gU (p:=200<(a1.length:Int)) (fun qT=>?_) (fun qT=>?_)
 ·exact cq _ (bK _ _) ⟨rfl,rfl⟩
 refine ak _ (cu _ _ _) ?_
 refine jj (B:=Unit) (R:=Int) (fun(i9:Nat) (s2:Unit) v w4=>∃u4,v=[(U.lbx (aP a0)),u4,(U.int .i64 (i9:Int))]∧σ=w4) (fun(b3:Unit) (q:LS)=>∃u2 u4 H8,q=((AX.exit 0),([u2,u4,H8]:List U),σ)) (fun(b3:Int) (q:LS)=>∃u2 H8,q=(AX.ret,([u2,(U.int .i64 b3),H8]:List U),σ)) ?_ ?_ ⟨_,rfl,rfl⟩ ?_ ?_
 ·intro Q4 i9 e8 s2 v w4 CN hI
  obtain⟨u4,rfl,rfl⟩:=hI
  refine ak _ (eR CN)<|jo<|ak _ (dR CN)<|ak _ rfl<|ak _ rfl<|ak _ (DJ _ _ rfl)<|ak _ rfl<|ak _ (nM e8.number 1 999 σ)<|ak _ rfl ?_
  refine fJ (c:=(!(aU e8.number 1 999))) (fun mu=>?_) (fun mu=>?_)
  ·exact bn (ey (by simp) ⟨_,_,rfl⟩)
  refine ak _ rfl<|bh (U.int .i64 e8.number) (fun hg=>rfl)<|bh (sl 3 eB a1) (fun hg=>rfl)<|bh (U.int .i64 (i9:Int)) (fun hg=>rfl)<|bh (U.int .i64 (IntKind.i64.wrap ((i9:Int) -1))) (fun hg=>by(try rw[hg]);exact rfl) ?_
  refine oz (ω:=bO) (fun bf=>(U.rp (eB bf))) (fun hg bf GP=>by(try rw[hg]);exact pI GP) (fun bf GP=>?_)
  refine bh (U.rp (eB bf)) (fun hg=>by(try rw[hg]);exact rfl)<|bh (U.int .i64 bf.number) (fun hg=>by(try rw[hg]);exact rfl)<|bh (U.bool (decide (e8.number≤bf.number))) (fun hg=>by(try rw[hg]);exact rfl)<|ak _ (iR _ _) ?_
  refine fJ (c:=((decide (0<(i9:Int)))&&(decide (e8.number≤bf.number)))) (fun l6=>?_) (fun l6=>?_)
  ·exact bn (ey (by simp) ⟨_,_,rfl⟩)
  refine ak _ rfl<|ak _ (Gv _ _)<|bh (U.str e8.title) (fun hg=>rfl) ?_
  refine oz (ω:=Bool) (fun cD=>(U.bool cD)) (fun hg cD sH=>by(try rw[hg]);exact(quiet_of ((p5 (e:=fun r:Bool=>((U.bool r),σ)) (fun hs=>TG e8.title hs σ)) sH))) (fun cD sH=>?_)
  refine bh (U.bool (!cD)) (fun hg=>by(try rw[hg]);exact rfl)<|ak _ (iR _ _) ?_
  refine fJ (c:=((decide (¬(e8.title=(⟨#[]⟩:ByteArray))))&&(!cD))) (fun jE=>?_) (fun jE=>?_)
  ·exact bn (ey (by simp) ⟨_,_,rfl⟩)
  refine ak (sl 3 dc e8.iY) rfl<|ak _ (cu _ _ _)<|ak _ rfl ?_
  refine gU (p:=2000<(e8.iY.length:Int)) (fun jq=>?_) (fun jq=>?_)
  ·exact bn (ey (by simp) ⟨_,_,rfl⟩)
  refine ak (sl 3 dc e8.iY) rfl<|ak _ (cu _ _ _) ?_
  refine jj (B:=Unit) (R:=Int) (fun(um:Nat) (lF:Unit) v wA=>∃u4,v=[(U.lbx (aP a0)),u4,(U.lbx (eB e8)),(U.int .i64 (um:Int))]∧σ=wA) (fun(rP:Unit) (q:LS)=>∃u4 u7 u64,q=((AX.exit 3),([(U.lbx (aP a0)),u4,u7,u64]:List U),σ)) (fun(rP:Int) (q:LS)=>∃u2 u7 u64,q=(AX.ret,([u2,(U.int .i64 rP),u7,u64]:List U),σ)) ?_ ?_ ⟨_,rfl,rfl⟩ ?_ ?_
  ·intro Ql um jM lF v wA Cf hI
   obtain⟨u4,rfl,rfl⟩:=hI
   refine ak _ (eR Cf)<|jo<|ak _ (dR Cf)<|ak _ rfl<|ak _ rfl<|ak _ (Bx _ _ rfl)<|ak _ rfl<|ak _ rfl ?_
   refine iq (fun fA:(dI×Bool)=>((U.aL [(U.agg (cm fA.1)),(U.bool fA.2)]),σ)) (fun fA GN=>(p5 (e:=fun r:(dI×Bool)=>((U.aL [(U.agg (cm r.1)),(U.bool r.2)]),σ)) (fun hs=>Fv a0 hs jM.key σ)) GN) (fun fA GN=>?_)
   refine ak _ rfl<|ak _ rfl<|ak _ rfl<|ak _ (kD _ _ rfl)<|ak _ rfl ?_
   refine fJ (c:=(!fA.2)) (fun eH=>?_) (fun eH=>?_)
   ·exact bn (ey (by simp) ⟨_,_,_,rfl⟩)
   refine ak _ rfl<|ak _ (wI jM.level σ)<|ak _ rfl ?_
   refine fJ (c:=(!(aU jM.level 0 65535))) (fun iV=>?_) (fun iV=>?_)
   ·exact bn (ey (by simp) ⟨_,_,_,rfl⟩)
   refine ak _ rfl<|ak _ rfl<|bh (sl 3 dc e8.iY) (fun hg=>rfl)<|bh (U.int .i64 (um:Int)) (fun hg=>rfl)<|bh (U.int .i64 (IntKind.i64.wrap ((um:Int) -1))) (fun hg=>by(try rw[hg]);exact rfl) ?_
   refine oz (ω:=bW) (fun bg=>(U.rp (dc bg))) (fun hg bg YU=>by(try rw[hg]);exact pI YU) (fun bg YU=>?_)
   refine bh (U.rp (dc bg)) (fun hg=>by(try rw[hg]);exact rfl)<|bh (U.agg (aK bg.key)) (fun hg=>by(try rw[hg]);exact rfl)<|bh (U.agg (aK jM.key)) (fun hg=>rfl)<|bh (U.bool (((decide (bg.key.unit<jM.key.unit))||((decide (bg.key.unit=jM.key.unit))&&(Op.bytesLess bg.key.param.toList jM.key.param.toList))))) (fun hg=>by(try rw[hg]);exact(quiet_of (Jh (σ:=σ) (r:=((decide (bg.key.unit<jM.key.unit))||((decide (bg.key.unit=jM.key.unit))&&(Op.bytesLess bg.key.param.toList jM.key.param.toList)))) rfl)))<|bh (U.bool (!(((decide (bg.key.unit<jM.key.unit))||((decide (bg.key.unit=jM.key.unit))&&(Op.bytesLess bg.key.param.toList jM.key.param.toList)))))) (fun hg=>by(try rw[hg]);exact rfl)<|ak _ (iR _ _) ?_
   refine fJ (c:=((decide (0<(um:Int)))&&(!(((decide (bg.key.unit<jM.key.unit))||((decide (bg.key.unit=jM.key.unit))&&(Op.bytesLess bg.key.param.toList jM.key.param.toList))))))) (fun lK=>?_) (fun lK=>?_)
   ·exact bn (ey (by simp) ⟨_,_,_,rfl⟩)
   refine ak _ (dB Cf Ql) ?_
   exact bn (iH ⟨_,rfl,rfl⟩)
  ·intro hl lF v wA hI
   obtain⟨u4,rfl,rfl⟩:=hI
   refine ak _ (eO _)<|jm ?_
   exact bn ⟨by simp,⟨_,_,_,rfl⟩⟩
  ·intro hl rP q hq
   obtain⟨u4,u7,u64,rfl⟩:=hq
   refine dS rfl<|ak _ (dB CN Q4) ?_
   exact bn (iH ⟨_,rfl,rfl⟩)
  ·intro hl rP q hq
   obtain⟨u2,u7,u64,rfl⟩:=hq
   refine mm rfl<|dS rfl ?_
   exact bn (ey (by simp) ⟨_,_,rfl⟩)
 ·intro hl s2 v w4 hI
  obtain⟨u4,rfl,rfl⟩:=hI
  refine ak _ (eO _)<|jm ?_
  exact bn ⟨by simp,⟨_,_,_,rfl⟩⟩
 ·intro hl b3 q hq
  obtain⟨u2,u4,H8,rfl⟩:=hq
  refine dS rfl ?_
  exact cq _ (bK _ _) ⟨rfl,rfl⟩
 ·intro hl b3 q hq
  obtain⟨u2,H8,rfl⟩:=hq
  refine mm rfl<|dS rfl ?_
  exact cq _ (bK _ _) ⟨rfl,rfl⟩
noncomputable def Ah (a0:(List bO)) (a1:aA) (a2:iG):Option (Int×Int):=
 if((decide (¬(a2.level=0)))&&(decide (¬(a2.dz=0))))=true then
  some (0,3)
 else
 if(!(aU a2.level 0 65535))=true then
  some (0,1)
 else
 if a2.dz=0 then
  some (a2.level,0)
 else
 (Dq a0 a2.dz).bind fun r1=>
 if(!r1.2)=true then
  some (0,8)
 else
 gz r1.1.iY (fun(i9:Nat) e8 (s2:Unit)=>(show Option (Lr Unit Unit Int)from
   if e8.key=a1 then
    some (.ret e8.level)
   else
   some (.go ()))) (fun s2=>some ()) () (fun b3=>
  some (0,8)) (fun b3=>
  some (b3,0))
theorem Uc {a0:(List bO)} {a1:aA} {a2:iG} {σ:Heap} {r:(Int×Int)} (h:Ah a0 a1 a2=some r):Jy [(sl 3 eB a0),(U.agg (aK a1)),(U.agg (ou a2))] σ=some ((U.aL [(U.int .i64 r.1),(U.int .i64 r.2)]),σ):=by
 refine Ak (f:=N9) (y0:=(sl 3 eB a0)) (y1:=(U.agg (aK a1))) (y2:=(U.agg (ou a2))) (enc:=fun r:(Int×Int)=>(U.aL [(U.int .i64 r.1),(U.int .i64 r.2)])) (T:=Ah a0 a1 a2) rfl rfl ?_ r h
 unfold N9 Ah
 refine ak _ rfl<|ak _ rfl<|ak _ rfl<|ak _ (gB _ _ _)<|bh (U.int .i64 a2.dz) (fun hg=>rfl)<|bh (U.bool (decide (¬(a2.dz=0)))) (fun hg=>by(try rw[hg]);exact(gB _ _ _))<|ak _ (iR _ _) ?_
 refine fJ (c:=((decide (¬(a2.level=0)))&&(decide (¬(a2.dz=0))))) (fun gh=>?_) (fun gh=>?_)
 ·exact cq _ (bK _ _) ⟨rfl,rfl⟩
 refine ak _ rfl<|ak _ (wI a2.level σ)<|ak _ rfl ?_
 refine fJ (c:=(!(aU a2.level 0 65535))) (fun ep=>?_) (fun ep=>?_)
 ·exact cq _ (bK _ _) ⟨rfl,rfl⟩
 refine ak _ rfl<|ak _ (l5 _ _ _) ?_
 refine gU (p:=a2.dz=0) (fun bR=>?_) (fun bR=>?_)
 ·refine ak _ rfl ?_
  exact cq _ (bK _ _) ⟨rfl,rfl⟩
 refine ak _ rfl ?_
 refine iq (fun r1:(bO×Bool)=>((U.aL [(U.agg (eB r1.1)),(U.bool r1.2)]),σ)) (fun r1 j0=>acj j0) (fun r1 j0=>?_)
 refine ak _ rfl<|ak _ rfl<|ak _ rfl<|ak _ (DJ _ _ rfl)<|ak _ rfl ?_
 refine fJ (c:=(!r1.2)) (fun dw=>?_) (fun dw=>?_)
 ·exact cq _ (bK _ _) ⟨rfl,rfl⟩
 refine ak (sl 3 dc r1.1.iY) rfl<|ak _ (cu _ _ _) ?_
 refine jj (B:=Unit) (R:=Int) (fun(i9:Nat) (s2:Unit) v w4=>v=[(U.lbx (aK a1)),ah,ah,(U.int .i64 (i9:Int))]∧σ=w4) (fun(b3:Unit) (q:LS)=>∃u4 u6 u7 Ie,q=((AX.exit 1),([u4,u6,u7,Ie]:List U),σ)) (fun(b3:Int) (q:LS)=>∃u4 Ie,q=(AX.ret,([u4,(U.int .i64 b3),ah,Ie]:List U),σ)) ?_ ?_ ⟨rfl,rfl⟩ ?_ ?_
 ·intro Q4 i9 e8 s2 v w4 CN hI
  obtain⟨rfl,rfl⟩:=hI
  refine ak _ (eR CN)<|jo<|ak _ (dR CN)<|ak _ rfl<|ak _ rfl<|ak _ (Bx _ _ rfl)<|ak _ rfl<|ak _ rfl<|ak _ (Ge _ _) ?_
  refine gU (p:=e8.key=a1) (fun dr=>?_) (fun dr=>?_)
  ·refine ak _ rfl ?_
   exact bn (ey (by simp) ⟨_,_,rfl⟩)
  refine ak _ (dB CN Q4) ?_
  exact bn (iH ⟨rfl,rfl⟩)
 ·intro hl s2 v w4 hI
  obtain⟨rfl,rfl⟩:=hI
  refine ak _ (eO _)<|jm ?_
  exact bn ⟨by simp,⟨_,_,_,_,rfl⟩⟩
 ·intro hl b3 q hq
  obtain⟨u4,u6,u7,Ie,rfl⟩:=hq
  refine dS rfl ?_
  exact cq _ (bK _ _) ⟨rfl,rfl⟩
 ·intro hl b3 q hq
  obtain⟨u4,Ie,rfl⟩:=hq
  refine mm rfl<|dS rfl ?_
  exact cq _ (bK _ _) ⟨rfl,rfl⟩
noncomputable def Dm (a0:aS) (a1:(List aS)):Option Int:=
 if(!(aU a0.key.unit 1 9999))=true then
  some 1
 else
 (tq (gD a0.key.param) (nT a0.key.param)).bind fun r1=>
 if(!r1)=true then
  some 5
 else
 if((a0.release&&(decide (¬(a0.value=(⟨0,0⟩:iG)))))||((decide (¬(a0.value.level=0)))&&(decide (¬(a0.value.dz=0)))))=true then
  some 3
 else
 if((!(aU a0.value.level 0 65535))||(!(aU a0.value.dz 0 999)))=true then
  some 1
 else
 if((!a0.yR)&&((decide (¬(a0.delay=0)))||(decide (¬(a0.time=0)))))=true then
  some 3
 else
 if((!(aU a0.delay 0 36000000))||(!(aU a0.time 0 36000000)))=true then
  some 1
 else
 (if decide (0<(a1.length:Int))=true then kf a1 (IntKind.i64.wrap ((a1.length:Int) -1))else some default).bind fun x2=>
 if((decide (0<(a1.length:Int)))&&(!(((decide (x2.key.unit<a0.key.unit))||((decide (x2.key.unit=a0.key.unit))&&(Op.bytesLess x2.key.param.toList a0.key.param.toList))))))=true then
  some 7
 else
 some 0
theorem ab2 {a0:aS} {a1:(List aS)} {σ:Heap} {r:Int} (h:Dm a0 a1=some r):MJ [(U.agg (aF a0)),(sl 8 aF a1)] σ=some ((U.int .i64 r),σ):=by
 refine oo (f:=MM) (y0:=(U.agg (aF a0))) (y1:=(sl 8 aF a1)) (enc:=fun r:Int=>(U.int .i64 r)) (T:=Dm a0 a1) rfl rfl ?_ r h
 unfold MM Dm
 refine ak _ rfl<|ak _ rfl<|ak _ (nM a0.key.unit 1 9999 σ)<|ak _ rfl ?_
 refine fJ (c:=(!(aU a0.key.unit 1 9999))) (fun c9=>?_) (fun c9=>?_)
 ·exact cq _ (bK _ _) ⟨rfl,rfl⟩
 refine ak _ rfl ?_
 refine iq (fun r1:Bool=>((U.bool r1),σ)) (fun r1 j0=>(p5 (e:=fun r:Bool=>((U.bool r),σ)) (fun hs=>Jt a0.key.param hs σ)) j0) (fun r1 j0=>?_)
 refine ak _ rfl ?_
 refine fJ (c:=(!r1)) (fun c8=>?_) (fun c8=>?_)
 ·exact cq _ (bK _ _) ⟨rfl,rfl⟩
 refine ak _ rfl<|bh (U.agg (ou a0.value)) (fun hg=>rfl)<|bh (U.agg (ou (⟨0,0⟩:iG))) (fun hg=>rfl)<|bh (U.bool (decide (¬(a0.value=(⟨0,0⟩:iG))))) (fun hg=>by(try rw[hg]);exact(V2 _ _))<|ak _ (iR _ _)<|eX (U.int .i64 a0.value.level) (fun hg=>rfl)<|eX (U.bool (decide (¬(a0.value.level=0)))) (fun hg=>by(try rw[hg]);exact(gB _ _ _))<|eX (U.bool (decide (¬(a0.value.level=0)))) (fun hg=>by(try rw[hg]);exact rfl)<|BY (U.int .i64 a0.value.dz) (fun hg=>rfl)<|BY (U.bool (decide (¬(a0.value.dz=0)))) (fun hg=>by(try rw[hg]);exact(gB _ _ _))<|eX (U.bool ((decide (¬(a0.value.level=0)))&&(decide (¬(a0.value.dz=0))))) (fun hg=>by(try rw[hg]);exact(iR _ _))<|ak _ (pK _ _) ?_
 refine fJ (c:=((a0.release&&(decide (¬(a0.value=(⟨0,0⟩:iG)))))||((decide (¬(a0.value.level=0)))&&(decide (¬(a0.value.dz=0)))))) (fun c7=>?_) (fun c7=>?_)
 ·exact cq _ (bK _ _) ⟨rfl,rfl⟩
 refine ak _ rfl<|ak _ (wI a0.value.level σ)<|ak _ rfl<|eX (U.int .i64 a0.value.dz) (fun hg=>rfl)<|eX (U.bool (aU a0.value.dz 0 999)) (fun hg=>by(try rw[hg]);exact(quiet_of (nM a0.value.dz 0 999 σ)))<|eX (U.bool (!(aU a0.value.dz 0 999))) (fun hg=>by(try rw[hg]);exact rfl)<|ak _ (pK _ _) ?_
 refine fJ (c:=((!(aU a0.value.level 0 65535))||(!(aU a0.value.dz 0 999)))) (fun c6=>?_) (fun c6=>?_)
 ·exact cq _ (bK _ _) ⟨rfl,rfl⟩
 refine ak _ rfl<|ak _ rfl<|bh (U.int .i64 a0.delay) (fun hg=>rfl)<|bh (U.bool (decide (¬(a0.delay=0)))) (fun hg=>by(try rw[hg]);exact(gB _ _ _))<|bh (U.bool (decide (¬(a0.delay=0)))) (fun hg=>by(try rw[hg]);exact rfl)<|KQ (U.int .i64 a0.time) (fun hg=>rfl)<|KQ (U.bool (decide (¬(a0.time=0)))) (fun hg=>by(try rw[hg]);exact(gB _ _ _))<|bh (U.bool ((decide (¬(a0.delay=0)))||(decide (¬(a0.time=0))))) (fun hg=>by(try rw[hg]);exact(pK _ _))<|ak _ (iR _ _) ?_
 refine fJ (c:=((!a0.yR)&&((decide (¬(a0.delay=0)))||(decide (¬(a0.time=0)))))) (fun c5=>?_) (fun c5=>?_)
 ·exact cq _ (bK _ _) ⟨rfl,rfl⟩
 refine ak _ rfl<|ak _ (DF a0.delay σ)<|ak _ rfl<|eX (U.int .i64 a0.time) (fun hg=>rfl)<|eX (U.bool (aU a0.time 0 36000000)) (fun hg=>by(try rw[hg]);exact(quiet_of (DF a0.time σ)))<|eX (U.bool (!(aU a0.time 0 36000000))) (fun hg=>by(try rw[hg]);exact rfl)<|ak _ (pK _ _) ?_
 refine fJ (c:=((!(aU a0.delay 0 36000000))||(!(aU a0.time 0 36000000)))) (fun c4=>?_) (fun c4=>?_)
 ·exact cq _ (bK _ _) ⟨rfl,rfl⟩
 refine ak _ (cu _ _ _)<|ak _ rfl<|bh (sl 8 aF a1) (fun hg=>rfl)<|bh (sl 8 aF a1) (fun hg=>rfl)<|bh (U.int .i64 (a1.length:Int)) (fun hg=>by(try rw[hg]);exact(cu _ _ _))<|bh (U.int .i64 (IntKind.i64.wrap ((a1.length:Int) -1))) (fun hg=>by(try rw[hg]);exact rfl) ?_
 refine oz (ω:=aS) (fun x2=>(U.rp (aF x2))) (fun hg x2 hx2=>by(try rw[hg]);exact pI hx2) (fun x2 hx2=>?_)
 refine bh (U.rp (aF x2)) (fun hg=>by(try rw[hg]);exact rfl)<|bh (U.agg (aK x2.key)) (fun hg=>by(try rw[hg]);exact rfl)<|bh (U.agg (aK a0.key)) (fun hg=>rfl)<|bh (U.bool (((decide (x2.key.unit<a0.key.unit))||((decide (x2.key.unit=a0.key.unit))&&(Op.bytesLess x2.key.param.toList a0.key.param.toList))))) (fun hg=>by(try rw[hg]);exact(quiet_of (Jh (σ:=σ) (r:=((decide (x2.key.unit<a0.key.unit))||((decide (x2.key.unit=a0.key.unit))&&(Op.bytesLess x2.key.param.toList a0.key.param.toList)))) rfl)))<|bh (U.bool (!(((decide (x2.key.unit<a0.key.unit))||((decide (x2.key.unit=a0.key.unit))&&(Op.bytesLess x2.key.param.toList a0.key.param.toList)))))) (fun hg=>by(try rw[hg]);exact rfl)<|ak _ (iR _ _) ?_
 refine fJ (c:=((decide (0<(a1.length:Int)))&&(!(((decide (x2.key.unit<a0.key.unit))||((decide (x2.key.unit=a0.key.unit))&&(Op.bytesLess x2.key.param.toList a0.key.param.toList))))))) (fun c3=>?_) (fun c3=>?_)
 ·exact cq _ (bK _ _) ⟨rfl,rfl⟩
 exact cq _ (bK _ _) ⟨rfl,rfl⟩
noncomputable def Di (a0:(List aS)):Option Int:=
 if 2000<(a0.length:Int)then
  some 2
 else
 gz a0 (fun(i8:Nat) e7 (s1:Unit)=>(show Option (Lr Unit Unit Int)from
   (HZ a0 none (some (i8:Int))).bind fun x9=>
   (Dm e7 x9).bind fun iz=>
   if ¬(iz=0)then
    some (.ret iz)
   else
   some (.go ()))) (fun s1=>some ()) () (fun b2=>
  some 0) (fun b2=>
  some b2)
theorem abP {a0:(List aS)} {σ:Heap} {r:Int} (h:Di a0=some r):MC [(sl 8 aF a0)] σ=some ((U.int .i64 r),σ):=by
 refine Aj (f:=MF) (y0:=(sl 8 aF a0)) (enc:=fun r:Int=>(U.int .i64 r)) (T:=Di a0) rfl rfl ?_ r h
 unfold MF Di
 refine ak _ (cu _ _ _)<|ak _ rfl ?_
 refine gU (p:=2000<(a0.length:Int)) (fun bR=>?_) (fun bR=>?_)
 ·exact cq _ (bK _ _) ⟨rfl,rfl⟩
 refine ak _ (cu _ _ _) ?_
 refine jj (B:=Unit) (R:=Int) (fun(i8:Nat) (s1:Unit) v w3=>v=[ah,(U.int .i64 (i8:Int))]∧σ=w3) (fun(b2:Unit) (q:LS)=>∃u2 sV,q=((AX.exit 0),([u2,sV]:List U),σ)) (fun(b2:Int) (q:LS)=>∃sV,q=(AX.ret,([(U.int .i64 b2),sV]:List U),σ)) ?_ ?_ ⟨rfl,rfl⟩ ?_ ?_
 ·intro lD i8 e7 s1 v w3 eS hI
  obtain⟨rfl,rfl⟩:=hI
  refine ak _ (eR eS)<|jo<|ak _ (dR eS)<|ak _ rfl<|ak _ rfl<|ak _ (sx _ _ rfl)<|ak _ rfl ?_
  refine iq (fun x9:(List aS)=>(sl 8 aF x9)) (fun x9 mB=>(ajt mB)) (fun x9 mB=>?_)
  refine iq (fun iz:Int=>(U.int .i64 iz)) (fun iz A6=>(quiet_of (ab2 A6))) (fun iz A6=>?_)
  refine ak _ (gB _ _ _) ?_
  refine gU (p:=¬(iz=0)) (fun dw=>?_) (fun dw=>?_)
  ·exact bn (ey (by simp) ⟨_,rfl⟩)
  refine ak _ (dB eS lD) ?_
  exact bn (iH ⟨rfl,rfl⟩)
 ·intro hl s1 v w3 hI
  obtain⟨rfl,rfl⟩:=hI
  refine ak _ (eO _)<|jm ?_
  exact bn ⟨by simp,⟨_,_,rfl⟩⟩
 ·intro hl b2 q hq
  obtain⟨u2,sV,rfl⟩:=hq
  refine dS rfl ?_
  exact cq _ (bK _ _) ⟨rfl,rfl⟩
 ·intro hl b2 q hq
  obtain⟨sV,rfl⟩:=hq
  refine mm rfl<|dS rfl ?_
  exact cq _ (bK _ _) ⟨rfl,rfl⟩
noncomputable def Dl (a0:(List aO)):Option Int:=
 if 300<(a0.length:Int)then
  some 2
 else
 gz a0 (fun(i8:Nat) e7 (s1:Int)=>(show Option (Lr Int Int Int)from
   if(!(aU e7.number 1 9999999))=true then
    some (.ret 1)
   else
   (if decide (0<(i8:Int))=true then kf a0 (IntKind.i64.wrap ((i8:Int) -1))else some default).bind fun x9=>
   if((decide (0<(i8:Int)))&&(decide (e7.number≤x9.number)))=true then
    some (.ret 7)
   else
   (if decide (¬(e7.title=(⟨#[]⟩:ByteArray)))=true then tq (gD e7.title) (xB e7.title)else some default).bind fun iz=>
   if((decide (¬(e7.title=(⟨#[]⟩:ByteArray))))&&(!iz))=true then
    some (.ret 3)
   else
   if(((((!(aU e7.delay 0 36000000))||(!(aU e7.up 0 36000000)))||(!(aU e7.down 0 36000000)))||(!(aU e7.other 0 36000000)))||(!(aU e7.follow (-1) 36000000)))=true then
    some (.ret 1)
   else
   if ¬((sy e7.dg)=0)then
    some (.ret (sy e7.dg))
   else
   (Di e7.aJ).bind fun cD=>
   if ¬(cD=0)then
    some (.ret cD)
   else
   some (.go (IntKind.i64.wrap (s1+(e7.aJ.length:Int)))))) (fun s1=>some s1) 0 (fun b2=>
  if 10000<b2 then
   some 2
  else
  some 0) (fun b2=>
  some b2)
theorem S8 {a0:(List aO)} {σ:Heap} {r:Int} (h:Dl a0=some r):Dj [(sl 11 aM a0)] σ=some ((U.int .i64 r),σ):=by
 refine Aj (f:=MK) (y0:=(sl 11 aM a0)) (enc:=fun r:Int=>(U.int .i64 r)) (T:=Dl a0) (bH (gR (fun _=>rfl) _) rfl) rfl ?_ r h
 unfold MK Dl
 refine ak _ (cu _ _ _)<|ak _ rfl ?_
 refine gU (p:=300<(a0.length:Int)) (fun kP=>?_) (fun kP=>?_)
 ·exact cq _ (bK _ _) ⟨rfl,rfl⟩
 refine ak _ (cu _ _ _) ?_
 refine jj (B:=Int) (R:=Int) (fun(i8:Nat) (s1:Int) v w3=>v=[ah,(U.int .i64 s1),(U.int .i64 (i8:Int))]∧σ=w3) (fun(b2:Int) (q:LS)=>∃u2 jt,q=((AX.exit 0),([u2,(U.int .i64 b2),jt]:List U),σ)) (fun(b2:Int) (q:LS)=>∃u3 jt,q=(AX.ret,([(U.int .i64 b2),u3,jt]:List U),σ)) ?_ ?_ ⟨rfl,rfl⟩ ?_ ?_
 ·intro lD i8 e7 s1 v w3 eS hI
  obtain⟨rfl,rfl⟩:=hI
  refine ak _ (eR eS)<|jo<|ak _ (dR eS)<|ak _ rfl<|ak _ rfl<|ak _ (yF _ _ rfl)<|ak _ rfl<|ak _ (nM e7.number 1 9999999 σ)<|ak _ rfl ?_
  refine fJ (c:=(!(aU e7.number 1 9999999))) (fun iN=>?_) (fun iN=>?_)
  ·exact bn (ey (by simp) ⟨_,_,rfl⟩)
  refine ak _ rfl<|bh (U.int .i64 e7.number) (fun hg=>rfl)<|bh (sl 11 aM a0) (fun hg=>rfl)<|bh (U.int .i64 (i8:Int)) (fun hg=>rfl)<|bh (U.int .i64 (IntKind.i64.wrap ((i8:Int) -1))) (fun hg=>by(try rw[hg]);exact rfl) ?_
  refine oz (ω:=aO) (fun x9=>(U.rp (aM x9))) (fun hg x9 mB=>by(try rw[hg]);exact pI mB) (fun x9 mB=>?_)
  refine bh (U.rp (aM x9)) (fun hg=>by(try rw[hg]);exact rfl)<|bh (U.int .i64 x9.number) (fun hg=>by(try rw[hg]);exact rfl)<|bh (U.bool (decide (e7.number≤x9.number))) (fun hg=>by(try rw[hg]);exact rfl)<|ak _ (iR _ _) ?_
  refine fJ (c:=((decide (0<(i8:Int)))&&(decide (e7.number≤x9.number)))) (fun jW=>?_) (fun jW=>?_)
  ·exact bn (ey (by simp) ⟨_,_,rfl⟩)
  refine ak _ rfl<|ak _ (Gv _ _)<|bh (U.str e7.title) (fun hg=>rfl) ?_
  refine oz (ω:=Bool) (fun iz=>(U.bool iz)) (fun hg iz A6=>by(try rw[hg]);exact(quiet_of ((p5 (e:=fun r:Bool=>((U.bool r),σ)) (fun hs=>TG e7.title hs σ)) A6))) (fun iz A6=>?_)
  refine bh (U.bool (!iz)) (fun hg=>by(try rw[hg]);exact rfl)<|ak _ (iR _ _) ?_
  refine fJ (c:=((decide (¬(e7.title=(⟨#[]⟩:ByteArray))))&&(!iz))) (fun fV=>?_) (fun fV=>?_)
  ·exact bn (ey (by simp) ⟨_,_,rfl⟩)
  refine ak _ rfl<|ak _ (DF e7.delay σ)<|ak _ rfl<|eX (U.int .i64 e7.up) (fun hg=>rfl)<|eX (U.bool (aU e7.up 0 36000000)) (fun hg=>by(try rw[hg]);exact(quiet_of (DF e7.up σ)))<|eX (U.bool (!(aU e7.up 0 36000000))) (fun hg=>by(try rw[hg]);exact rfl)<|ak _ (pK _ _)<|eX (U.int .i64 e7.down) (fun hg=>rfl)<|eX (U.bool (aU e7.down 0 36000000)) (fun hg=>by(try rw[hg]);exact(quiet_of (DF e7.down σ)))<|eX (U.bool (!(aU e7.down 0 36000000))) (fun hg=>by(try rw[hg]);exact rfl)<|ak _ (pK _ _)<|eX (U.int .i64 e7.other) (fun hg=>rfl)<|eX (U.bool (aU e7.other 0 36000000)) (fun hg=>by(try rw[hg]);exact(quiet_of (DF e7.other σ)))<|eX (U.bool (!(aU e7.other 0 36000000))) (fun hg=>by(try rw[hg]);exact rfl)<|ak _ (pK _ _)<|eX (U.int .i64 e7.follow) (fun hg=>rfl)<|eX (U.bool (aU e7.follow (-1) 36000000)) (fun hg=>by(try rw[hg]);exact(quiet_of (nM e7.follow (-1) 36000000 σ)))<|eX (U.bool (!(aU e7.follow (-1) 36000000))) (fun hg=>by(try rw[hg]);exact rfl)<|ak _ (pK _ _) ?_
  refine fJ (c:=(((((!(aU e7.delay 0 36000000))||(!(aU e7.up 0 36000000)))||(!(aU e7.down 0 36000000)))||(!(aU e7.other 0 36000000)))||(!(aU e7.follow (-1) 36000000)))) (fun gh=>?_) (fun gh=>?_)
  ·exact bn (ey (by simp) ⟨_,_,rfl⟩)
  refine ak _ rfl<|ak _ (abW e7.dg σ)<|ak _ (gB _ _ _) ?_
  refine gU (p:=¬((sy e7.dg)=0)) (fun ep=>?_) (fun ep=>?_)
  ·exact bn (ey (by simp) ⟨_,_,rfl⟩)
  refine ak (sl 8 aF e7.aJ) rfl ?_
  refine iq (fun cD:Int=>((U.int .i64 cD),σ)) (fun cD sH=>abP sH) (fun cD sH=>?_)
  refine ak _ (gB _ _ _) ?_
  refine gU (p:=¬(cD=0)) (fun bR=>?_) (fun bR=>?_)
  ·exact bn (ey (by simp) ⟨_,_,rfl⟩)
  refine ak (sl 8 aF e7.aJ) rfl<|ak _ (cu _ _ _)<|ak _ rfl<|ak _ (dB eS lD) ?_
  exact bn (iH ⟨rfl,rfl⟩)
 ·intro hl s1 v w3 hI
  obtain⟨rfl,rfl⟩:=hI
  refine ak _ (eO _)<|jm ?_
  exact bn ⟨by simp,⟨_,_,rfl⟩⟩
 ·intro hl b2 q hq
  obtain⟨u2,jt,rfl⟩:=hq
  refine dS rfl<|ak _ rfl ?_
  refine gU (p:=10000<b2) (fun eu=>?_) (fun eu=>?_)
  ·exact cq _ (bK _ _) ⟨rfl,rfl⟩
  exact cq _ (bK _ _) ⟨rfl,rfl⟩
 ·intro hl b2 q hq
  obtain⟨u3,jt,rfl⟩:=hq
  refine mm rfl<|dS rfl ?_
  exact cq _ (bK _ _) ⟨rfl,rfl⟩
noncomputable def Fl (a0:bu) (a1:(List bO)) (a2:(List aO)):Option Int:=
 (Dg a0 a1).bind fun r1=>
 if ¬(r1=0)then
  some r1
 else
 (Dl a2).bind fun r2=>
 if ¬(r2=0)then
  some r2
 else
 gz a2 (fun(rV:Nat) e9 (s3:Unit)=>(show Option (Lr Unit Unit Int)from
   gz e9.aJ (fun(CR:Nat) jc (gL:Unit)=>(show Option (Lr Unit Unit Int)from
     (tq (fU a0) (jB a0 jc.key)).bind fun mO=>
     if(!mO.2)=true then
      some (.ret 8)
     else
     (Ah a1 jc.key jc.value).bind fun fA=>
     if ¬(fA.2=0)then
      some (.ret fA.2)
     else
     some (.go ()))) (fun gL=>some ()) () (fun rO=>
    some (.go ())) (fun rO=>
    some (.ret rO)))) (fun s3=>some ()) () (fun b4=>
  some 0) (fun b4=>
  some b4)
theorem S9 {a0:bu} {a1:(List bO)} {a2:(List aO)} {σ:Heap} {r:Int} (h:Fl a0 a1 a2=some r):Fi [(U.agg (aP a0)),(sl 3 eB a1),(sl 11 aM a2)] σ=some ((U.int .i64 r),σ):=by
 refine Ak (f:=ML) (y0:=(U.agg (aP a0))) (y1:=(sl 3 eB a1)) (y2:=(sl 11 aM a2)) (enc:=fun r:Int=>(U.int .i64 r)) (T:=Fl a0 a1 a2) (bH (oH (bH (gR (fun _=>(bH rfl (bH rfl (bH (gR (fun _=>rfl) _) kE)))) _) (bH rfl kE))) (bH (gR (fun _=>rfl) _) (bH (gR (fun _=>rfl) _) rfl))) rfl ?_ r h
 unfold ML Fl
 refine ak _ rfl<|ak _ rfl ?_
 refine iq (fun r1:Int=>((U.int .i64 r1),σ)) (fun r1 j0=>abt j0) (fun r1 j0=>?_)
 refine ak _ (gB _ _ _) ?_
 refine gU (p:=¬(r1=0)) (fun eH=>?_) (fun eH=>?_)
 ·exact cq _ (bK _ _) ⟨rfl,rfl⟩
 refine iq (fun r2:Int=>((U.int .i64 r2),σ)) (fun r2 sP=>S8 sP) (fun r2 sP=>?_)
 refine ak _ (gB _ _ _) ?_
 refine gU (p:=¬(r2=0)) (fun iV=>?_) (fun iV=>?_)
 ·exact cq _ (bK _ _) ⟨rfl,rfl⟩
 refine ak _ (cu _ _ _) ?_
 refine jj (B:=Unit) (R:=Int) (fun(rV:Nat) (s3:Unit) v w5=>∃u6,v=[(U.lbx (aP a0)),u6,(U.int .i64 (rV:Int))]∧σ=w5) (fun(b4:Unit) (q:LS)=>∃u3 u6 Ia,q=((AX.exit 0),([u3,u6,Ia]:List U),σ)) (fun(b4:Int) (q:LS)=>∃u3 Ia,q=(AX.ret,([u3,(U.int .i64 b4),Ia]:List U),σ)) ?_ ?_ ⟨_,rfl,rfl⟩ ?_ ?_
 ·intro Ch rV e9 s3 v w5 rU hI
  obtain⟨u6,rfl,rfl⟩:=hI
  refine ak _ (eR rU)<|jo<|ak _ (dR rU)<|ak _ rfl<|ak _ rfl<|ak _ (yF _ _ rfl)<|ak (sl 8 aF e9.aJ) rfl<|ak _ (cu _ _ _) ?_
  refine jj (B:=Unit) (R:=Int) (fun(CR:Nat) (gL:Unit) v C1=>∃u6,v=[(U.lbx (aP a0)),u6,(U.int .i64 (CR:Int))]∧σ=C1) (fun(rO:Unit) (q:LS)=>∃u6 Bl,q=((AX.exit 2),([(U.lbx (aP a0)),u6,Bl]:List U),σ)) (fun(rO:Int) (q:LS)=>∃u3 Bl,q=(AX.ret,([u3,(U.int .i64 rO),Bl]:List U),σ)) ?_ ?_ ⟨_,rfl,rfl⟩ ?_ ?_
  ·intro Qk CR jc gL v C1 Ce hI
   obtain⟨u6,rfl,rfl⟩:=hI
   refine ak _ (eR Ce)<|jo<|ak _ (dR Ce)<|ak _ rfl<|ak _ rfl<|ak _ (sx _ _ rfl)<|ak _ rfl<|ak _ rfl ?_
   refine iq (fun mO:(dI×Bool)=>((U.aL [(U.agg (cm mO.1)),(U.bool mO.2)]),σ)) (fun mO YN=>(p5 (e:=fun r:(dI×Bool)=>((U.aL [(U.agg (cm r.1)),(U.bool r.2)]),σ)) (fun hs=>Fv a0 hs jc.key σ)) YN) (fun mO YN=>?_)
   refine ak _ rfl<|ak _ rfl<|ak _ rfl<|ak _ (kD _ _ rfl)<|ak _ rfl ?_
   refine fJ (c:=(!mO.2)) (fun lK=>?_) (fun lK=>?_)
   ·exact bn (ey (by simp) ⟨_,_,rfl⟩)
   refine ak _ rfl<|ak _ rfl ?_
   refine iq (fun fA:(Int×Int)=>((U.aL [(U.int .i64 fA.1),(U.int .i64 fA.2)]),σ)) (fun fA GN=>Uc GN) (fun fA GN=>?_)
   refine ak _ rfl<|ak _ rfl<|ak _ (gB _ _ _) ?_
   refine gU (p:=¬(fA.2=0)) (fun iu=>?_) (fun iu=>?_)
   ·exact bn (ey (by simp) ⟨_,_,rfl⟩)
   refine ak _ (dB Ce Qk) ?_
   exact bn (iH ⟨_,rfl,rfl⟩)
  ·intro hl gL v C1 hI
   obtain⟨u6,rfl,rfl⟩:=hI
   refine ak _ (eO _)<|jm ?_
   exact bn ⟨by simp,⟨_,_,rfl⟩⟩
  ·intro hl rO q hq
   obtain⟨u6,Bl,rfl⟩:=hq
   refine dS rfl<|ak _ (dB rU Ch) ?_
   exact bn (iH ⟨_,rfl,rfl⟩)
  ·intro hl rO q hq
   obtain⟨u3,Bl,rfl⟩:=hq
   refine mm rfl<|dS rfl ?_
   exact bn (ey (by simp) ⟨_,_,rfl⟩)
 ·intro hl s3 v w5 hI
  obtain⟨u6,rfl,rfl⟩:=hI
  refine ak _ (eO _)<|jm ?_
  exact bn ⟨by simp,⟨_,_,_,rfl⟩⟩
 ·intro hl b4 q hq
  obtain⟨u3,u6,Ia,rfl⟩:=hq
  refine dS rfl ?_
  exact cq _ (bK _ _) ⟨rfl,rfl⟩
 ·intro hl b4 q hq
  obtain⟨u3,Ia,rfl⟩:=hq
  refine mm rfl<|dS rfl ?_
  exact cq _ (bK _ _) ⟨rfl,rfl⟩
end
section
section
variable {κ ν : Type} [DecidableEq κ]
theorem UF (k a:κ) (v:ν):∀(l:List (κ×ν)),cr k (gf a v l)=if k=a then some v else cr k l
 |[]=>by simp [gf,cr]
 |(b,w)::l=>by
  rw[gf]
  by_cases h:a=b
  ·subst h
   rw[if_pos rfl,cr,cr]
   split<;>rfl
  ·rw[if_neg h,cr,cr,UF k a v l]
   by_cases h2:k=b
   ·subst h2;rw[if_pos rfl,if_pos rfl,if_neg (fun e=>h e.symm)]
   ·rw[if_neg h2,if_neg h2]
theorem OB (k:κ):∀(l:List κ) (s:List (κ×Bool)),(cr k (l.foldl (fun s x=>gf x true s) s)).getD false=(decide (k∈l)||(cr k s).getD false)
 |[],s=>by simp
 |x::l,s=>by
  rw[List.foldl_cons,OB k l,UF]
  by_cases h:k=x
  ·simp [h]
  ·simp [h]
end
theorem adV {l:List Int} {n:Int} (h:l.Pairwise (·<·)) (k:A8 l n=false):(l++[n]).Pairwise (·<·):=by
 rw[List.pairwise_append]
 refine⟨h,by simp,fun a ha b hb=>?_⟩
 simp at hb
 subst hb
 unfold A8 at k
 cases hl:l.getLast? with
 |none=>rw[List.getLast?_eq_none_iff]at hl;subst hl;simp at ha
 |some m=>
  rw[hl]at k
  simp at k
  obtain⟨ys,rfl⟩:=List.getLast?_eq_some_iff.1 hl
  rw[List.pairwise_append]at h
  rcases List.mem_append.1 ha with ha|ha
  ·have:=h.2.2 a ha m (by simp);omega
  ·simp at ha;omega
theorem TJ {gC:List bV}:∀(rest pre:List bX),xJ gC pre rest=0→(pre.map (·.number)).Pairwise (·<·)→((pre++rest).map (·.number)).Pairwise (·<·)
 |[],pre,_,h=>by simpa using h
 |u::rest,pre,hc,h=>by
  rw[xJ]at hc
  split at hc
  ·cases hc
  split at hc
  ·cases hc
  rename_i ho
  split at hc
  ·cases hc
  split at hc
  ·cases hc
  split at hc
  ·cases hc
  have:=TJ rest (pre++[u]) hc (by rw[List.map_append];exact adV h (by simpa using ho))
  simpa using this
theorem DB {r:bu} (h:dO r=0):(r.units.map (·.number)).Pairwise (·<·):=by
 unfold dO at h
 split at h
 ·split at h
  ·cases h
  ·simpa using TJ r.units [] h (by simp)
 ·rename_i h2;exact absurd h h2
theorem aeI (p:bV) (nm:ByteArray):(tC p nm).2=true↔∃x∈p.params,x.name=nm:=by
 unfold tC
 cases h:p.params.find? fun x=>decide (x.name=nm)with
 |none=>
  simp only[Option.elim_none,Bool.false_eq_true,false_iff]
  rintro⟨x,hx,e⟩
  have:=List.find?_eq_none.1 h x hx
  simp [e]at this
 |some x=>
  simp only[Option.elim_some,true_iff]
  exact⟨x,List.mem_of_find?_eq_some h,by simpa using List.find?_some h⟩
theorem Vs {l:List bX} (h:(l.map (·.number)).Pairwise (·<·)) {u v:bX} (hu:u∈l) (hv:v∈l) (e:u.number=v.number):u=v:=by
 induction l with
 |nil=>simp at hu
 |cons x l ih=>
  rw[List.map_cons,List.pairwise_cons]at h
  rcases List.mem_cons.1 hu with HJ|HJ<;>rcases List.mem_cons.1 hv with HK|HK
  ·rw[HJ,HK]
  ·have:=h.1 v.number (List.mem_map.2 ⟨v,HK,rfl⟩);rw[←HJ]at this;omega
  ·have:=h.1 u.number (List.mem_map.2 ⟨u,HJ,rfl⟩);rw[←HK]at this;omega
  ·exact ih h.2 HJ HK
def uU (r:bu) (k:aA):Bool:=(jB r k).2
theorem OQ {r:bu} (h:dO r=0) (k:aA):uU r k=decide (k∈jI r):=by
 rw[Bool.eq_iff_iff,decide_eq_true_iff]
 unfold uU jB jI
 rw[List.mem_flatMap]
 cases hf:r.units.find? fun u=>decide (u.number=k.unit)with
 |none=>
  simp only[Option.elim_none,Bool.false_eq_true,false_iff]
  rintro⟨u,hu,hk⟩
  obtain⟨x,_,rfl⟩:=List.mem_map.1 hk
  have:=List.find?_eq_none.1 hf u hu
  simp at this
 |some u=>
  have hu:=List.mem_of_find?_eq_some hf
  have hn:u.number=k.unit:=by simpa using List.find?_some hf
  simp only[Option.elim_some,aeI]
  constructor
  ·rintro⟨x,hx,e⟩
   exact⟨u,hu,List.mem_map.2 ⟨x,hx,by rw[hn,e]⟩⟩
  ·rintro⟨v,hv,hk⟩
   obtain⟨x,hx,rfl⟩:=List.mem_map.1 hk
   obtain rfl:=Vs (DB h) hu hv hn
   exact⟨x,hx,rfl⟩
theorem FU {r:bu} (h:dO r=0):(jI r).length≤16000:=by
 have h1:=Nn h r.units
 have h2:=uC h
 show(r.units.flatMap (lz r.bz)).length≤_
 omega
theorem BH {α:Type} {p:Prop} [Decidable p] (a b:α):(if p then some a else some b)=some (if p then a else b):=by split<;>rfl
theorem FJ {α β:Type} {p:Prop} [Decidable p] (a b:α) (f:α→Option β):(if p then some a else some b).bind f=f (if p then a else b):=by split<;>rfl
theorem before_eq (a b:aA):Dr a b=some (dZ a b):=by
 unfold Dr dZ
 by_cases h:a.unit=b.unit
 ·simp [h,Kj,Pf]
 ·by_cases h2:a.unit<b.unit<;>simp [h,h2]
theorem compare_eq (a b:aA):Br a b=some (rG a b):=by
 unfold Br rG
 by_cases h:a.unit=b.unit
 ·simp [h]
 ·by_cases h2:a.unit<b.unit<;>simp [h,h2]
def Em (has:aA→Bool) (l:List bW) (i:Nat) (x:bW):Int:=
 if(!has x.key)=true then 8
 else if(!(aU x.level 0 65535))=true then 1
 else if(decide (0<(i:Int))&&!dZ (pv l i).key x.key)=true then 7 else 0
def D8 (has:aA→Bool) (l:List bO) (i:Nat) (p:bO):Int:=
 if(!(aU p.number 1 999))=true then 1
 else if(decide (0<(i:Int))&&decide (p.number≤(pv l i).number))=true then 7
 else if(!(BR p.title))=true then 3
 else if 2000<(p.iY.length:Int)then 2
 else i6 (Em has p.iY) p.iY 0
def oV (r:bu) (l:List bO):Int:=
 if ¬(dO r=0)then dO r else if 200<(l.length:Int)then 2 else i6 (D8 (uU r) l) l 0
theorem acL (c:Bool) (a b:aA):(c&&!(if c=true then dZ a b else(default:Bool)))=(c&&!dZ a b):=by cases c<;>rfl
theorem afC (c:Bool) (a b:aA):(c&&decide (0≤(if c=true then rG a b else(default:Int))))=(c&&!dZ a b):=by
 cases c
 ·rfl
 ·simp only[if_true,Bool.true_and];exact ahA a b
theorem Ns (s:ByteArray):(decide (¬(s=(⟨#[]⟩:ByteArray)))&&!(if decide (¬(s=(⟨#[]⟩:ByteArray)))=true then xB s else(default:Bool)))=!BR s:=by
 unfold BR
 by_cases h:s=⟨#[]⟩<;>simp [h]
theorem abX (r:bu) (l:List bO) (hr:fU r) (hl:cH mV l):Df r l=some (oV r l):=by
 unfold Df oV
 simp only[qH hr,Option.bind_some]
 rw[qH (by show 2≤aY;unfold aY;omega)]
 simp only[Yb,Option.bind_some]
 by_cases h0:dO r=0
 case neg=>simp [h0]
 by_cases h1:200<(l.length:Int)
 ·simp [h0,h1]
 have hk:DE r=some ((jI r).foldl (fun s x=>gf x true s) []):=by
  unfold DE
  have:=FU h0
  simp only[qH hr,Option.bind_some,h0,if_true]
  rw[yy (fun s x=>gf x true s) (fun _ _=>True) (by unfold aY;omega) trivial (fun _ _ _ _ _=>trivial) (fun _ _ _ _ _=>rfl)]
  rfl
 simp only[h0,h1,not_true_eq_false,if_false,decide_false,Bool.false_eq_true,hk,Option.bind_some]
 have has:∀k,(cr k ((jI r).foldl (fun s x=>gf x true s) [])).getD false=uU r k:=by
  intro k;rw[OB,OQ h0];simp [cr]
 rw[wZ (f:=D8 (uU r) l) hl.1 ?_]
 ·split
  ·rename_i h;rw[h]
  ·rfl
 intro i p hp
 have HG:=hl.2 p (List.mem_of_getElem? hp)
 obtain⟨_,ht,hs⟩:=HG
 simp only[BP hp hl.1,Option.bind_some,qH ht,has]
 rw[wZ (f:=Em (uU r) p.iY) hs.1 ?_]
 ·unfold D8
  repeat first|exact J1 _|exact go_ret|refine BM (by decide) ?_
 intro j x hx
 simp only[BP hx hs.1,Option.bind_some,before_eq,FJ,acL]
 unfold Em
 repeat first|exact go_ret|refine BM (by decide) ?_
theorem abN (r:bu) (l:List bO) (hr:fU r) (hl:cH mV l):Dg r l=some (oV r l):=by
 unfold Dg oV
 simp only[qH hr,Option.bind_some]
 by_cases h0:dO r=0
 case neg=>simp [h0]
 by_cases h1:200<(l.length:Int)
 ·simp [h0,h1]
 simp only[h0,h1,not_true_eq_false,if_false]
 rw[wZ (f:=D8 (uU r) l) hl.1 ?_]
 ·split
  ·rename_i h;rw[h]
  ·rfl
 intro i p hp
 have HG:=hl.2 p (List.mem_of_getElem? hp)
 obtain⟨_,ht,hs⟩:=HG
 simp only[BP hp hl.1,Option.bind_some,qH ht,FJ,Ns]
 rw[wZ (f:=Em (uU r) p.iY) hs.1 ?_]
 ·unfold D8
  repeat first|exact J1 _|exact go_ret|refine BM (by decide) ?_
 intro j x hx
 simp only[BP hx hs.1,Option.bind_some]
 unfold Em dZ uU
 repeat first|exact go_ret|refine BM (by decide) ?_
def OZ (l:List bO) (n:Int):bO×Bool:=match l.find? fun p=>decide (p.number=n)with|some p=>(p,true)|none=>(⟨0,⟨#[]⟩,[]⟩,false)
def Ao (l:List bO) (k:aA) (v:iG):Int×Int:=
 if(decide (¬(v.level=0))&&decide (¬(v.dz=0)))=true then(0,3)
 else if(!(aU v.level 0 65535))=true then(0,1)
 else if v.dz=0 then(v.level,0)
 else match l.find? fun p=>decide (p.number=v.dz)with
  |none=>(0,8)
  |some p=>match p.iY.find? fun s=>decide (s.key=k)with|none=>(0,8)|some s=>(s.level,0)
theorem ad9 (l:List bO) (hl:l.length≤aY) (n:Int):Dq l n=some (OZ l n):=by
 unfold Dq OZ
 rw[DN (p:=fun p=>decide (p.number=n)) (r:=fun p=>(p,true)) hl (by intro i x _;simp only[decide_eq_true_eq,BH])]
 cases l.find? fun p=>decide (p.number=n)<;>rfl
theorem Vw (l:List bO) (hl:cH mV l) (k:aA) (v:iG):Ah l k v=some (Ao l k v):=by
 unfold Ah Ao
 simp only[ad9 l hl.1,Option.bind_some]
 split
 ·rfl
 split
 ·rfl
 split
 ·rfl
 unfold OZ
 cases hf:l.find? fun p=>decide (p.number=v.dz)with
 |none=>rfl
 |some p=>
  have hp:=hl.2 p (List.mem_of_find?_eq_some hf)
  simp only[Bool.not_true,Bool.false_eq_true,if_false]
  rw[DN (p:=fun s=>decide (s.key=k)) (r:=fun s=>s.level) hp.2.2.1 (by intro i x _;simp only[decide_eq_true_eq,BH])]
  cases p.iY.find? fun s=>decide (s.key=k)<;>rfl
theorem aen {α γ R:Type} {p:α→Bool} {l:List α} {body:Nat→α→Unit→Option (Lr Unit Unit R)} {r:α→Option R} {fin:Unit→Option Unit} {s:Unit} {K1:Unit→Option γ} {K2:R→Option γ} (hl:l.length≤aY) (hb:∀i x,l[i]? =some x→body i x ()=if p x=true then some (match r x with|some q=>.ret q|none=>.brk ())else some (.go ())) (hf:fin ()=some ():=by rfl):gz l body fin s K1 K2=match l.find? p with|some x=>(match r x with|some q=>K2 q|none=>K1 ())|none=>K1 ():=by
 rw[BL hl]
 have key:∀(rest pre:List α),l=pre++rest→kM body fin rest pre.length ()=some (match rest.find? p with|some x=>(match r x with|some q=>.inr q|none=>.inl ())|none=>.inl ()):=by
  intro rest
  induction rest with
  |nil=>intro pre _;simp [kM,hf]
  |cons x rest ih=>
   intro pre hp
   rw[kM,hb pre.length x (by rw[hp];simp),List.find?_cons]
   cases h:p x
   ·simp only[Bool.false_eq_true,if_false,Option.bind_some]
    have:=ih (pre++[x]) (by simpa using hp)
    simpa using this
   ·simp only[if_true,Option.bind_some]
    cases r x<;>rfl
 have k:=key l [] rfl
 rw[List.length_nil]at k
 rw[show s=()from rfl,k,Option.bind_some]
 cases l.find? p with
 |none=>rfl
 |some x=>
  simp only
  cases r x<;>rfl
theorem Ws (l:List bO) (hl:cH mV l) (k:aA) (v:iG):Ab l k v=some (Ao l k v):=by
 unfold Ab Ao
 split
 ·rfl
 split
 ·rfl
 split
 ·rfl
 rw[aen (p:=fun p=>decide (p.number=v.dz)) (r:=fun p=>(p.iY.find? fun s=>decide (s.key=k)).map (·.level)) hl.1 ?_]
 ·cases hf:l.find? fun p=>decide (p.number=v.dz)with
  |none=>rfl
  |some p=>
   simp only
   cases p.iY.find? fun s=>decide (s.key=k)<;>rfl
 intro i p hp
 have HG:=hl.2 p (List.mem_of_getElem? hp)
 by_cases hn:p.number=v.dz
 ·simp only[hn,not_true_eq_false,if_false,decide_true,if_true]
  rw[DN (p:=fun s=>decide (s.key=k)) (r:=fun s=>s.level) HG.2.2.1 (by intro i x _;simp only[decide_eq_true_eq,BH])]
  cases p.iY.find? fun s=>decide (s.key=k)<;>rfl
 ·simp [hn]
def AL (l:List aS) (i:Nat) (m:aS):Int:=
 if(!(aU m.key.unit 1 9999))=true then 1
 else if(!(nT m.key.param))=true then 5
 else if((m.release&&(decide (¬(m.value=(⟨0,0⟩:iG)))))||((decide (¬(m.value.level=0)))&&(decide (¬(m.value.dz=0)))))=true then 3
 else if((!(aU m.value.level 0 65535))||(!(aU m.value.dz 0 999)))=true then 1
 else if((!m.yR)&&((decide (¬(m.delay=0)))||(decide (¬(m.time=0)))))=true then 3
 else if((!(aU m.delay 0 36000000))||(!(aU m.time 0 36000000)))=true then 1
 else if(decide (0<(i:Int))&&!dZ (pv l i).key m.key)=true then 7 else 0
def AD (l:List aS):Int:=i6 (AL l) l 0
theorem acK (l:List aS) (hl:cH tv l):Dh l=some (AD l):=by
 unfold Dh AD
 rw[wZ (f:=AL l) hl.1 ?_]
 ·split
  ·rename_i h;rw[h]
  ·rfl
 intro i m hm
 have hmm:=hl.2 m (List.mem_of_getElem? hm)
 simp only[BP hm hl.1,Option.bind_some,qH hmm.1.2,compare_eq,FJ,afC]
 unfold AL
 repeat first|exact go_ret|refine BM (by decide) ?_
theorem acJ (l:List aS) (hl:cH tv l) (i:Nat) (m:aS) (hm:l[i]? =some m):Dm m (l.take i)=some (AL l i m):=by
 have hmm:=hl.2 m (List.mem_of_getElem? hm)
 have hi:=(List.getElem?_eq_some_iff.1 hm).1
 have e:((l.take i).length:Int)=(i:Int):=by simp;omega
 unfold Dm AL
 simp only[qH hmm.1.2,Option.bind_some]
 have:=ah0 hm hl.1
 rw[e]at this
 simp only[e,this,Option.bind_some,BH]
 rfl
theorem aci (l:List aS) (hl:cH tv l):Di l=some (if 2000<(l.length:Int)then 2 else AD l):=by
 unfold Di AD
 split
 ·rfl
 rw[wZ (f:=AL l) hl.1 ?_]
 ·split
  ·rename_i h;rw[h]
  ·rfl
 intro i m hm
 have hi:=(List.getElem?_eq_some_iff.1 hm).1
 simp only[aiM (Nat.le_of_lt hi),Option.bind_some,acJ l hl i m hm]
 by_cases h:AL l i m=0<;>simp [h]
def sE (l:List aO) (i:Nat) (c:aO):Int:=
 if(!(aU c.number 1 9999999))=true then 1
 else if(decide (0<(i:Int))&&decide (c.number≤(pv l i).number))=true then 7
 else if(!(BR c.title))=true then 3
 else if(((((!(aU c.delay 0 36000000))||(!(aU c.up 0 36000000)))||(!(aU c.down 0 36000000)))||(!(aU c.other 0 36000000)))||(!(aU c.follow (-1) 36000000)))=true then 1
 else if ¬(sy c.dg=0)then sy c.dg
 else if 2000<(c.aJ.length:Int)then 2
 else AD c.aJ
def Gq (l:List aO):Int:=l.foldl (fun s c=>IntKind.i64.wrap (s+(c.aJ.length:Int))) 0
def lV (l:List aO):Int:=
 if 300<(l.length:Int)then 2 else if ¬(i6 (sE l) l 0=0)then i6 (sE l) l 0 else if 10000<Gq l then 2 else 0
theorem UO {α γ S B:Type} {f:Nat→α→Int} {g:S→α→S} {l:List α} {body:Nat→α→S→Option (Lr S B Int)} {fin:S→Option B} {s:S} {K1:B→Option γ} {K2:Int→Option γ} (hl:l.length≤aY) (hb:∀i x s,l[i]? =some x→body i x s=some (if f i x=0 then .go (g s x)else .ret (f i x))):gz l body fin s K1 K2=if i6 f l 0=0 then(fin (l.foldl g s)).bind K1 else K2 (i6 f l 0):=by
 rw[BL hl]
 have key:∀(rest pre:List α) (s:S),l=pre++rest→kM body fin rest pre.length s=if i6 f rest pre.length=0 then(fin (rest.foldl g s)).map .inl else some (.inr (i6 f rest pre.length)):=by
  intro rest
  induction rest with
  |nil=>intro pre s _;simp [kM,i6]
  |cons x rest ih=>
   intro pre s hp
   rw[kM,hb pre.length x s (by rw[hp];simp),Option.bind_some,i6]
   by_cases h:f pre.length x=0
   ·simp only[h,if_true]
    have:=ih (pre++[x]) (g s x) (by simpa using hp)
    simpa using this
   ·simp only[h,if_false]
 have k:=key l [] s rfl
 rw[List.length_nil]at k
 rw[k]
 split
 ·cases fin (l.foldl g s)<;>rfl
 ·rfl
theorem VW {S B:Type} {p:Prop} [Decidable p] {k f:Int} {t:S} {Y:Option (Lr S B Int)} (hk:k≠0) (h:Y=some (if f=0 then .go t else .ret f)):(if p then some (.ret k)else Y)=some (if(if p then k else f)=0 then .go t else .ret (if p then k else f)):=by
 by_cases hp:p
 ·simp [hp,hk]
 ·simp [hp,h]
theorem UU {S B:Type} {k f:Int} {t:S} {Y:Option (Lr S B Int)} (h:Y=some (if f=0 then .go t else .ret f)):(if ¬(k=0)then some (.ret k)else Y)=some (if(if ¬(k=0)then k else f)=0 then .go t else .ret (if ¬(k=0)then k else f)):=by
 by_cases hp:k=0
 ·simp [hp,h]
 ·simp [hp]
theorem JM {S B:Type} {k:Int} {t:S}:(if ¬(k=0)then some (.ret k)else some (.go t):Option (Lr S B Int))=some (if k=0 then .go t else .ret k):=by
 by_cases hp:k=0<;>simp [hp]
theorem Xm (l:List aO) (hl:cH lX l):DL l=some (lV l):=by
 unfold DL lV
 split
 ·rfl
 rw[UO (f:=sE l) (g:=fun s c=>IntKind.i64.wrap (s+(c.aJ.length:Int))) hl.1 ?_]
 ·show(if i6 (sE l) l 0=0 then some (if decide (10000<Gq l)=true then(2:Int)else 0)else some (i6 (sE l) l 0))=_
  by_cases h:i6 (sE l) l 0=0
  ·by_cases h2:10000<Gq l<;>simp [h,h2]
  ·simp [h]
 intro i c s hc
 obtain⟨_,ht,_,_,_,_,_,_,hm⟩:=hl.2 c (List.mem_of_getElem? hc)
 simp only[BP hc hl.1,Option.bind_some,qH ht,acK _ hm,FJ,Ns]
 unfold sE
 repeat first|exact JM|refine VW (by decide) ?_|refine UU ?_
theorem Tm (l:List aO) (hl:cH lX l):Dl l=some (lV l):=by
 unfold Dl lV
 split
 ·rfl
 rw[UO (f:=sE l) (g:=fun s c=>IntKind.i64.wrap (s+(c.aJ.length:Int))) hl.1 ?_]
 ·show(if i6 (sE l) l 0=0 then(if 10000<Gq l then some (2:Int)else some 0)else some (i6 (sE l) l 0))=_
  by_cases h:i6 (sE l) l 0=0
  ·by_cases h2:10000<Gq l<;>simp [h,h2]
  ·simp [h]
 intro i c s hc
 obtain⟨_,ht,_,_,_,_,_,_,hm⟩:=hl.2 c (List.mem_of_getElem? hc)
 simp only[BP hc hl.1,Option.bind_some,qH ht,aci _ hm,FJ,Ns]
 unfold sE
 repeat first|exact JM|refine VW (by decide) ?_|refine UU ?_
def Co (r:bu) (au:List bO) (m:aS):Int:=
 if(!uU r m.key)=true then 8 else(Ao au m.key m.value).2
def Gt (r:bu) (au:List bO) (l:List aO):Int:=i6 (fun _ c=>i6 (fun _ m=>Co r au m) c.aJ 0) l 0
def jT (r:bu) (au:List bO) (l:List aO):Int:=
 if ¬(oV r au=0)then oV r au else if ¬(lV l=0)then lV l else Gt r au l
theorem Tu {r:bu} {l:List bO} (h:oV r l=0):dO r=0:=by
 unfold oV at h
 by_cases h0:dO r=0
 ·exact h0
 ·rw[if_pos h0]at h;exact h
theorem TT {c:aO} (h:lX c):cH tv c.aJ:=by
 obtain⟨_,_,_,_,_,_,_,_,hm⟩:=h;exact hm
theorem TE (r:bu) (au:List bO) (l:List aO) (hr:fU r) (hp:cH mV au) (hl:cH lX l):Fh r au l=some (jT r au l):=by
 unfold Fh jT
 simp only[abX r au hr hp,Xm l hl,Option.bind_some]
 rw[qH (by show 2≤aY;unfold aY;omega)]
 simp only[Yb,Option.bind_some]
 by_cases h0:oV r au=0
 case neg=>simp [h0]
 by_cases h1:lV l=0
 case neg=>simp [h0,h1]
 have dP:=Tu h0
 have rj:=FU dP
 simp only[h0,h1,not_true_eq_false,if_false,qH hr,Option.bind_some,dP,if_true]
 rw[yy (fun s x=>gf x true s) (fun _ _=>True) (by unfold aY;omega) trivial (fun _ _ _ _ _=>trivial) (fun _ _ _ _ _=>rfl)]
 simp only[Option.bind_some]
 have has:∀k,(cr k ((jI r).foldl (fun s x=>gf x true s) [])).getD false=uU r k:=by
  intro k;rw[OB,OQ dP];simp [cr]
 rw[wZ (f:=fun _ c=>i6 (fun _ m=>Co r au m) c.aJ 0) hl.1 ?_]
 ·show(if Gt r au l=0 then some (0:Int)else some (Gt r au l))=_
  split
  ·rename_i h;rw[h]
  ·rfl
 intro i c hc
 rw[wZ (f:=fun _ m=>Co r au m) (TT (hl.2 c (List.mem_of_getElem? hc))).1 ?_]
 ·exact J1 _
 intro j m hm
 simp only[has,Ws au hp,Option.bind_some]
 unfold Co
 repeat first|exact JM|refine BM (by decide) ?_
theorem Tn (r:bu) (au:List bO) (l:List aO) (hr:fU r) (hp:cH mV au) (hl:cH lX l):Fl r au l=some (jT r au l):=by
 unfold Fl jT
 simp only[abN r au hr hp,Tm l hl,Option.bind_some]
 by_cases h0:oV r au=0
 case neg=>simp [h0]
 by_cases h1:lV l=0
 case neg=>simp [h0,h1]
 simp only[h0,h1,not_true_eq_false,if_false]
 rw[wZ (f:=fun _ c=>i6 (fun _ m=>Co r au m) c.aJ 0) hl.1 ?_]
 ·show(if Gt r au l=0 then some (0:Int)else some (Gt r au l))=_
  split
  ·rename_i h;rw[h]
  ·rfl
 intro i c hc
 rw[wZ (f:=fun _ m=>Co r au m) (TT (hl.2 c (List.mem_of_getElem? hc))).1 ?_]
 ·exact J1 _
 intro j m hm
 simp only[qH hr,Vw au hp,Option.bind_some]
 unfold Co uU
 repeat first|exact JM|refine BM (by decide) ?_
end
section
set_option maxRecDepth 100000
noncomputable def MI (a0:aO) (a1:Int):Option Int:=
 some (IntKind.i64.wrap (a0.number-a1))
theorem abQ {a0:aO} {a1:Int} {σ:Heap} {r:Int} (h:MI a0 a1=some r):Bq [(U.agg (aM a0)),(U.int .i64 a1)] σ=some ((U.int .i64 r),σ):=by
 refine oo (f:=MH) (y0:=(U.agg (aM a0))) (y1:=(U.int .i64 a1)) (enc:=fun r:Int=>(U.int .i64 r)) (T:=MI a0 a1) (bH (oH rfl) rfl) rfl ?_ r h
 unfold MH MI
 refine ak _ rfl<|ak _ rfl<|ak _ rfl ?_
 exact cq _ (bK _ _) ⟨rfl,rfl⟩
noncomputable def IV (a0:aS) (a1:aA):Option Int:=
 (Br a0.key a1).bind fun r1=>
 some r1
theorem abH {a0:aS} {a1:aA} {σ:Heap} {r:Int} (h:IV a0 a1=some r):Fe [(U.agg (aF a0)),(U.agg (aK a1))] σ=some ((U.int .i64 r),σ):=by
 refine oo (f:=My) (y0:=(U.agg (aF a0))) (y1:=(U.agg (aK a1))) (enc:=fun r:Int=>(U.int .i64 r)) (T:=IV a0 a1) rfl rfl ?_ r h
 unfold My IV
 refine ak _ rfl<|ak _ rfl<|ak _ rfl<|ak _ rfl ?_
 refine iq (fun r1:Int=>((U.int .i64 r1),σ)) (fun r1 j0=>Ti j0) (fun r1 j0=>?_)
 exact cq _ (bK _ _) ⟨rfl,rfl⟩
noncomputable def FD (a0:(List aO)):Option (List (aA×bJ)):=
 gz a0 (fun(rV:Nat) e9 (s3:(List (aA×bJ)))=>(show Option (Lr (List (aA×bJ)) (List (aA×bJ)) Unit)from
   gz e9.aJ (fun(CR:Nat) jc (gL:(List (aA×bJ)))=>(show Option (Lr (List (aA×bJ)) (List (aA×bJ)) Unit)from
     (show Option (List (aA×bJ))from
       if jc.release=true then
        some (sK jc.key gL)
       else
       some (gf jc.key (⟨(⟨jc.key.unit,jc.key.param⟩:aA),(⟨jc.value.level,jc.value.dz⟩:iG),e9.number⟩:bJ) gL)).bind fun LF=>
     some (.go LF))) (fun gL=>some gL) s3 (fun rO=>
    some (.go rO)) (fun rO=>
    none))) (fun s3=>some s3) ([]:List (aA×bJ)) (fun b4=>
  some b4) (fun b4=>
  none)
theorem adq {a0:(List aO)} {σ:Heap} {r:(List (aA×bJ))} (h:FD a0=some r):Dz [(sl 11 aM a0)] σ=some ((uY (fun x=>(U.agg (aK x))) (fun x=>(U.agg (cz x))) r),σ):=by
 refine Aj (f:=NJ) (y0:=(sl 11 aM a0)) (enc:=fun r:(List (aA×bJ))=>(uY (fun x=>(U.agg (aK x))) (fun x=>(U.agg (cz x))) r)) (T:=FD a0) (bH (gR (fun _=>rfl) _) rfl) rfl ?_ r h
 unfold NJ FD
 have hp1:Hp σ σ []:=Ed σ
 have hp2:Hp σ (σ++[aV.map []]) [((U.om σ.length),(Ct.m (List.map (fun p=>((fun x=>(U.agg (aK x))) p.1,(fun x=>(U.agg (cz x))) p.2)) ([]:List (aA×bJ)))))]:=Qn hp1
 refine ak _ (cu _ _ _) ?_
 refine jj (B:=(List (aA×bJ))) (R:=Unit) (fun(rV:Nat) (s3:(List (aA×bJ))) v w5=>v=[(U.int .i64 (rV:Int))]∧Hp σ w5 [((U.om σ.length),(Ct.m (List.map (fun p=>((fun x=>(U.agg (aK x))) p.1,(fun x=>(U.agg (cz x))) p.2)) s3)))]) (fun(b4:(List (aA×bJ))) (q:LS)=>∃sV w6,q=((AX.exit 0),([sV]:List U),w6)∧Hp σ w6 [((U.om σ.length),(Ct.m (List.map (fun p=>((fun x=>(U.agg (aK x))) p.1,(fun x=>(U.agg (cz x))) p.2)) b4)))]) (fun(b4:Unit) (q:LS)=>False) ?_ ?_ ⟨rfl,hp2⟩ ?_ ?_
 ·intro Ch rV e9 s3 v w5 rU hI
  obtain⟨rfl,vX⟩:=hI
  refine ak _ (eR rU)<|jo<|ak _ (dR rU)<|ak _ rfl<|ak _ rfl<|ak _ (yF _ _ rfl)<|ak (sl 8 aF e9.aJ) rfl<|ak _ (cu _ _ _) ?_
  refine jj (B:=(List (aA×bJ))) (R:=Unit) (fun(CR:Nat) (gL:(List (aA×bJ))) v C1=>v=[(U.lbx (aM e9)),(U.int .i64 (CR:Int))]∧Hp σ C1 [((U.om σ.length),(Ct.m (List.map (fun p=>((fun x=>(U.agg (aK x))) p.1,(fun x=>(U.agg (cz x))) p.2)) gL)))]) (fun(rO:(List (aA×bJ))) (q:LS)=>∃u5 H7 wA,q=((AX.exit 2),([u5,H7]:List U),wA)∧Hp σ wA [((U.om σ.length),(Ct.m (List.map (fun p=>((fun x=>(U.agg (aK x))) p.1,(fun x=>(U.agg (cz x))) p.2)) rO)))]) (fun(rO:Unit) (q:LS)=>False) ?_ ?_ ⟨rfl,vX⟩ ?_ ?_
  ·intro Qk CR jc gL v C1 Ce hI
   obtain⟨rfl,Lk⟩:=hI
   refine ak _ (eR Ce)<|jo<|ak _ (dR Ce)<|ak _ rfl<|ak _ rfl<|ak _ (sx _ _ rfl)<|ak _ rfl ?_
   refine Rg (ω:=(List (aA×bJ))) (fun LF a=>∃SF,a=(([(U.lbx (aM e9))]:List U),SF)∧Hp σ SF [((U.om σ.length),(Ct.m (List.map (fun p=>((fun x=>(U.agg (aK x))) p.1,(fun x=>(U.agg (cz x))) p.2)) LF)))]) (
     by
      refine fJ (c:=jc.release) (fun jq=>?_) (fun jq=>?_)
      ·refine ak _ rfl ?_
       obtain⟨C2,e21,YL⟩:=ahR (ek:=(.s [0,2])) (eK:=(fun x=>(U.agg (aK x)))) (eV:=(fun x=>(U.agg (cz x)))) Lk 0 rfl yD jc.key rfl
       change Hp σ C2 [((U.om σ.length),(Ct.m (List.map (fun p=>((fun x=>(U.agg (aK x))) p.1,(fun x=>(U.agg (cz x))) p.2)) (sK jc.key gL))))]at YL
       refine ak C2 e21 ?_
       exact bn ⟨_,rfl,YL⟩
      refine ak _ rfl<|ak _ rfl<|ak _ rfl<|ak _ rfl<|ak _ rfl<|ak (U.agg (cz (⟨(⟨jc.key.unit,jc.key.param⟩:aA),(⟨jc.value.level,jc.value.dz⟩:iG),e9.number⟩:bJ))) rfl ?_
      obtain⟨ZZ,Hg,Ew⟩:=Pt (ek:=(.s [0,2])) (eK:=(fun x=>(U.agg (aK x)))) (eV:=(fun x=>(U.agg (cz x)))) Lk 0 rfl yD jc.key (⟨(⟨jc.key.unit,jc.key.param⟩:aA),(⟨jc.value.level,jc.value.dz⟩:iG),e9.number⟩:bJ) rfl
      change Hp σ ZZ [((U.om σ.length),(Ct.m (List.map (fun p=>((fun x=>(U.agg (aK x))) p.1,(fun x=>(U.agg (cz x))) p.2)) (gf jc.key (⟨(⟨jc.key.unit,jc.key.param⟩:aA),(⟨jc.value.level,jc.value.dz⟩:iG),e9.number⟩:bJ) gL))))]at Ew
      refine ak ZZ Hg ?_
      exact bn ⟨_,rfl,Ew⟩
     ) (fun LF a ha=>?_)
   obtain⟨SF,rfl,akN⟩:=ha
   refine ak _ (dB Ce Qk) ?_
   exact bn (iH ⟨rfl,akN⟩)
  ·intro hl gL v C1 hI
   obtain⟨rfl,Lk⟩:=hI
   refine ak _ (eO _)<|jm ?_
   exact bn ⟨by simp,⟨_,_,_,rfl,Lk⟩⟩
  ·intro hl rO q hq
   obtain⟨u5,H7,wA,rfl,A4⟩:=hq
   refine dS rfl<|ak _ (dB rU Ch) ?_
   exact bn (iH ⟨rfl,A4⟩)
  ·intro hl rO q hq
   exact False.elim hq
 ·intro hl s3 v w5 hI
  obtain⟨rfl,vX⟩:=hI
  refine ak _ (eO _)<|jm ?_
  exact bn ⟨by simp,⟨_,_,rfl,vX⟩⟩
 ·intro hl b4 q hq
  obtain⟨sV,w6,rfl,qq⟩:=hq
  refine dS rfl ?_
  exact cq _ (BU qq (Xp qq (k:=0) rfl (by intro p hp;obtain⟨x,_,rfl⟩:=List.mem_map.1 hp;exact⟨(pY (uI _)),(pY (JK _))⟩))) ⟨rfl,rfl⟩
 ·intro hl b4 q hq
  exact False.elim hq
noncomputable def Ga (a0:(List aO)) (a1:Int):Option Int:=
 gz a0 (fun(i8:Nat) e7 (s1:Unit)=>(show Option (Lr Unit Unit Int)from
   if e7.number=a1 then
    some (.ret (i8:Int))
   else
   some (.go ()))) (fun s1=>some ()) () (fun b2=>
  some (-1)) (fun b2=>
  some b2)
theorem ahQ {a0:(List aO)} {a1:Int} {σ:Heap} {r:Int} (h:Ga a0 a1=some r):D6 [(sl 11 aM a0),(U.int .i64 a1)] σ=some ((U.int .i64 r),σ):=by
 refine oo (f:=PG) (y0:=(sl 11 aM a0)) (y1:=(U.int .i64 a1)) (enc:=fun r:Int=>(U.int .i64 r)) (T:=Ga a0 a1) (bH (gR (fun _=>rfl) _) rfl) rfl ?_ r h
 unfold PG Ga
 refine ak _ (cu _ _ _) ?_
 refine jj (B:=Unit) (R:=Int) (fun(i8:Nat) (s1:Unit) v w3=>v=[ah,(U.int .i64 (i8:Int))]∧σ=w3) (fun(b2:Unit) (q:LS)=>∃u4 u9,q=((AX.exit 0),([u4,u9]:List U),σ)) (fun(b2:Int) (q:LS)=>∃u9,q=(AX.ret,([(U.int .i64 b2),u9]:List U),σ)) ?_ ?_ ⟨rfl,rfl⟩ ?_ ?_
 ·intro lD i8 e7 s1 v w3 eS hI
  obtain⟨rfl,rfl⟩:=hI
  refine ak _ (eR eS)<|jo<|ak _ (dR eS)<|ak _ rfl<|ak _ rfl<|ak _ (yF _ _ rfl)<|ak _ rfl<|ak _ (l5 _ _ _) ?_
  refine gU (p:=e7.number=a1) (fun c9=>?_) (fun c9=>?_)
  ·exact bn (ey (by simp) ⟨_,rfl⟩)
  refine ak _ (dB eS lD) ?_
  exact bn (iH ⟨rfl,rfl⟩)
 ·intro hl s1 v w3 hI
  obtain⟨rfl,rfl⟩:=hI
  refine ak _ (eO _)<|jm ?_
  exact bn ⟨by simp,⟨_,_,rfl⟩⟩
 ·intro hl b2 q hq
  obtain⟨u4,u9,rfl⟩:=hq
  refine dS rfl ?_
  exact cq _ (bK _ _) ⟨rfl,rfl⟩
 ·intro hl b2 q hq
  obtain⟨u9,rfl⟩:=hq
  refine mm rfl<|dS rfl ?_
  exact cq _ (bK _ _) ⟨rfl,rfl⟩
noncomputable def DK (a0:(List bJ)) (a1:aA):Option (Int×Bool):=
 E1 (fun(s1:Int)=>(show Option (Lr Int Int Unit)from
   (if decide (s1<(a0.length:Int))=true then kf a0 s1 else some default).bind fun x7=>
   if((decide (s1<(a0.length:Int)))&&(((decide (x7.key.unit<a1.unit))||((decide (x7.key.unit=a1.unit))&&(Op.bytesLess x7.key.param.toList a1.param.toList)))))=true then
    some (.go (IntKind.i64.wrap (s1+1)))
   else
   some (.brk s1))) 0 (fun b2=>
  (if decide (b2<(a0.length:Int))=true then kf a0 b2 else some default).bind fun x9=>
  some (b2,((decide (b2<(a0.length:Int)))&&(decide (x9.key=a1))))) (fun b2=>
  none)
theorem Ud {a0:(List bJ)} {a1:aA} {σ:Heap} {r:(Int×Bool)} (h:DK a0 a1=some r):DH [(sl 5 cz a0),(U.agg (aK a1))] σ=some ((U.aL [(U.int .i64 r.1),(U.bool r.2)]),σ):=by
 refine oo (f:=Oc) (y0:=(sl 5 cz a0)) (y1:=(U.agg (aK a1))) (enc:=fun r:(Int×Bool)=>(U.aL [(U.int .i64 r.1),(U.bool r.2)])) (T:=DK a0 a1) rfl rfl ?_ r h
 unfold Oc DK
 refine ak _ rfl ?_
 refine Yq (B:=Int) (R:=Unit) (fun(s1:Int) v w3=>v=[(U.lbx (aK a1)),(U.int .i64 s1)]∧σ=w3) (fun(b2:Int) (q:LS)=>q=((AX.exit 0),([(U.lbx (aK a1)),(U.int .i64 b2)]:List U),σ)) (fun(b2:Unit) (q:LS)=>False) ?_ ⟨rfl,rfl⟩ ?_ ?_
 ·intro s1 v w3 hI
  obtain⟨rfl,rfl⟩:=hI
  refine ak _ (cu _ _ _)<|ak _ rfl<|bh (sl 5 cz a0) (fun hg=>rfl)<|bh (U.int .i64 s1) (fun hg=>rfl) ?_
  refine oz (ω:=bJ) (fun x7=>(U.rp (cz x7))) (fun hg x7 HL=>by(try rw[hg]);exact pI HL) (fun x7 HL=>?_)
  refine bh (U.rp (cz x7)) (fun hg=>by(try rw[hg]);exact rfl)<|bh (U.agg (aK x7.key)) (fun hg=>by(try rw[hg]);exact rfl)<|bh (U.agg (aK a1)) (fun hg=>rfl)<|bh (U.bool (((decide (x7.key.unit<a1.unit))||((decide (x7.key.unit=a1.unit))&&(Op.bytesLess x7.key.param.toList a1.param.toList))))) (fun hg=>by(try rw[hg]);exact(quiet_of (Jh (σ:=σ) (r:=((decide (x7.key.unit<a1.unit))||((decide (x7.key.unit=a1.unit))&&(Op.bytesLess x7.key.param.toList a1.param.toList)))) rfl)))<|ak _ (iR _ _) ?_
  refine fJ (c:=((decide (s1<(a0.length:Int)))&&(((decide (x7.key.unit<a1.unit))||((decide (x7.key.unit=a1.unit))&&(Op.bytesLess x7.key.param.toList a1.param.toList)))))) (fun c8=>?_) (fun c8=>?_)
  ·refine ak _ rfl ?_
   exact bn (iH ⟨rfl,rfl⟩)
  exact bn (PJ (by simp) rfl)
 ·intro b2 q hq
  subst hq
  refine dS rfl<|ak _ (cu _ _ _)<|ak _ rfl<|bh (sl 5 cz a0) (fun hg=>rfl)<|bh (U.int .i64 b2) (fun hg=>rfl) ?_
  refine oz (ω:=bJ) (fun x9=>(U.rp (cz x9))) (fun hg x9 mB=>by(try rw[hg]);exact pI mB) (fun x9 mB=>?_)
  refine bh (U.rp (cz x9)) (fun hg=>by(try rw[hg]);exact rfl)<|bh (U.agg (aK x9.key)) (fun hg=>by(try rw[hg]);exact rfl)<|bh (U.agg (aK a1)) (fun hg=>rfl)<|bh (U.bool (decide (x9.key=a1))) (fun hg=>by(try rw[hg]);exact(Ge _ _))<|ak _ (iR _ _) ?_
  exact cq _ (bK _ _) ⟨rfl,rfl⟩
 ·intro b2 q hq
  exact False.elim hq
noncomputable def FC (a0:(List aS)) (a1:aA):Option (Int×Bool):=
 E1 (fun(s1:Int)=>(show Option (Lr Int Int Unit)from
   (if decide (s1<(a0.length:Int))=true then kf a0 s1 else some default).bind fun x7=>
   if((decide (s1<(a0.length:Int)))&&(((decide (x7.key.unit<a1.unit))||((decide (x7.key.unit=a1.unit))&&(Op.bytesLess x7.key.param.toList a1.param.toList)))))=true then
    some (.go (IntKind.i64.wrap (s1+1)))
   else
   some (.brk s1))) 0 (fun b2=>
  (if decide (b2<(a0.length:Int))=true then kf a0 b2 else some default).bind fun x9=>
  some (b2,((decide (b2<(a0.length:Int)))&&(decide (x9.key=a1))))) (fun b2=>
  none)
theorem TO {a0:(List aS)} {a1:aA} {σ:Heap} {r:(Int×Bool)} (h:FC a0 a1=some r):Ad [(sl 8 aF a0),(U.agg (aK a1))] σ=some ((U.aL [(U.int .i64 r.1),(U.bool r.2)]),σ):=by
 refine oo (f:=NH) (y0:=(sl 8 aF a0)) (y1:=(U.agg (aK a1))) (enc:=fun r:(Int×Bool)=>(U.aL [(U.int .i64 r.1),(U.bool r.2)])) (T:=FC a0 a1) rfl rfl ?_ r h
 unfold NH FC
 refine ak _ rfl ?_
 refine Yq (B:=Int) (R:=Unit) (fun(s1:Int) v w3=>v=[(U.lbx (aK a1)),(U.int .i64 s1)]∧σ=w3) (fun(b2:Int) (q:LS)=>q=((AX.exit 0),([(U.lbx (aK a1)),(U.int .i64 b2)]:List U),σ)) (fun(b2:Unit) (q:LS)=>False) ?_ ⟨rfl,rfl⟩ ?_ ?_
 ·intro s1 v w3 hI
  obtain⟨rfl,rfl⟩:=hI
  refine ak _ (cu _ _ _)<|ak _ rfl<|bh (sl 8 aF a0) (fun hg=>rfl)<|bh (U.int .i64 s1) (fun hg=>rfl) ?_
  refine oz (ω:=aS) (fun x7=>(U.rp (aF x7))) (fun hg x7 HL=>by(try rw[hg]);exact pI HL) (fun x7 HL=>?_)
  refine bh (U.rp (aF x7)) (fun hg=>by(try rw[hg]);exact rfl)<|bh (U.agg (aK x7.key)) (fun hg=>by(try rw[hg]);exact rfl)<|bh (U.agg (aK a1)) (fun hg=>rfl)<|bh (U.bool (((decide (x7.key.unit<a1.unit))||((decide (x7.key.unit=a1.unit))&&(Op.bytesLess x7.key.param.toList a1.param.toList))))) (fun hg=>by(try rw[hg]);exact(quiet_of (Jh (σ:=σ) (r:=((decide (x7.key.unit<a1.unit))||((decide (x7.key.unit=a1.unit))&&(Op.bytesLess x7.key.param.toList a1.param.toList)))) rfl)))<|ak _ (iR _ _) ?_
  refine fJ (c:=((decide (s1<(a0.length:Int)))&&(((decide (x7.key.unit<a1.unit))||((decide (x7.key.unit=a1.unit))&&(Op.bytesLess x7.key.param.toList a1.param.toList)))))) (fun c8=>?_) (fun c8=>?_)
  ·refine ak _ rfl ?_
   exact bn (iH ⟨rfl,rfl⟩)
  exact bn (PJ (by simp) rfl)
 ·intro b2 q hq
  subst hq
  refine dS rfl<|ak _ (cu _ _ _)<|ak _ rfl<|bh (sl 8 aF a0) (fun hg=>rfl)<|bh (U.int .i64 b2) (fun hg=>rfl) ?_
  refine oz (ω:=aS) (fun x9=>(U.rp (aF x9))) (fun hg x9 mB=>by(try rw[hg]);exact pI mB) (fun x9 mB=>?_)
  refine bh (U.rp (aF x9)) (fun hg=>by(try rw[hg]);exact rfl)<|bh (U.agg (aK x9.key)) (fun hg=>by(try rw[hg]);exact rfl)<|bh (U.agg (aK a1)) (fun hg=>rfl)<|bh (U.bool (decide (x9.key=a1))) (fun hg=>by(try rw[hg]);exact(Ge _ _))<|ak _ (iR _ _) ?_
  exact cq _ (bK _ _) ⟨rfl,rfl⟩
 ·intro b2 q hq
  exact False.elim hq
noncomputable def Db (a0:(List kL)) (a1:(List kL)):Option Bool:=
 if ¬((a0.length:Int)=(a1.length:Int))then
  some false
 else
 gz a0 (fun(i8:Nat) e7 (s1:Unit)=>(show Option (Lr Unit Unit Unit)from
   (kf a1 (i8:Int)).bind fun x9=>
   if ¬(e7=x9)then
    some (.ret ())
   else
   some (.go ()))) (fun s1=>some ()) () (fun b2=>
  some true) (fun b2=>
  some false)
theorem aaS {a0:(List kL)} {a1:(List kL)} {σ:Heap} {r:Bool} (h:Db a0 a1=some r):LZ [(sl 2 cW a0),(sl 2 cW a1)] σ=some ((U.bool r),σ):=by
 refine oo (f:=L1) (y0:=(sl 2 cW a0)) (y1:=(sl 2 cW a1)) (enc:=fun r:Bool=>(U.bool r)) (T:=Db a0 a1) rfl rfl ?_ r h
 unfold L1 Db
 refine ak _ (cu _ _ _)<|ak _ (cu _ _ _)<|ak _ (gB _ _ _) ?_
 refine gU (p:=¬((a0.length:Int)=(a1.length:Int))) (fun dw=>?_) (fun dw=>?_)
 ·exact cq _ (bK _ _) ⟨rfl,rfl⟩
 refine ak _ (cu _ _ _) ?_
 refine jj (B:=Unit) (R:=Unit) (fun(i8:Nat) (s1:Unit) v w3=>v=[aD,(U.int .i64 (i8:Int))]∧σ=w3) (fun(b2:Unit) (q:LS)=>∃u4 jt,q=((AX.exit 0),([u4,jt]:List U),σ)) (fun(b2:Unit) (q:LS)=>∃jt,q=(AX.ret,([aD,jt]:List U),σ)) ?_ ?_ ⟨rfl,rfl⟩ ?_ ?_
 ·intro lD i8 e7 s1 v w3 eS hI
  obtain⟨rfl,rfl⟩:=hI
  refine ak _ (eR eS)<|jo<|ak _ (dR eS)<|ak _ rfl ?_
  refine iq (fun x9:kL=>(U.rp (cW x9))) (fun x9 mB=>pI mB) (fun x9 mB=>?_)
  refine ak _ rfl<|ak _ (ag4 _ _) ?_
  refine gU (p:=¬(e7=x9)) (fun dr=>?_) (fun dr=>?_)
  ·exact bn (ey (by simp) ⟨_,rfl⟩)
  refine ak _ (dB eS lD) ?_
  exact bn (iH ⟨rfl,rfl⟩)
 ·intro hl s1 v w3 hI
  obtain⟨rfl,rfl⟩:=hI
  refine ak _ (eO _)<|jm ?_
  exact bn ⟨by simp,⟨_,_,rfl⟩⟩
 ·intro hl b2 q hq
  obtain⟨u4,jt,rfl⟩:=hq
  refine dS rfl ?_
  exact cq _ (bK _ _) ⟨rfl,rfl⟩
 ·intro hl b2 q hq
  obtain⟨jt,rfl⟩:=hq
  refine mm rfl<|dS rfl ?_
  exact cq _ (bK _ _) ⟨rfl,rfl⟩
noncomputable def Dd (a0:(List aS)) (a1:(List aS)):Option Bool:=
 if ¬((a0.length:Int)=(a1.length:Int))then
  some false
 else
 gz a0 (fun(i8:Nat) e7 (s1:Unit)=>(show Option (Lr Unit Unit Unit)from
   (kf a1 (i8:Int)).bind fun x9=>
   if ¬(e7=x9)then
    some (.ret ())
   else
   some (.go ()))) (fun s1=>some ()) () (fun b2=>
  some true) (fun b2=>
  some false)
theorem aa6 {a0:(List aS)} {a1:(List aS)} {σ:Heap} {r:Bool} (h:Dd a0 a1=some r):L3 [(sl 8 aF a0),(sl 8 aF a1)] σ=some ((U.bool r),σ):=by
 refine oo (f:=L5) (y0:=(sl 8 aF a0)) (y1:=(sl 8 aF a1)) (enc:=fun r:Bool=>(U.bool r)) (T:=Dd a0 a1) rfl rfl ?_ r h
 unfold L5 Dd
 refine ak _ (cu _ _ _)<|ak _ (cu _ _ _)<|ak _ (gB _ _ _) ?_
 refine gU (p:=¬((a0.length:Int)=(a1.length:Int))) (fun dw=>?_) (fun dw=>?_)
 ·exact cq _ (bK _ _) ⟨rfl,rfl⟩
 refine ak _ (cu _ _ _) ?_
 refine jj (B:=Unit) (R:=Unit) (fun(i8:Nat) (s1:Unit) v w3=>v=[aD,(U.int .i64 (i8:Int))]∧σ=w3) (fun(b2:Unit) (q:LS)=>∃u4 jt,q=((AX.exit 0),([u4,jt]:List U),σ)) (fun(b2:Unit) (q:LS)=>∃jt,q=(AX.ret,([aD,jt]:List U),σ)) ?_ ?_ ⟨rfl,rfl⟩ ?_ ?_
 ·intro lD i8 e7 s1 v w3 eS hI
  obtain⟨rfl,rfl⟩:=hI
  refine ak _ (eR eS)<|jo<|ak _ (dR eS)<|ak _ rfl ?_
  refine iq (fun x9:aS=>(U.rp (aF x9))) (fun x9 mB=>pI mB) (fun x9 mB=>?_)
  refine ak _ rfl<|ak _ (aid _ _) ?_
  refine gU (p:=¬(e7=x9)) (fun dr=>?_) (fun dr=>?_)
  ·exact bn (ey (by simp) ⟨_,rfl⟩)
  refine ak _ (dB eS lD) ?_
  exact bn (iH ⟨rfl,rfl⟩)
 ·intro hl s1 v w3 hI
  obtain⟨rfl,rfl⟩:=hI
  refine ak _ (eO _)<|jm ?_
  exact bn ⟨by simp,⟨_,_,rfl⟩⟩
 ·intro hl b2 q hq
  obtain⟨u4,jt,rfl⟩:=hq
  refine dS rfl ?_
  exact cq _ (bK _ _) ⟨rfl,rfl⟩
 ·intro hl b2 q hq
  obtain⟨jt,rfl⟩:=hq
  refine mm rfl<|dS rfl ?_
  exact cq _ (bK _ _) ⟨rfl,rfl⟩
noncomputable def Ft (a0:aO) (a1:aO):Option Bool:=
 (if(((((((((decide (a0.number=a1.number))&&(decide (a0.title=a1.title)))&&(decide (a0.delay=a1.delay)))&&(decide (a0.up=a1.up)))&&(decide (a0.down=a1.down)))&&(decide (a0.other=a1.other)))&&(decide (a0.block=a1.block)))&&(decide (a0.follow=a1.follow)))&&(decide (a0.dg.kind=a1.dg.kind)))=true then Db a0.dg.points a1.dg.points else some default).bind fun r1=>
 (if((((((((((decide (a0.number=a1.number))&&(decide (a0.title=a1.title)))&&(decide (a0.delay=a1.delay)))&&(decide (a0.up=a1.up)))&&(decide (a0.down=a1.down)))&&(decide (a0.other=a1.other)))&&(decide (a0.block=a1.block)))&&(decide (a0.follow=a1.follow)))&&(decide (a0.dg.kind=a1.dg.kind)))&&r1)=true then Dd a0.aJ a1.aJ else some default).bind fun r2=>
 some (((((((((((decide (a0.number=a1.number))&&(decide (a0.title=a1.title)))&&(decide (a0.delay=a1.delay)))&&(decide (a0.up=a1.up)))&&(decide (a0.down=a1.down)))&&(decide (a0.other=a1.other)))&&(decide (a0.block=a1.block)))&&(decide (a0.follow=a1.follow)))&&(decide (a0.dg.kind=a1.dg.kind)))&&r1)&&r2)
theorem acO {a0:aO} {a1:aO} {σ:Heap} {r:Bool} (h:Ft a0 a1=some r):zY [(U.agg (aM a0)),(U.agg (aM a1))] σ=some ((U.bool r),σ):=by
 refine oo (f:=Nd) (y0:=(U.agg (aM a0))) (y1:=(U.agg (aM a1))) (enc:=fun r:Bool=>(U.bool r)) (T:=Ft a0 a1) (bH (oH rfl) (bH (oH rfl) rfl)) rfl ?_ r h
 unfold Nd Ft
 refine ak _ rfl<|ak _ rfl<|ak _ rfl<|ak _ rfl<|ak _ (l5 _ _ _)<|bh (U.str a0.title) (fun hg=>rfl)<|bh (U.str a1.title) (fun hg=>rfl)<|bh (U.bool (decide (a0.title=a1.title))) (fun hg=>by(try rw[hg]);exact(En _ _))<|ak _ (iR _ _)<|bh (U.int .i64 a0.delay) (fun hg=>rfl)<|bh (U.int .i64 a1.delay) (fun hg=>rfl)<|bh (U.bool (decide (a0.delay=a1.delay))) (fun hg=>by(try rw[hg]);exact(l5 _ _ _))<|ak _ (iR _ _)<|bh (U.int .i64 a0.up) (fun hg=>rfl)<|bh (U.int .i64 a1.up) (fun hg=>rfl)<|bh (U.bool (decide (a0.up=a1.up))) (fun hg=>by(try rw[hg]);exact(l5 _ _ _))<|ak _ (iR _ _)<|bh (U.int .i64 a0.down) (fun hg=>rfl)<|bh (U.int .i64 a1.down) (fun hg=>rfl)<|bh (U.bool (decide (a0.down=a1.down))) (fun hg=>by(try rw[hg]);exact(l5 _ _ _))<|ak _ (iR _ _)<|bh (U.int .i64 a0.other) (fun hg=>rfl)<|bh (U.int .i64 a1.other) (fun hg=>rfl)<|bh (U.bool (decide (a0.other=a1.other))) (fun hg=>by(try rw[hg]);exact(l5 _ _ _))<|ak _ (iR _ _)<|bh (U.bool a0.block) (fun hg=>rfl)<|bh (U.bool a1.block) (fun hg=>rfl)<|bh (U.bool (decide (a0.block=a1.block))) (fun hg=>by(try rw[hg]);exact(aj6 _ _))<|ak _ (iR _ _)<|bh (U.int .i64 a0.follow) (fun hg=>rfl)<|bh (U.int .i64 a1.follow) (fun hg=>rfl)<|bh (U.bool (decide (a0.follow=a1.follow))) (fun hg=>by(try rw[hg]);exact(l5 _ _ _))<|ak _ (iR _ _)<|bh (U.int .i64 a0.dg.kind) (fun hg=>rfl)<|bh (U.int .i64 a1.dg.kind) (fun hg=>rfl)<|bh (U.bool (decide (a0.dg.kind=a1.dg.kind))) (fun hg=>by(try rw[hg]);exact(l5 _ _ _))<|ak _ (iR _ _)<|bh (sl 2 cW a0.dg.points) (fun hg=>rfl)<|bh (sl 2 cW a1.dg.points) (fun hg=>rfl) ?_
 refine oz (ω:=Bool) (fun r1=>(U.bool r1)) (fun hg r1 j0=>by(try rw[hg]);exact(quiet_of (aaS j0))) (fun r1 j0=>?_)
 refine ak _ (iR _ _)<|bh (sl 8 aF a0.aJ) (fun hg=>rfl)<|bh (sl 8 aF a1.aJ) (fun hg=>rfl) ?_
 refine oz (ω:=Bool) (fun r2=>(U.bool r2)) (fun hg r2 sP=>by(try rw[hg]);exact(quiet_of (aa6 sP))) (fun r2 sP=>?_)
 refine ak _ (iR _ _) ?_
 exact cq _ (bK _ _) ⟨rfl,rfl⟩
end
end Go.Proofs.YtphgchakmkankaaGreat
