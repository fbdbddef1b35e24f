/- Parts of the proof of PickSpreadsMatchSpec, in order. -/
import Derived.Orders
import Derived.Below
import Derived.WalkKit
import Derived.Laws.StructEq
import Derived.Laws.Append
import Derived.Laws.AppendOwn
import Derived.Test.YtjjjjbgohkklnaaRows
import Derived.KernelRfl
import Derived.Lib.Bytealg
import Derived.Sort.Defs
import Derived.Lib.BitFns
import Derived.Test.YtjjjjbgohkklnaaShelf
import Derived.WalkSpells
import Derived.ProofKit
import Derived.OpenShut
import Derived.Deep.QuietTactic
import Derived.BigQuiet
import Derived.Lib.Hide
import Derived.IntWalk
import Derived.Deep.RegionHeld3
import Derived.Deep.Slices
import Derived.OwnWalk
import Derived.Laws.OwnMore
import Derived.Deep.OwnRows
import Derived.Deep.RegionHeld
import Derived.Deep.AppendLies
import Derived.StillTailTactics
import Derived.Lib.Overlaps
import Derived.Lib.Strings
import Derived.Sort.Statements
import Derived.Test.YtjjjjbgohkklnaaKPickSpreadsMatchSpec3
namespace Go.Proofs.Ytjjjjbgohkklnaa
set_option linter.unusedVariables false
set_option linter.unusedSimpArgs false
set_option linter.unusedSectionVars false
section
def Rf{β τ:Type}(M:Option β)(T:Option τ)(Q:τ→β→Prop):Prop:=∀t,T=some t→∃b,M=some b∧Q t b
section
variable {α β ω τ ζ : Type}
theorem aF{M0:Option α}{K:α→Option β}{T:Option τ}{Q:τ→β→Prop}(a:α)(h:M0=some a)(k:Rf (K a) T Q):Rf (M0.bind K) T Q:=by intro t ht;obtain⟨b,h1,h2⟩:=k t ht;exact⟨b,by rw[h];exact h1,h2⟩
theorem ig{M0:Option α}{K:α→Option β}{o:Option ω}{K':ω→Option τ}{Q:τ→β→Prop}(e:ω→α)(h:∀t,o=some t→M0=some (e t))(k:∀t,o=some t→Rf (K (e t)) (K' t) Q):Rf (M0.bind K) (o.bind K') Q:=by intro t ht;obtain⟨x,h1,h2⟩:=bg.1 ht;obtain⟨b,h3,h4⟩:=k x h1 t h2;exact⟨b,by rw[h x h1];exact h3,h4⟩
theorem jt{t:τ}{b:β}{Q:τ→β→Prop}(h:Q t b):Rf (some b) (some t) Q:=by intro u hu;cases hu;exact⟨b,rfl,h⟩
theorem fu{M:Option β}{t:τ}{Q:τ→β→Prop}(b:β)(e:M=some b)(h:Q t b):Rf M (some t) Q:=by rw[e];exact jt h
theorem Z3{M:Option β}{Q:τ→β→Prop}:Rf M (none:Option τ) Q:=by intro u hu;cases hu
theorem JG{M:Option β}{p:Prop}[Decidable p]{T:Option τ}{Q:τ→β→Prop}(h:p→Rf M T Q):Rf M (if p then T else none) Q:=by
 split
 ·exact h ‹_›
 ·exact Z3
theorem oc{p:Prop}[Decidable p]{X Y:Option β}{X' Y':Option τ}{Q:τ→β→Prop}(h1:p→Rf X X' Q)(h2:¬p→Rf Y Y' Q):Rf (A.cond (.bool (decide p)) X Y) (if p then X' else Y') Q:=by
 by_cases h:p
 ·simp only[h,decide_true,if_true];exact h1 h
 ·simp only[h,decide_false,if_false];exact h2 h
theorem uh{c:Bool}{X Y:Option β}{X' Y':Option τ}{Q:τ→β→Prop}(h1:c=true→Rf X X' Q)(h2:c=false→Rf Y Y' Q):Rf (A.cond (.bool c) X Y) (if c=true then X' else Y') Q:=by
 cases c
 ·exact h2 rfl
 ·exact h1 rfl
theorem xH{X Y:Option β}{T:Option τ}{Q:τ→β→Prop}(h:Rf X T Q):Rf (A.cond (.bool true) X Y) T Q:=h
theorem xG{X Y:Option β}{T:Option τ}{Q:τ→β→Prop}(h:Rf Y T Q):Rf (A.cond (.bool false) X Y) T Q:=h
theorem qO{c:Bool}{X Y:Option β}{T:Option τ}{Q:τ→β→Prop}(e:c=true)(h:Rf X T Q):Rf (bif c then X else Y) T Q:=by rw[e];exact h
theorem E6{c:Bool}{X Y:Option β}{T:Option τ}{Q:τ→β→Prop}(e:c=false)(h:Rf Y T Q):Rf (bif c then X else Y) T Q:=by rw[e];exact h
def gv{α:Type}(g:Bool)(e:α→AV)(t:α):AV:=bif g then e t else .aD []
end
inductive Lr (S B R : Type) where
 |go(s:S)
 |brk(b:B)
 |ret(r:R)
def iG{α S B R:Type}(body:Nat→α→S→Option (Lr S B R))(fin:S→Option B):List α→Nat→S→Option (B ⊕ R)
 |[],_,s=>(fin s).map .inl
 |x::l,i,s=>(body i x s).bind λq=>match q with|.go s'=>iG body fin l (i+1) s'|.brk b=>some (.inl b)|.ret r=>some (.inr r)
def nw{α S B R γ:Type}(l:List α)(body:Nat→α→S→Option (Lr S B R))(fin:S→Option B)(s:S)(K1:B→Option γ)(K2:R→Option γ):Option γ:=
 if l.length≤bQ then(iG body fin l 0 s).bind λq=>q.elim K1 K2 else none
section
variable {α S B R β τ : Type}
abbrev LS:=AX×an×Heap
def Ks(I:S→an→Heap→Prop)(QB:B→LS→Prop)(QR:R→LS→Prop)(t:Lr S B R)(q:LS):Prop:=match t with
 |.go s=>q.1=.normal∧I s q.2.1 q.2.2
 |.brk b=>q.1≠.normal∧QB b q
 |.ret r=>q.1≠.normal∧QR r q
theorem xB{I:S→an→Heap→Prop}{QB:B→LS→Prop}{QR:R→LS→Prop}{s:S}{v:an}{σ:Heap}(h:I s v σ):Ks I QB QR (.go s) (.normal,v,σ):=⟨rfl,h⟩
theorem z7{I:S→an→Heap→Prop}{QB:B→LS→Prop}{QR:R→LS→Prop}{r:R}{q:LS}(n:q.1≠.normal)(h:QR r q):Ks I QB QR (.ret r) q:=⟨n,h⟩
theorem xA{f:an→Heap→Option LS}{K:LS→Option β}{Q:τ→β→Prop}{l:List α}{body:Nat→α→S→Option (Lr S B R)}{fin:S→Option B}{s0:S}{K1:B→Option τ}{K2:R→Option τ}{v0:an}{aL:Heap}
  (I:Nat→S→an→Heap→Prop) (QB:B→LS→Prop) (QR:R→LS→Prop)
  (hstep:l.length≤bQ→∀i x s v σ,l[i]? =some x→I i s v σ→Rf (f v σ) (body i x s) (Ks (I (i+1)) QB QR))
  (hend:l.length≤bQ→∀s v σ,I l.length s v σ→Rf (f v σ) (fin s) (λb q=>q.1≠.normal∧QB b q))
  (h0:I 0 s0 v0 aL) (k1:l.length≤bQ→∀b q,QB b q→Rf (K q) (K1 b) Q) (k2:l.length≤bQ→∀r q,QR r q→Rf (K q) (K2 r) Q):
  Rf ((A.loop f v0 aL).bind K) (nw l body fin s0 K1 K2) Q:=by
 unfold nw;refine JG λhl=>?_
 have hstep:=hstep hl;have hend:=hend hl
 have key:∀(rest pre:List α)(s:S)(v:an)(σ:Heap),l=pre++rest→I pre.length s v σ→∀t,iG body fin rest pre.length s=some t→∃q,(∃n,A.iter f n v σ=some q)∧(match t with|.inl b=>QB b q|.inr r=>QR r q):=by
  intro rest;induction rest with
  |nil=>intro pre s v σ hl hI t ht;rw[List.append_nil]at hl;subst hl;simp only[iG]at ht;obtain⟨b,hb,rfl⟩:=cL.1 ht;obtain⟨q,h1,h2,h3⟩:=hend s v σ hI b hb;exact⟨q,vD h1 h2,h3⟩
  |cons x rest ih=>
   intro pre s v σ hl hI t ht;simp only[iG]at ht;obtain⟨y,hy,h2⟩:=bg.1 ht;obtain⟨q,h3,h4⟩:=hstep pre.length x s v σ (by rw[hl];simp) hI y hy;obtain⟨e,v',σ'⟩:=q;cases y with
   |go s'=>obtain⟨rfl,KP⟩:=h4;obtain⟨q,h5,h6⟩:=ih (pre++[x]) s' v' σ' (by simpa using hl) (by simpa using KP) t (by simpa using h2);exact⟨q,Ik h3 h5,h6⟩
   |brk b=>simp only[Option.some.injEq]at h2;subst h2;exact⟨_,vD h3 h4.1,h4.2⟩
   |ret b=>simp only[Option.some.injEq]at h2;subst h2;exact⟨_,vD h3 h4.1,h4.2⟩
 intro t ht;obtain⟨y,hy,h2⟩:=bg.1 ht;obtain⟨q,⟨n,hn⟩,h3⟩:=key l [] s0 v0 aL rfl h0 y hy;cases y with
 |inl b=>obtain⟨z,h4,h5⟩:=k1 hl b q h3 t h2;exact⟨z,by rw[Bg hn];exact h4,h5⟩
 |inr b=>obtain⟨z,h4,h5⟩:=k2 hl b q h3 t h2;exact⟨z,by rw[Bg hn];exact h4,h5⟩
theorem xF{l:List α}{i:Nat}{x:α}(h:l[i]? =some x):A.lss (.ah (i:Int)) (.ah (l.length:Int))=some (.bool true):=by have:=(bU.1 h).1;rw[xI];simp;omega
theorem xx(l:List α):A.lss (.ah (l.length:Int)) (.ah (l.length:Int))=some (.bool false):=by rw[xI];simp
theorem xz{l:List α}{i:Nat}{x:α}(h:l[i]? =some x)(hl:l.length≤bQ):A.add (.ah (i:Int)) (.ah 1)=some (.ah ((i+1:Nat):Int)):=by have:=(bU.1 h).1;rw[B8,dK (by unfold aZ;unfold bQ at hl;omega)];simp
def yQ(l:List α)(i:Int):Option α:=if 0≤i then l[i.toNat]? else none
theorem JB{sz:Nat}{c:α→an}{l:List α}{i:Int}{x:α}(h:yQ l i=some x):A.aM sz (sl sz c l) (.ah i)=some (.rp (c x)):=by
 unfold yQ at h;split at h
 ·exact Xw sz c l ‹_› h
 ·cases h
theorem xy{sz:Nat}{c:α→an}{l:List α}{i:Nat}{x:α}(h:l[i]? =some x):A.aM sz (sl sz c l) (.ah (i:Int))=some (.rp (c x)):=jr sz c l h
end
theorem xh{M:az}{v:AV}{σ:Heap}(h:M=some (v,σ)):A.quiet M σ=some v:=by rw[h,D0]
noncomputable def tq {α:Type} (p:Prop) (x:α):Option α:=open Classical in if p then some x else none
theorem sL{α:Type}{p:Prop}{x:α}(h:p):tq p x=some x:=aK h
theorem qP{α β:Type}{p:Prop}{x r:α}{M:Option β}{e:α→β}(h:p→M=some (e x))(k:tq p x=some r):M=some (e r):=by
 unfold tq at k;split at k
 ·rename_i hp;injection k with k;subst k;exact h hp
 ·cases k
theorem Qu(b t:Bool):A.pick (.bool b) (bif b then .bool t else .aD []) (.bool false)=some (.bool (b&&t)):=by cases b<;>rfl
theorem E4(b t:Bool):A.pick (.bool b) (.bool true) (bif !b then .bool t else .aD [])=some (.bool (b||t)):=by cases b<;>rfl
section
variable {α β ω τ : Type} {G b : Bool} {M0 : Option AV} {K : AV → Option β} {T : Option τ} {K' : ω → Option τ} {o : Option ω} {Q : τ → β → Prop}
theorem JF(a:AV)(h:b=true→M0=some a)(k:Rf (K (bif b then a else .aD [])) T Q):Rf ((A.guard (.bool b) true M0 (some (.aD []))).bind K) T Q:=by refine aF _ ?_ k;cases b<;>simp_all [A.guard]
theorem nR(a:AV)(h:(!b)=true→M0=some a)(k:Rf (K (bif !b then a else .aD [])) T Q):Rf ((A.guard (.bool b) false M0 (some (.aD []))).bind K) T Q:=by refine aF _ ?_ k;cases b<;>simp_all [A.guard]
theorem Jo(a:AV)(h:(G&&b)=true→M0=some a)(k:Rf (K (bif G&&b then a else .aD [])) T Q):Rf ((A.guard (bif G then .bool b else .aD []) true M0 (some (.aD []))).bind K) T Q:=by refine aF _ ?_ k;cases G<;>cases b<;>simp_all [A.guard]
end
theorem PY{ro:Bool}{cW:List Sh}{dm:Sh}{r:an→Heap→az}{args args':an}{σ:Heap}(hn:A.cN cW args=A.cN cW args')(h1:args.any A.own=false)(h2:args'.any A.own=false):A.wrap ro cW dm r args σ=A.wrap ro cW dm r args' σ:=by unfold A.wrap;rw[h1,h2,hn,Bool.and_false,aV,aV]
theorem ED{τ:Type}{ro:Bool}{cW:List Sh}{dm:Sh}{r:an→Heap→az}{args args':an}{σ:Heap}{T:Option τ}{enc:τ→AV}(hn:A.cN cW args=args')(h:args.any A.own=false)(e:Rf (r args' σ) T (λt b=>A.nn dm b.1=enc t∧b.2=σ)):∀t,T=some t→A.wrap ro cW dm r args σ=some (enc t,σ):=by intro t ht;obtain⟨⟨v,σ'⟩,h1,h2,h3⟩:=e t ht;simp only at h2 h3;subst h3;exact wrap_eq h (by rw[hn];exact h1) h2
theorem zR{τ:Type}{ro:Bool}{cW:List Sh}{dm:Sh}{f:AV→Heap→az}{x0 y0:AV}{σ:Heap}{T:Option τ}{enc:τ→AV}(hn:A.cN cW [x0]=[y0])(h:([x0]:an).any A.own=false)(e:Rf (f y0 σ) T (λt b=>A.nn dm b.1=enc t∧b.2=σ)):∀t,T=some t→A.wrap ro cW dm (A.eP f) [x0] σ=some (enc t,σ):=ED hn h e
theorem Eo{τ:Type}{ro:Bool}{cW:List Sh}{dm:Sh}{f:AV→AV→Heap→az}{x0 x1 y0 y1:AV}{σ:Heap}{T:Option τ}{enc:τ→AV}(hn:A.cN cW [x0,x1]=[y0,y1])(h:([x0,x1]:an).any A.own=false)(e:Rf (f y0 y1 σ) T (λt b=>A.nn dm b.1=enc t∧b.2=σ)):∀t,T=some t→A.wrap ro cW dm (A.dU f) [x0,x1] σ=some (enc t,σ):=ED hn h e
theorem OO{τ:Type}{ro:Bool}{cW:List Sh}{dm:Sh}{f:AV→AV→AV→AV→Heap→az}{x0 x1 x2 x3 y0 y1 y2 y3:AV}{σ:Heap}{T:Option τ}{enc:τ→AV}(hn:A.cN cW [x0,x1,x2,x3]=[y0,y1,y2,y3])(h:([x0,x1,x2,x3]:an).any A.own=false)(e:Rf (f y0 y1 y2 y3 σ) T (λt b=>A.nn dm b.1=enc t∧b.2=σ)):∀t,T=some t→A.wrap ro cW dm (A.tr f) [x0,x1,x2,x3] σ=some (enc t,σ):=ED hn h e
theorem YK{τ:Type}{ro:Bool}{cW:List Sh}{dm:Sh}{f:AV→AV→AV→AV→AV→Heap→az}{x0 x1 x2 x3 x4 y0 y1 y2 y3 y4:AV}{σ:Heap}{T:Option τ}{enc:τ→AV}(hn:A.cN cW [x0,x1,x2,x3,x4]=[y0,y1,y2,y3,y4])(h:([x0,x1,x2,x3,x4]:an).any A.own=false)(e:Rf (f y0 y1 y2 y3 y4 σ) T (λt b=>A.nn dm b.1=enc t∧b.2=σ)):∀t,T=some t→A.wrap ro cW dm (A.mg f) [x0,x1,x2,x3,x4] σ=some (enc t,σ):=ED hn h e
end
section
inductive Ct where
 |s(sz:Nat)(es:List an)
 |m(es:List (AV×AV))
 |b(cs:an)
def n5:AV→Option Nat
 |.os id _ _ _ _=>some id
 |.om id=>some id
 |.op id _=>some id
 |_=>none
def Own(n:Nat)(σ:Heap)(p:AV×Ct):Prop:=match p.2 with
 |.s sz es=>(p.1=.aN∧es=[])∨∃id g off a,p.1=.os id g sz off es.length∧n≤id∧σ[id]? =some (.arr g sz a)∧off≤a.length∧a.drop off=es
 |.m es=>∃id,p.1=.om id∧n≤id∧σ[id]? =some (.map es)
 |.b cs=>∃id,p.1=.op id 0∧n≤id∧σ[id]? =some (.box cs)
structure Hp (aL σ : Heap) (L : List (AV × Ct)) : Prop where
 pre:∃bs,σ=aL++bs
 own:∀(i:Nat)p,L[i]? =some p→Own aL.length σ p
 sep:∀(i j:Nat)p q a,L[i]? =some p→L[j]? =some q→n5 p.1=some a→n5 q.1=some a→i=j
section
variable {aL σ σ' : Heap} {L : List (AV × Ct)} {n : Nat}
theorem Ji(σ:Heap):Hp σ σ []:=⟨⟨[],by simp⟩,by simp,by simp⟩
theorem BZ{p:AV×Ct}{a:Nat}(h:Own n σ p)(e:n5 p.1=some a):n≤a∧a<σ.length:=by
 obtain⟨v,c⟩:=p;cases c with
 |s sz es=>
  rcases h with⟨h1,_⟩|⟨id,g,off,x,h1,h2,h3,_⟩
  ·simp only at h1;subst h1;cases e
  ·simp only at h1;subst h1;injection e with e;subst e;exact⟨h2,(bU.1 h3).1⟩
 |m es=>obtain⟨id,h1,h2,h3⟩:=h;simp only at h1;subst h1;injection e with e;subst e;exact⟨h2,(bU.1 h3).1⟩
 |b es=>obtain⟨id,h1,h2,h3⟩:=h;simp only at h1;subst h1;injection e with e;subst e;exact⟨h2,(bU.1 h3).1⟩
theorem IF{p:AV×Ct}(h:Own n σ p)(k:∀a,n5 p.1=some a→σ'[a]? =σ[a]?):Own n σ' p:=by
 obtain⟨v,c⟩:=p;cases c with
 |s sz es=>
  rcases h with h|⟨id,g,off,x,h1,h2,h3,h4⟩
  ·exact .inl h
  ·simp only at h1;subst h1;exact .inr ⟨id,g,off,x,rfl,h2,by rw[k id rfl];exact h3,h4⟩
 |m es=>obtain⟨id,h1,h2,h3⟩:=h;simp only at h1;subst h1;exact⟨id,rfl,h2,by rw[k id rfl];exact h3⟩
 |b es=>obtain⟨id,h1,h2,h3⟩:=h;simp only at h1;subst h1;exact⟨id,rfl,h2,by rw[k id rfl];exact h3⟩
theorem ZY(h:∃bs,σ=aL++bs){id:Nat}(hn:aL.length≤id)(b:bk):∃bs,σ.set id b=aL++bs:=by obtain⟨bs,rfl⟩:=h;exact⟨bs.set (id-aL.length) b,by rw[sS _ _ hn]⟩
theorem Qf(H:Hp aL σ L){k id:Nat}{h h':AV}{c c':Ct}{b:bk}(hk:L[k]? =some (h,c))(hi:n5 h=some id)(hi':n5 h'=some id)(ho:Own aL.length (σ.set id b) (h',c')):Hp aL (σ.set id b) (L.set k (h',c')):=by
 have hid:=BZ (H.own k _ hk) hi;have iu:=(bU.1 hk).1;refine⟨ZY H.pre hid.1 b,λi p hp=>?_,λi j p q a hp hq e1 e2=>?_⟩
 ·rw[eW]at hp;split at hp
  ·rename_i e;subst e;simp [iu]at hp;subst hp;exact ho
  ·rename_i e;refine IF (H.own i p hp) λa ha=>?_
   rw[eW];split
   ·rename_i e';subst e';exact absurd (H.sep k i _ _ id hk hp hi ha) e
   ·rfl
 ·have key:∀(i:Nat)(p:AV×Ct),(L.set k (h',c'))[i]? =some p→n5 p.1=some a→∃p',L[i]? =some p'∧n5 p'.1=some a:=by
   intro i p hp e;rw[eW]at hp;split at hp
   ·rename_i e';subst e';simp [iu]at hp;subst hp;exact⟨_,hk,by rw[hi];rw[hi']at e;exact e⟩
   ·exact⟨p,hp,e⟩
  obtain⟨p',hp',e1'⟩:=key i p hp e1;obtain⟨q',uV,CC⟩:=key j q hq e2;exact H.sep i j p' q' a hp' uV e1' CC
theorem aaD(H:Hp aL σ L){k:Nat}{h h':AV}{c c':Ct}{b:bk}(hk:L[k]? =some (h,c))(hi:n5 h=none)(hi':n5 h'=some σ.length)(ho:Own aL.length (σ++[b]) (h',c')):Hp aL (σ++[b]) (L.set k (h',c')):=by
 have iu:=(bU.1 hk).1;refine⟨?_,λi p hp=>?_,λi j p q a hp hq e1 e2=>?_⟩
 ·obtain⟨bs,rfl⟩:=H.pre;exact⟨bs++[b],by simp⟩
 ·rw[eW]at hp;split at hp
  ·rename_i e;subst e;simp [iu]at hp;subst hp;exact ho
  ·refine IF (H.own i p hp) λa ha=>?_
   have:=(BZ (H.own i p hp) ha).2;rw[fE this]
 ·have key:∀(i:Nat)(p:AV×Ct),(L.set k (h',c'))[i]? =some p→n5 p.1=some a→(i=k∧a=σ.length)∨(L[i]? =some p∧a<σ.length):=by
   intro i p hp e;rw[eW]at hp;split at hp
   ·rename_i e';subst e';simp [iu]at hp;subst hp;rw[hi']at e;injection e with e;exact .inl ⟨rfl,e.symm⟩
   ·exact .inr ⟨hp,(BZ (H.own i p hp) e).2⟩
  rcases key i p hp e1 with⟨a1,a2⟩|⟨a1,a2⟩<;>rcases key j q hq e2 with⟨b1,b2⟩|⟨b1,b2⟩
  ·omega
  ·omega
  ·omega
  ·exact H.sep i j p q a a1 b1 e1 e2
theorem ZB(H:Hp aL σ L){h':AV}{c':Ct}{b:bk}(hi':n5 h'=some σ.length)(ho:Own aL.length (σ++[b]) (h',c')):Hp aL (σ++[b]) (L++[(h',c')]):=by
 refine⟨?_,λi p hp=>?_,λi j p q a hp hq e1 e2=>?_⟩
 ·obtain⟨bs,rfl⟩:=H.pre;exact⟨bs++[b],by simp⟩
 ·rw[List.getElem?_append]at hp;split at hp
  ·refine IF (H.own i p hp) λa ha=>?_
   have:=(BZ (H.own i p hp) ha).2;rw[fE this]
  ·have hp':=(bU.1 hp).2;simp at hp';subst hp';exact ho
 ·have key:∀(i:Nat)(p:AV×Ct),(L++[(h',c')])[i]? =some p→n5 p.1=some a→(i=L.length∧a=σ.length)∨(L[i]? =some p∧a<σ.length):=by
   intro i p hp e;rw[List.getElem?_append]at hp;split at hp
   ·exact .inr ⟨hp,(BZ (H.own i p hp) e).2⟩
   ·obtain⟨h1,h2⟩:=bU.1 hp;simp at h1 h2;subst h2;rw[hi']at e;injection e with e;exact .inl ⟨by omega,e.symm⟩
  rcases key i p hp e1 with⟨a1,a2⟩|⟨a1,a2⟩<;>rcases key j q hq e2 with⟨b1,b2⟩|⟨b1,b2⟩
  ·omega
  ·omega
  ·omega
  ·exact H.sep i j p q a a1 b1 e1 e2
theorem Qe(H:Hp aL σ L)(sz:Nat):Hp aL σ (L++[(.aN,.s sz [])]):=by
 refine⟨H.pre,λi p hp=>?_,λi j p q a hp hq e1 e2=>?_⟩
 ·rw[List.getElem?_append]at hp;split at hp
  ·exact H.own i p hp
  ·have hp':=(bU.1 hp).2;simp at hp';subst hp';exact .inl ⟨rfl,rfl⟩
 ·have key:∀(i:Nat)(p:AV×Ct),(L++[((.aN:AV),Ct.s sz [])])[i]? =some p→n5 p.1=some a→L[i]? =some p:=by
   intro i p hp e;rw[List.getElem?_append]at hp;split at hp
   ·exact hp
   ·have hp':=(bU.1 hp).2;simp at hp';subst hp';cases e
  exact H.sep i j p q a (key i p hp e1) (key j q hq e2) e1 e2
theorem Q5(H:Hp aL σ L):Hp aL (σ++[.map []]) (L++[(.om σ.length,.m [])]):=by
 have hl:aL.length≤σ.length:=by obtain⟨bs,rfl⟩:=H.pre;simp
 exact ZB H rfl ⟨σ.length,rfl,hl,by simp⟩
theorem Pq(H:Hp aL σ L):Hp aL σ []:=⟨H.pre,by simp,by simp⟩
theorem aaC(H:Hp aL σ L){k sz most:Nat}{h:AV}{es ys:List an}(hk:L[k]? =some (h,.s sz es))(hm:es.length+ys.length≤most):∃h' σ',A.append sz most h (.sl sz ys) σ=some (h',σ')∧Hp aL σ' (L.set k (h',.s sz (es++ys))):=by
 have hl:aL.length≤σ.length:=by obtain⟨bs,rfl⟩:=H.pre;simp
 rcases H.own k _ hk with⟨h1,h2⟩|⟨id,g,off,a,h1,h2,h3,h4,h5⟩
 ·simp only at h1 h2;subst h1 h2;by_cases hy:ys=[]
  ·subst hy;refine⟨.aN,σ,by simp [A.append,A.jZ,A.elems],?_⟩
   have:L.set k (.aN,.s sz ([]++[]))=L:=by
    apply List.ext_getElem?;intro i;rw[eW];split
    ·rename_i e;subst e;rw[hk];simp [(bU.1 hk).1]
    ·rfl
   rw[this];exact H
  ·refine⟨.os σ.length ys.length sz 0 ys.length,σ++[.arr ys.length sz ys],?_,?_⟩
   ·have:ys.length≤most:=by simpa using hm
    simp [A.append,A.jZ,A.elems,hy,this]
   ·exact aaD H hk rfl rfl (.inr ⟨σ.length,ys.length,0,ys,by simp,hl,by simp,by simp,by simp⟩)
 ·simp only at h1 h5;subst h1;have hid:=(bU.1 h3).1;have h6:off+es.length=a.length:=by rw[←h5,List.length_drop];omega
  by_cases hy:ys=[]
  ·subst hy;refine⟨.os id g sz off es.length,σ,?_,?_⟩
   ·have:es.length≤most:=by simpa using hm
    simp [A.append,A.jZ,A.elems,h3,h6,this]
   ·have:L.set k (.os id g sz off es.length,.s sz (es++[]))=L:=by
     apply List.ext_getElem?;intro i;rw[eW];split
     ·rename_i e;subst e;rw[hk];simp [(bU.1 hk).1]
     ·rfl
    rw[this];exact H
  ·refine⟨.os id (g+ys.length) sz 0 (es.length+ys.length),σ.set id (.arr (g+ys.length) sz (es++ys)),?_,?_⟩
   ·have ht:(a.drop off).take es.length=es:=by rw[h5];simp
    have hp:0<ys.length:=List.length_pos_iff.2 hy;simp [A.append,A.jZ,A.elems,h3,h6,hm,hy,ht,hp]
   ·refine Qf H hk rfl rfl (.inr ⟨id,g+ys.length,0,es++ys,by simp,h2,by simp [hid],by simp,by simp [h5]⟩)
theorem ZA(H:Hp aL σ L){k:Nat}{h key v:AV}{ek:A.EK}{es es':List (AV×AV)}(hk:L[k]? =some (h,.m es))(hok:A.iQ ek key=true)(he:A.upd ek key v es=some es'):∃σ',A.iS ek h key v σ=some σ'∧Hp aL σ' (L.set k (h,.m es')):=by obtain⟨id,h1,h2,h3⟩:=H.own k _ hk;simp only at h1 h3;subst h1;have hid:=(bU.1 h3).1;exact⟨σ.set id (.map es'),by simp [A.iS,hok,h3,he],Qf H hk rfl rfl ⟨id,rfl,h2,by simp [hid]⟩⟩
theorem Zz(H:Hp aL σ L){k:Nat}{h key z:AV}{ek:A.EK}{es:List (AV×AV)}{r:Option AV}(hk:L[k]? =some (h,.m es))(hok:A.iQ ek key=true)(he:A.find ek key es=some r):A.look ek h key z σ=some (r.getD z):=by obtain⟨id,h1,h2,h3⟩:=H.own k _ hk;simp only at h1 h3;subst h1;rw[vF ek hok h3,he];rfl
def Ay(aL σ:Heap)(r r':AV):Prop:=(∀d,A.bP σ aL.length (d+1) r=some r')∧(σ=aL→r'=r)
def Fb(aL σ:Heap)(l l':an):Prop:=(∀d,A.dz σ aL.length (d+1) l=some l')∧(σ=aL→l'=l)
theorem BX{r:AV}(h:Fz r):Ay aL σ r r:=⟨λd=>h σ _ (d+1),λ_=>rfl⟩
theorem ID:Fb aL σ [] []:=⟨λd=>by simp [A.dz],λ_=>rfl⟩
theorem zF{a a':AV}{l l':an}(h:Ay aL σ a a')(k:Fb aL σ l l'):Fb aL σ (a::l) (a'::l'):=⟨λd=>by simp [A.dz,h.1 d,k.1 d],λe=>by rw[h.2 e,k.2 e]⟩
theorem I1{l l':an}(h:Fb aL σ l l'):Ay aL σ (.aD l) (.aD l'):=⟨λd=>by simp [A.bP,h.1 d],λe=>by rw[h.2 e]⟩
theorem Pj{α:Type}(H:Hp aL σ L){k sz:Nat}{h:AV}{c:α→an}{l:List α}(hk:L[k]? =some (h,.s sz (l.map c)))(hc:∀x,o9 (c x)):∃r',Ay aL σ h r'∧((r'=.aN∧l=[])∨r'=sl sz c l):=by
 rcases H.own k _ hk with⟨h1,h2⟩|⟨id,g,off,a,h1,h2,h3,h4,h5⟩
 ·simp only at h1 h2;have:l=[]:=by simpa using h2
  subst this;subst h1;exact⟨.aN,BX Qb,.inl ⟨rfl,rfl⟩⟩
 ·simp only at h1 h5;subst h1;refine⟨sl sz c l,⟨λd=>?_,λe=>?_⟩,.inr rfl⟩
  ·have h6:off+(l.map c).length=a.length:=by rw[←h5,List.length_drop];omega
   simp only[A.bP,Nat.not_lt.2 h2,if_false,h3];rw[aK (by simp;simp at h6;omega),BD,h5,fF (ay _),JT hc];rfl
  ·subst e;have:=(bU.1 h3).1;omega
theorem PB{α:Type}{sz:Nat}{c:α→an}{l:List α}{r:AV}(h:(r=.aN∧l=[])∨r=sl sz c l):A.nn (.s sz) r=sl sz c l:=by rcases h with⟨rfl,rfl⟩|rfl<;>rfl
theorem iE{s1:Sh}{v1 w1:AV}{ss:List Sh}{vs ws:an}(h1:A.nn s1 v1=w1)(h2:A.cN ss vs=ws):A.cN (s1::ss) (v1::vs)=w1::ws:=by simp only[A.cN,h1,h2]
theorem qh:A.cN [] []=[]:=by simp [A.cN]
theorem qo{ss:List Sh}{vs ws:an}(h:A.cN ss vs=ws):A.nn (.t ss) (.aD vs)=.aD ws:=by simp only[A.nn,h]
theorem Pf(d:Nat):∀{es:List (AV×AV)},(∀p∈es,Fz p.1∧Fz p.2)→A.vO σ n d es=some es
 |[],_=>by simp [A.vO]
 |(k,v)::es,h=>by have h1:=h (k,v) (by simp);simp only[A.vO,h1.1 σ n d,h1.2 σ n d,aQ,Pf d (es:=es) (λp hp=>h p (by simp [hp])),eO]
theorem aay(H:Hp aL σ L){k:Nat}{h:AV}{es:List (AV×AV)}(hk:L[k]? =some (h,.m es))(hc:∀p∈es,Fz p.1∧Fz p.2):Ay aL σ h (.fm es):=by
 obtain⟨id,h1,h2,h3⟩:=H.own k _ hk;simp only at h1 h3;subst h1;refine⟨λd=>?_,λe=>?_⟩
 ·simp only[A.bP,Nat.not_lt.2 h2,if_false,h3,Pf d hc,eO]
 ·subst e;have:=(bU.1 h3).1;omega
theorem EM(H:Hp aL σ L){r r':AV}(h:Ay aL σ r r'):A.fin aL r σ=some (r',aL):=by
 obtain⟨bs,hb⟩:=H.pre;subst hb;by_cases rB:bs=[]
 ·subst rB;rw[List.append_nil]at h ⊢;rw[ff,h.2 rfl]
 ·unfold A.fin;rw[aI (by simpa using rB),aK (by simp),h.1 7];rfl
end
section
variable {κ ν : Type} [DecidableEq κ]
def gR(k:κ):List (κ×ν)→Option ν
 |[]=>none
 |(k',v)::r=>if k=k' then some v else gR k r
def me(k:κ)(v:ν):List (κ×ν)→List (κ×ν)
 |[]=>[(k,v)]
 |(k',v')::r=>if k=k' then(k,v)::r else(k',v')::me k v r
variable {ek : A.EK} {eK : κ → AV} {eV : ν → AV} (hq : ∀ a b, A.dD ek (eK a) (eK b) = some (decide (a = b)))
include hq
theorem Jh(k:κ):∀l:List (κ×ν),A.find ek (eK k) (l.map λp=>(eK p.1,eV p.2))=some ((gR k l).map eV)
 |[]=>rfl
 |(k',v)::r=>by
  simp only[fJ,A.find,hq,aQ,gR];by_cases h:k=k'
  ·simp [h]
  ·simp [h,Jh k r]
theorem Ra(k:κ)(v:ν):∀l:List (κ×ν),A.upd ek (eK k) (eV v) (l.map λp=>(eK p.1,eV p.2))=some ((me k v l).map λp=>(eK p.1,eV p.2))
 |[]=>rfl
 |(k',v')::r=>by
  simp only[fJ,A.upd,hq,aQ,me];by_cases h:k=k'
  ·simp [h]
  ·simp [h,Ra k v r]
end
theorem Pb(k:IntKind)(a b:Int):A.dD .i (.int k a) (.int k b)=some (decide (a=b)):=by simp only[A.dD,A.kU,if_true];congr 1
theorem getD_map{α:Type}(o:Option α)(f:α→AV)(d:α):(o.map f).getD (f d)=f (o.getD d):=by cases o<;>rfl
def CD{κ ν:Type}(eK:κ→AV)(eV:ν→AV)(l:List (κ×ν)):AV:=.fm (l.map λp=>(eK p.1,eV p.2))
section
variable {κ ν : Type} [DecidableEq κ] {ek : A.EK} {eK : κ → AV} {eV : ν → AV} {aL σ : Heap} {L : List (AV × Ct)} {h : AV} {l : List (κ × ν)}
theorem Pp(H:Hp aL σ L)(k:Nat)(hk:L[k]? =some (h,.m (l.map λp=>(eK p.1,eV p.2)))) (hq:∀a b,A.dD ek (eK a) (eK b)=some (decide (a=b))) (x:κ) (v:ν) (hok:A.iQ ek (eK x)=true):∃σ',A.iS ek h (eK x) (eV v) σ=some σ'∧Hp aL σ' (L.set k (h,.m ((me x v l).map λp=>(eK p.1,eV p.2)))):=ZA H hk hok (Ra hq x v l)
theorem Yw(H:Hp aL σ L)(k:Nat)(hk:L[k]? =some (h,.m (l.map λp=>(eK p.1,eV p.2)))) (hq:∀a b,A.dD ek (eK a) (eK b)=some (decide (a=b))) (x:κ) (z:ν) (hok:A.iQ ek (eK x)=true):A.look ek h (eK x) (eV z) σ=some (eV ((gR x l).getD z)):=by rw[Zz H hk hok (Jh hq x l),getD_map]
theorem Yo(hq:∀a b,A.dD ek (eK a) (eK b)=some (decide (a=b)))(x:κ)(z:ν)(hok:A.iQ ek (eK x)=true):A.look ek (CD eK eV l) (eK x) (eV z) σ=some (eV ((gR x l).getD z)):=by simp only[A.look,CD,hok,bG,A.entries,aQ,Jh hq,eO,getD_map]
end
section
variable {α : Type} {c : α → an} {l ys : List α} {aL σ : Heap} {L : List (AV × Ct)} {h : AV} {sz : Nat}
theorem Po(H:Hp aL σ L)(k:Nat){most:Nat}(hk:L[k]? =some (h,.s sz (l.map c)))(hm:l.length+ys.length≤most):∃h' σ',A.append sz most h (sl sz c ys) σ=some (h',σ')∧Hp aL σ' (L.set k (h',.s sz ((l++ys).map c))):=by rw[List.map_append];exact aaC H hk (by simpa using hm)
end
def AY{α:Type}(l:List α)(lo hi:Option Int):Option (List α):=
 let h:=hi.getD l.length
 let k:=lo.getD 0
 if 0≤k∧k≤h∧h≤l.length then some ((l.take h.toNat).drop k.toNat)else none
theorem aa3{α:Type}{sz:Nat}{c:α→an}{l r:List α}{lo hi:Option Int}{σ:Heap}(h:AY l lo hi=some r):A.cm sz (sl sz c l) (lo.map (.int .i64)) (hi.map (.int .i64)) σ=some (sl sz c r):=by
 unfold AY at h;simp only at h;split at h
 ·rename_i hc;injection h with h
  subst h;obtain⟨h1,h2,h3⟩:=hc;simp only[A.cm,sl,if_true,List.length_map]
  have e1:A.bound l.length l.length (hi.map (.int .i64))=some (hi.getD l.length).toNat:=by
   cases hi with
   |none=>simp [A.bound]
   |some h=>simp only[Option.getD_some]at h2 h3;simp [A.bound,show 0≤h by omega,h3]
  have e2:A.bound (hi.getD l.length).toNat 0 (lo.map (.int .i64))=some (lo.getD 0).toNat:=by
   cases lo with
   |none=>simp [A.bound]
   |some k=>
    simp only[Option.getD_some]at h1 h2;have:k≤((hi.getD l.length).toNat:Int):=by omega
    simp only[eO,A.bound,Option.getD_some];rw[aK ⟨h1,this⟩]
  rw[e1,aQ,e2,eO,List.map_drop,List.map_take]
 ·cases h
end
section
def HP:=(Nat→Option bk)→Prop
namespace HP
def emp:HP:=λh=>∀i,h i=none
def blk(id:Nat)(b:bk):HP:=λh=>∀i,h i=if i=id then some b else none
def star(P Q:HP):HP:=λh=>∃f g,P f∧Q g∧(∀i,f i=none∨g i=none)∧∀i,h i=(f i).or (g i)
def pr(p:Prop):HP:=λh=>p∧∀i,h i=none
def ex{α:Type}(P:α→HP):HP:=λh=>∃x,P x h
instance : Mul HP := ⟨star⟩
theorem Ob(P Q:HP):P*Q=Q*P:=by
 have key:∀P Q:HP,∀h,(P*Q) h→(Q*P) h:=by rintro P Q h ⟨f,g,hf,hg,hd,hh⟩;refine⟨g,f,hg,hf,λi=>(hd i).symm,λi=>?_⟩;rw[hh i];rcases hd i with e|e<;>rw[e]<;>simp
 funext h;exact propext ⟨key P Q h,key Q P h⟩
theorem Bs(P Q R:HP):P*Q*R=P*(Q*R):=by
 funext h;apply propext;constructor
 ·rintro⟨f,g,⟨f1,f2,h1,h2,kW,hf⟩,hg,hd,hh⟩;refine⟨f1,λi=>(f2 i).or (g i),h1,⟨f2,g,h2,hg,λi=>?_,λi=>rfl⟩,λi=>?_,λi=>?_⟩
  ·have:=hd i;rw[hf i]at this;rcases this with e|e
   ·cases h:f1 i<;>simp [h]at e<;>exact .inl e
   ·exact .inr e
  ·have a:=hd i;have b:=kW i;rw[hf i]at a;rcases b with b|b
   ·exact .inl b
   ·rcases a with a|a
    ·cases h:f1 i<;>simp [h]at a;exact .inl rfl
    ·exact .inr (show(f2 i).or (g i)=none by rw[b,a];rfl)
  ·rw[hh i,hf i];cases f1 i<;>simp
 ·rintro⟨f,g,hf,⟨g1,g2,h1,h2,kW,hg⟩,hd,hh⟩;refine⟨λi=>(f i).or (g1 i),g2,⟨f,g1,hf,h1,λi=>?_,λi=>rfl⟩,h2,λi=>?_,λi=>?_⟩
  ·have:=hd i;rw[hg i]at this;rcases this with e|e
   ·exact .inl e
   ·cases h:g1 i<;>simp [h]at e;exact .inr rfl
  ·have a:=hd i;have b:=kW i;rw[hg i]at a;rcases b with b|b
   ·rcases a with a|a
    ·exact .inl (show(f i).or (g1 i)=none by rw[a,b];rfl)
    ·rw[b]at a;exact .inr (by simpa using a)
   ·exact .inr b
  ·show h i=((f i).or (g1 i)).or (g2 i);rw[hh i,hg i];cases f i<;>simp
theorem zK(P:HP):emp*P=P:=by
 funext h;apply propext;constructor
 ·rintro⟨f,g,hf,hg,hd,hh⟩;have:h=g:=by funext i;rw[hh i,hf i];rfl
  rw[this];exact hg
 ·intro hp;exact⟨λ_=>none,h,λ_=>rfl,hp,λ_=>.inl rfl,λi=>by simp⟩
theorem YU(P:HP):P*emp=P:=by rw[Ob,zK]
instance : Std.Associative (α := HP) (· * ·) := ⟨Bs⟩
instance : Std.Commutative (α := HP) (· * ·) := ⟨Ob⟩
end HP
open HP
structure Hs (B : bk → Prop) (aL σ : Heap) (P : HP) : Prop where
 pre:∃bs,σ=aL++bs∧∀b∈bs,B b
 own:∃h,P h∧∀i b,h i=some b→aL.length≤i∧σ[i]? =some b
def lJ:bk→Prop:=λ_=>True
section
variable {B : bk → Prop} {aL σ : Heap} {P Q R : HP} {id : Nat} {b b' : bk}
theorem mF(e:P=Q)(H:Hs B aL σ P):Hs B aL σ Q:=e▸H
theorem Pr(k:∀h,P h→Q h)(H:Hs B aL σ (P*R)):Hs B aL σ (Q*R):=by obtain⟨h1,h,⟨f,g,hf,hg,hd,hh⟩,h2⟩:=H;exact⟨h1,h,⟨f,g,k f hf,hg,hd,hh⟩,h2⟩
theorem I2(H:Hs B aL σ (P*R)):Hs B aL σ R:=by
 obtain⟨h1,h,⟨f,g,hf,hg,hd,hh⟩,h2⟩:=H;refine⟨h1,g,hg,λi b hb=>h2 i b ?_⟩;rw[hh i];rcases hd i with e|e
 ·rw[e,hb];rfl
 ·rw[e]at hb;cases hb
theorem xD{p:Prop}:Hs B aL σ (pr p*R)↔p∧Hs B aL σ R:=by
 constructor
 ·intro H;refine⟨?_,I2 H⟩;obtain⟨h1,h,⟨f,g,hf,hg,hd,hh⟩,h2⟩:=H;exact hf.1
 ·rintro⟨hp,h1,h,hr,h2⟩;exact⟨h1,h,⟨λ_=>none,h,⟨hp,λ_=>rfl⟩,hr,λ_=>.inl rfl,λi=>by simp⟩,h2⟩
theorem Qh(σ:Heap):Hs B σ σ emp:=⟨⟨[],by simp,by simp⟩,λ_=>none,λ_=>rfl,λ_ _ h=>by cases h⟩
theorem aaF(H:Hs B aL σ P):aL.length≤σ.length:=by obtain⟨⟨bs,rfl,_⟩,_⟩:=H;simp
theorem sH(H:Hs B aL σ (blk id b*R)):aL.length≤id∧σ[id]? =some b:=by obtain⟨h1,h,⟨f,g,hf,hg,hd,hh⟩,h2⟩:=H;exact h2 id b (by rw[hh id,hf id];simp)
theorem RF(H:Hs B aL σ (blk id b*R)):B b:=by obtain⟨h1,h2⟩:=sH H;obtain⟨⟨bs,rfl,hb⟩,_⟩:=H;rw[fV h1]at h2;exact hb b (dF h2)
theorem EN(H:Hs B aL σ (blk id b*R))(hb:B b'):Hs B aL (σ.set id b') (blk id b'*R):=by
 obtain⟨hid,iR⟩:=sH H;have hlt:=(bU.1 iR).1;obtain⟨⟨bs,rfl,hB⟩,h,⟨f,g,hf,hg,hd,hh⟩,h2⟩:=H;refine⟨⟨bs.set (id-aL.length) b',by rw[sS _ _ hid],λx hx=>?_⟩,λi=>if i=id then some b' else g i,⟨λi=>if i=id then some b' else none,g,λi=>rfl,hg,λi=>?_,λi=>?_⟩,λi x hx=>?_⟩
 ·rcases List.mem_or_eq_of_mem_set hx with hx|hx
  ·exact hB x hx
  ·subst hx;exact hb
 ·have:=hd i;rw[hf i]at this;by_cases e:i=id
  ·simp only[e,if_true]at this ⊢;rcases this with h|h
   ·cases h
   ·exact .inr h
  ·simp [e]
 ·by_cases e:i=id<;>simp [e]
 ·by_cases e:i=id
  ·subst e;simp only[if_true,Option.some.injEq]at hx;subst hx;exact⟨hid,by rw[lZ hlt]⟩
  ·simp only[e,if_false]at hx;rw[List.getElem?_set_ne (λe'=>e e'.symm)];have:=h2 i x (by rw[hh i,hf i];simp [e,hx]);exact this
theorem Qg(H:Hs B aL σ R)(hb:B b):Hs B aL (σ++[b]) (blk σ.length b*R):=by
 have hl:=aaF H;obtain⟨⟨bs,rfl,hB⟩,h,hr,h2⟩:=H;have hn:∀i x,h i=some x→i<(aL++bs).length:=λi x hx=>(bU.1 (h2 i x hx).2).1
 refine⟨⟨bs++[b],by simp,λx hx=>?_⟩,λi=>if i=(aL++bs).length then some b else h i,⟨λi=>if i=(aL++bs).length then some b else none,h,λi=>rfl,hr,λi=>?_,λi=>?_⟩,λi x hx=>?_⟩
 ·rcases eN.1 hx with hx|hx
  ·exact hB x hx
  ·simp at hx;subst hx;exact hb
 ·by_cases e:i=(aL++bs).length
  ·right;cases hi:h i with
   |none=>rfl
   |some x=>have:=hn i x hi;omega
  ·simp only[e,if_false,true_or]
 ·by_cases e:i=(aL++bs).length<;>simp only[e,if_true,if_false,Option.or_some,Option.none_or,Option.some_or]
 ·by_cases e:i=(aL++bs).length
  ·subst e;simp only[if_true,Option.some.injEq]at hx;subst hx;exact⟨hl,by simp⟩
  ·simp only[e,if_false]at hx;obtain⟨k1,k2⟩:=h2 i x hx;exact⟨k1,by rw[fE (hn i x hx)];exact k2⟩
end
section
variable {α : Type} {E : an → α → HP} {B : bk → Prop} {aL σ : Heap} {R : HP}
def els(E:an→α→HP):List an→List α→HP
 |[],[]=>emp
 |e::es,x::l=>E e x*els E es l
 |_,_=>pr False
theorem Ez:∀{es:List an}{l:List α}{R:HP},Hs B aL σ (els E es l*R)→es.length=l.length
 |[],[],_,_=>rfl
 |[],_::_,_,H=>(xD.1 H).1.elim
 |_::_,[],_,H=>(xD.1 H).1.elim
 |e::es,x::l,R,H=>by have:=Ez (es:=es) (l:=l) (R:=E e x*R) (mF (by rw[els];ac_rfl) H);simp [this]
theorem BP:∀{qv mT:List an}{l1 l2:List α},qv.length=l1.length→els E (qv++mT) (l1++l2)=els E qv l1*els E mT l2
 |[],mT,[],l2,_=>by rw[els,zK];rfl
 |e::qv,mT,x::l1,l2,h=>by simp only[l6,els];rw[BP (by simpa using h)];ac_rfl
theorem Pa(e:an)(x:α):els E [e] [x]=E e x:=by rw[els,els,YU]
def fl(c:α→an):an→α→HP:=λe x=>pr (e=c x)
theorem BU{c:α→an}:∀{es:List an}{l:List α}{R:HP},Hs B aL σ (els (fl c) es l*R)↔es=l.map c∧Hs B aL σ R
 |[],[],R=>by rw[els,zK];simp
 |[],x::l,R=>by show Hs B aL σ (pr False*R)↔_;rw[xD];simp
 |e::es,[],R=>by show Hs B aL σ (pr False*R)↔_;rw[xD];simp
 |e::es,x::l,R=>by rw[els,fl,Bs,xD,BU,fJ,List.cons.injEq,and_assoc]
def Sl(E:an→α→HP)(sz:Nat)(v:AV)(l:List α):HP:=λh=>(l=[]∧(v=.aN∨v=.ez)∧emp h)∨∃id g seg,v=.os id g sz 0 l.length∧(blk id (.arr g sz seg)*els E seg l) h
variable {sz : Nat} {v : AV} {l : List α}
theorem BM(H:Hs B aL σ (Sl E sz v l*R)):(l=[]∧(v=.aN∨v=.ez)∧Hs B aL σ R)∨∃id g seg,v=.os id g sz 0 l.length∧seg.length=l.length∧Hs B aL σ (blk id (.arr g sz seg)*(els E seg l*R)):=by
 have H2:=I2 H;obtain⟨h1,h,⟨f,g,hf,hg,hd,hh⟩,h2⟩:=H;rcases hf with⟨k1,k2,k3⟩|⟨id,gg,seg,k1,k2⟩
 ·exact .inl ⟨k1,k2,H2⟩
 ·have K:Hs B aL σ (blk id (.arr gg sz seg)*(els E seg l*R)):=mF (Bs _ _ _) ⟨h1,h,⟨f,g,k2,hg,hd,hh⟩,h2⟩;exact .inr ⟨id,gg,seg,k1,Ez (R:=blk id (.arr gg sz seg)*R) (mF (by ac_rfl) K),K⟩
theorem AW(H:Hs B aL σ R)(hv:v=.aN∨v=.ez):Hs B aL σ (Sl E sz v []*R):=
 Pr (P:=emp) (λh k=>.inl ⟨rfl,hv,k⟩) (mF (zK R).symm H)
theorem Aj{id g:Nat}{seg:List an}{n:Nat}(H:Hs B aL σ (blk id (.arr g sz seg)*(els E seg l*R)))(hn:n=l.length:=by rfl):Hs B aL σ (Sl E sz (.os id g sz 0 n) l*R):=
 Pr (P:=blk id (.arr g sz seg)*els E seg l) (λh k=>.inr ⟨id,g,seg,by rw[hn],k⟩) (mF (Bs _ _ _).symm H)
theorem ET(H:Hs B aL σ (Sl E sz v l*R)):A.br v=some (.ah l.length):=by rcases BM H with⟨rfl,rfl|rfl,_⟩|⟨id,g,seg,rfl,_⟩<;>rfl
theorem Qy{ys:List an}{xs:List α}{most:Nat}(H:Hs B aL σ (Sl E sz v l*(els E ys xs*R)))(hm:l.length+xs.length≤most)(hB:∀g g' seg,(seg=[]∨B (.arr g sz seg))→B (.arr g' sz (seg++ys))):
  ∃v' σ',A.append sz most v (.sl sz ys) σ=some (v',σ')∧Hs B aL σ' (Sl E sz v' (l++xs)*R):=by
 rcases BM H with⟨rfl,hv,H⟩|⟨id,g,seg,rfl,hl,H⟩
 ·have hxl:=Ez H;by_cases hy:ys=[]
  ·subst hy;have:xs=[]:=uk (by simpa using hxl.symm);subst this;refine⟨v,σ,?_,AW (I2 H) hv⟩;rcases hv with rfl|rfl<;>simp [A.append,A.elems,A.jZ]
  ·refine⟨.os σ.length ys.length sz 0 ys.length,σ++[.arr ys.length sz ys],?_,?_⟩
   ·have:ys.length≤most:=by simp at hm;omega
    rcases hv with rfl|rfl<;>simp [A.append,A.elems,A.jZ,hy,this]
   ·have H2:=Qg H (by simpa using hB 0 ys.length [] (.inl rfl):B (.arr ys.length sz ys));exact Aj H2 (by simpa using hxl)
 ·have hxl:=Ez (mF (show _=els E ys xs*(blk id (.arr g sz seg)*(els E seg l*R)) by ac_rfl) H);obtain⟨h1,h2⟩:=sH H;by_cases hy:ys=[]
  ·subst hy;have:xs=[]:=uk (by simpa using hxl.symm);subst this;refine⟨.os id g sz 0 l.length,σ,?_,?_⟩
   ·have:l.length≤most:=by simpa using hm
    simp [A.append,A.elems,A.jZ,h2,hl,this]
   ·rw[List.append_nil];exact Aj (mF (by rw[els,zK]) H)
  ·have hp:0<ys.length:=List.length_pos_iff.2 hy;refine⟨.os id (g+ys.length) sz 0 (l.length+ys.length),σ.set id (.arr (g+ys.length) sz (seg++ys)),?_,?_⟩
   ·have e1:l.length+ys.length≤most:=by omega
    have e2:seg.take l.length=seg:=fF (by omega);simp [A.append,A.elems,A.jZ,h2,hl,e1,hy,e2,hp]
   ·have H2:=EN (b':=.arr (g+ys.length) sz (seg++ys)) H (hB g _ seg (.inr (RF H)));exact Aj (id:=id) (g:=g+ys.length) (seg:=seg++ys) (mF (by rw[BP hl];ac_rfl) H2) (by simp;omega)
end
end
section
open HP
noncomputable def wk (sz most:Nat) (zs:an) (vf:an→Heap→az) (a0 a1 a2:AV) (σ:Heap):az:=(A.cm sz a0 (some a1) none σ).bind λx1=>(A.br a2).bind λx2=>(A.eql .i x2 (AV.ah 0)).bind λx3=>A.cond x3 (A.renew [a0,a1,a2] σ a0 σ) ((A.br a0).bind λx4=>(A.eql .i a1 x4).bind λx5=>A.cond x5 ((A.append sz most a0 a2 σ).bind λr6=>A.renew [a0,a1,a2] σ r6.1 r6.2) ((A.add x4 x2).bind λx7=>A.vU (A.Cc a0) (λx8=>(A.gtr x7 x8).bind λx9=>A.cond x9 ((A.cm sz a0 none (some a1) σ).bind λbf=>(A.add x4 x2).bind λcK=>(A.sub cK a1).bind λbT=>(A.qJ sz most zs bf bT σ).bind λiL=>(A.cm sz iL.1 (some a1) none iL.2).bind λcq=>(A.hM sz cq a2 iL.2).bind λrI=>(A.add a1 x2).bind λbK=>(A.cm sz iL.1 (some bK) none rI.2).bind λbW=>(A.cm sz a0 (some a1) none rI.2).bind λbN=>(A.hM sz bW bN rI.2).bind λeE=>A.renew [a0,a1,a2] σ iL.1 eE.2) ((A.add x4 x2).bind λdw=>(A.cm sz a0 none (some dw) σ).bind λbX=>(A.add a1 x2).bind λdc=>(A.cm sz bX (some dc) none σ).bind λdX=>(rY [a2,dX] σ).bind λkX=>(A.not kX.1).bind λx25=>A.cond x25 ((A.add a1 x2).bind λeA=>(A.cm sz bX (some eA) none kX.2).bind λcg=>(A.cm sz bX (some a1) none kX.2).bind λx28=>(A.hM sz cg x28 kX.2).bind λqy=>(A.cm sz bX (some a1) none qy.2).bind λcG=>(A.hM sz cG a2 qy.2).bind λmX=>A.renew [a0,a1,a2] σ bX mX.2) ((A.cm sz bX (some x4) none kX.2).bind λx32=>(A.hM sz x32 a2 kX.2).bind λkH=>(A.cm sz bX (some a1) none kH.2).bind λx34=>(vf [x34,x2] kH.2).bind λmw=>A.renew [a0,a1,a2] σ bX mw.2))) (A.vV a0 σ λn36 rP=>(A.gtr x7 (AV.ah n36)).bind λx38=>A.cond x38 ((A.cm sz a0 none (some a1) rP).bind λi6=>(A.add x4 x2).bind λpO=>(A.sub pO a1).bind λiy=>(A.qJ sz most zs i6 iy rP).bind λiW=>(A.cm sz iW.1 (some a1) none iW.2).bind λrS=>(A.hM sz rS a2 iW.2).bind λyN=>(A.add a1 x2).bind λlg=>(A.cm sz iW.1 (some lg) none yN.2).bind λyS=>(A.cm sz a0 (some a1) none yN.2).bind λjL=>(A.hM sz yS jL yN.2).bind λAU=>A.renew [a0,a1,a2] σ iW.1 AU.2) ((A.add x4 x2).bind λjM=>(A.cm sz a0 none (some jM) rP).bind λfc=>(A.add a1 x2).bind λfS=>(A.cm sz fc (some fS) none rP).bind λgC=>(rY [a2,gC] rP).bind λkY=>(A.not kY.1).bind λpR=>A.cond pR ((A.add a1 x2).bind λmA=>(A.cm sz fc (some mA) none kY.2).bind λjN=>(A.cm sz fc (some a1) none kY.2).bind λrT=>(A.hM sz jN rT kY.2).bind λC6=>(A.cm sz fc (some a1) none C6.2).bind λkJ=>(A.hM sz kJ a2 C6.2).bind λLv=>A.renew [a0,a1,a2] σ fc Lv.2) ((A.cm sz fc (some x4) none kY.2).bind λlR=>(A.hM sz lR a2 kY.2).bind λjK=>(A.cm sz fc (some a1) none jK.2).bind λmB=>(vf [mB,x2] jK.2).bind λr64=>A.renew [a0,a1,a2] σ fc r64.2)))))
section
variable {σ : Heap} {id g sz off len : Nat} {es : List an}
theorem fI{α:Type}{X Y:Option α}:A.cond (.bool true) X Y=X:=rfl
theorem dY{α:Type}{X Y:Option α}:A.cond (.bool false) X Y=Y:=rfl
theorem Zc{R:Type}{k:AV→Option R}{u:Option R}:A.vU (A.Cc (.os id g sz off len)) k u=u:=rfl
theorem qc{y d k:Nat}(h:k≤y):A.bound y d (some (.ah (k:Int)))=some k:=by
 have:(k:Int)≤y:=by omega
 simp [A.bound,this]
theorem oM{y d:Nat}:A.bound y d none=some d:=rfl
theorem tU(h:σ[id]? =some (.arr g sz es))(hl:off+len≤es.length):A.room σ id g sz off len=es.length-off:=by simp [A.room,h,hl]
theorem NY(h:σ[id]? =some (.kR g sz es)):A.room σ id g sz off len=len:=by simp [A.room,h]
theorem rQ{lo hi:Option AV}{r h l:Nat}(hr:A.room σ id g sz off len=r)(hh:A.bound r len hi=some h)(hl:A.bound h 0 lo=some l):A.cm sz (.os id g sz off len) lo hi σ=some (.os id g sz (off+l) (h-l)):=by simp [A.cm,hr,hh,hl]
theorem Je{a b:Nat}(h:a+b<9223372036854775808):A.add (.ah (a:Int)) (.ah (b:Int))=some (.ah ((a+b:Nat):Int)):=by rw[B8,dK (by unfold aZ;omega)];simp
theorem aa9{a b:Nat}(h:b≤a)(h2:a<9223372036854775808):A.sub (.ah (a:Int)) (.ah (b:Int))=some (.ah ((a-b:Nat):Int)):=by rw[Ff,dK (by unfold aZ;omega),Int.ofNat_sub h]
theorem QZ(a b:Nat):A.eql .i (.ah (a:Int)) (.ah (b:Int))=some (.bool (decide (a=b))):=by rw[uH];have:((a:Int)=(b:Int))=(a=b):=propext ⟨λh=>by omega,λh=>by omega⟩;simp only[this]
theorem aap{R:Type}{p:Nat→Prop}{k:Nat→Option R}{r:R}(n:Nat)(hn:p n)(h:∀n,p n→k n=some r):A.all p k=some r:=by
 have hx:∃r,∀n,p n→k n=some r:=⟨r,h⟩
 unfold A.all;rw[dif_pos hx];have:=Classical.choose_spec hx n hn;rw[h n hn]at this;injection this with this
 rw[←this]
theorem Ey{σ:Heap}{y:AV}{ys:List an}(h:σ[id]? =some (.arr g sz es))(hl:off+len≤es.length)(hy:A.elems sz y σ=some ys)(h0:ys.length≠0)(h1:len≠0):
  A.hM sz (.os id g sz off len) y σ=some (.ah (ys.take len).length,σ.set id (.arr g sz (es.take off++ys.take len++es.drop (off+(ys.take len).length)))):=by
 simp only[A.hM,hy,aQ,h];rw[aK (by simp [hl]),aI (by simp only[not_or];exact⟨h0,h1⟩)]
theorem Yl(h:σ[id]? =some (.arr g sz es))(hl:off+len≤es.length):A.elems sz (.os id g sz off len) σ=some ((es.drop off).take len):=by simp [A.elems,h,hl]
theorem Xi(h:σ[id]? =some (.kR g sz es))(hl:off+len≤es.length):A.elems sz (.os id g sz off len) σ=some ((es.drop off).take len):=by simp [A.elems,h,hl]
end
section
variable {α : Type} {E : an → α → HP} {aL σ : Heap} {R : HP} {sz most : Nat} {zs : an} {vf : an → Heap → az} {v : AV} {l : List α} {y : α} {ye : an} {i : Nat}
theorem Pk(id g n:Nat)(i:AV)(hi:∃k:Int,i=.ah k):A.gen [.os id g sz 0 n,i,.sl sz [ye]]=g+n+1:=by obtain⟨k,rfl⟩:=hi;simp [A.gen]
theorem ZE{id g n:Nat}{seg:List an}(hs:σ[id]? =some (.arr g sz seg))(hl:seg.length=n)(hi:i<n)(hm:n+1≤most)(hb:n<4611686018427387904):
  wk sz most zs vf (.os id g sz 0 n) (.ah (i:Int)) (.sl sz [ye]) σ=some (.os id (g+n+2) sz 0 (n+1),σ.set id (.arr (g+n+2) sz (seg.take i++[ye]++seg.drop i))):=by
 have hid:=(bU.1 hs).1;have xL:A.gen [.os id g sz 0 n,.ah (i:Int),.sl sz [ye]]=g+n+1:=Pk id g n _ ⟨_,rfl⟩;unfold wk;rw[rQ (tU hs (by omega)) oM (qc (k:=i) (by omega)),aQ];rw[show A.br (.sl sz [ye])=some (.ah ((1:Nat):Int))from rfl,aQ];rw[show A.eql .i (.ah ((1:Nat):Int)) (.ah 0)=some (.bool false)from rfl,aQ];rw[dY];rw[show A.br (.os id g sz 0 n)=some (.ah (n:Int))from rfl,aQ,QZ,aQ,dL (by omega)];rw[dY,Je (by omega),aQ,Zc];simp only[A.vV,hs];rw[aK (by simp;omega)];refine aap n (by omega) λc hc=>?_
 obtain⟨hc1,nG⟩:=hc;by_cases ht:c=n
 ·subst ht;rw[aK rfl];obtain⟨σ1,ux⟩:∃σ1,σ1=σ.set id (.kR g sz seg):=⟨_,rfl⟩
  have h1:σ1[id]? =some (.kR g sz seg):=by rw[ux,lZ hid]
  have mu:σ1.length=σ.length:=by rw[ux,List.length_set]
  rw[←ux];rw[show A.gtr (.ah ((c+1:Nat):Int)) (.ah (c:Int))=some (.bool true) by simp [A.gtr];omega,aQ];rw[fI,rQ (NY h1) (qc (k:=i) (by omega)) oM,aQ,Je (by omega),aQ,aa9 (by omega) (by omega),aQ];obtain⟨rows,hrows⟩:∃rows,rows=seg.take i++List.replicate (c+1-i) zs:=⟨_,rfl⟩
  have hrl:rows.length=c+1:=by rw[hrows];simp;omega
  have e1:A.qJ sz most zs (.os id g sz (0+0) (i-0)) (.ah ((c+1-i:Nat):Int)) σ1=some (.os σ1.length (c+1) sz 0 (c+1),σ1++[.arr (c+1) sz rows]):=by
   have q1:(0:Int)≤((c+1-i:Nat):Int)∧((c+1-i:Nat):Int)≤most:=by omega
   have q2:i+(c+1-i)=c+1:=by omega
   simp only[A.qJ];rw[aK q1];simp only[A.jZ,Nat.zero_add,Nat.sub_zero,h1,Int.toNat_natCast,List.length_replicate,List.drop_zero,←hrows];rw[aK (by simp;omega),q2]
  rw[e1,aQ];simp only;have h2:(σ1++[bk.arr (c+1) sz rows])[σ1.length]? =some (.arr (c+1) sz rows):=by simp
  rw[rQ (tU h2 (by omega)) oM (qc (k:=i) (by omega)),aQ];rw[Ey (ys:=[ye]) h2 (by omega) (by simp [A.elems]) (by simp) (by omega),aQ];have e2:([ye]:List an).take (c+1-i)=[ye]:=fF (by simp;omega);rw[e2];simp only[Nat.zero_add,List.length_singleton];rw[aQ];obtain⟨oQ,Jj⟩:∃oQ,oQ=rows.take i++[ye]++rows.drop (i+1):=⟨_,rfl⟩
  have adV:oQ.length=c+1:=by rw[Jj];simp;omega
  rw[←Jj];have nA:(σ1++[bk.arr (c+1) sz rows]).set σ1.length (.arr (c+1) sz oQ)=σ1++[.arr (c+1) sz oQ]:=by simp
  rw[nA];have h3:(σ1++[bk.arr (c+1) sz oQ])[σ1.length]? =some (.arr (c+1) sz oQ):=by simp
  have h3':(σ1++[bk.arr (c+1) sz oQ])[id]? =some (.kR g sz seg):=by rw[fE (by omega)];exact h1
  rw[rQ (tU h3 (by omega)) oM (qc (k:=i+1) (by omega)),aQ];rw[rQ (NY h3') oM (qc (k:=i) (by omega)),aQ];rw[Ey h3 (by omega) (Xi h3' (by omega)) (by simp;omega) (by omega),aQ]
  have e3:((seg.drop (0+i)).take (c-i)).take (c+1-(i+1))=seg.drop i:=by rw[Nat.zero_add,fF (by simp;omega),fF (by simp;omega)]
  rw[e3]
  have e4:oQ.take (0+(i+1))++seg.drop i++oQ.drop (0+(i+1)+(seg.drop i).length)=seg.take i++[ye]++seg.drop i:=by
   have q1:oQ.drop (0+(i+1)+(seg.drop i).length)=[]:=List.drop_of_length_le (by simp;omega);have q2:rows.take i=seg.take i:=by rw[hrows,List.take_append_of_le_length (by simp;omega),List.take_take,Nat.min_self]
   have q3:oQ.take (0+(i+1))=seg.take i++[ye]:=by rw[Jj,q2,Nat.zero_add,List.take_append_of_le_length (by simp;omega),fF (by simp;omega)]
   rw[q1,q3];simp
  rw[e4];have abw:(σ1++[bk.arr (c+1) sz oQ]).set σ1.length (.arr (c+1) sz (seg.take i++[ye]++seg.drop i))=σ1++[.arr (c+1) sz (seg.take i++[ye]++seg.drop i)]:=by simp
  simp only;rw[abw];have h4:(σ1++[bk.arr (c+1) sz (seg.take i++[ye]++seg.drop i)])[σ1.length]? =some (.arr (c+1) sz (seg.take i++[ye]++seg.drop i)):=by simp
  have iw:(seg.take i++[ye]++seg.drop i).length=c+1:=by simp;omega
  have e5:((seg.take i++[ye]++seg.drop i).drop 0).take (c+1)=seg.take i++[ye]++seg.drop i:=by rw[List.drop_zero,fF (by omega)]
  simp only[A.renew,h4];rw[xL,aK (by simp only[true_and];omega),aI (by simp [A.Rq,mu]),e5];simp only[A.merge,hs,xL];rw[aK]
  ·rw[iw]
  refine⟨by omega,by simp [mu],rfl,by omega,λj hj hne=>?_,by rw[fE (by omega)];exact h1,λz hz=>?_⟩
  ·rw[fE (by omega),ux,List.getElem?_set_ne (λe=>hne e.symm)]
  ·simp only[eN,List.mem_singleton]at hz;rcases hz with(hz|hz)|hz
   ·exact .inl (uo hz)
   ·right;simp [A.rowsOf,hz]
   ·exact .inl (List.mem_of_mem_drop hz)
 ·rw[aI ht];obtain⟨es,tC⟩:∃es,es=seg++List.replicate (0+c-seg.length) (List.replicate sz AV.undef):=⟨_,rfl⟩
  have hel:es.length=c:=by rw[tC];simp;omega
  have het:∀k,k≤n→es.take k=seg.take k:=λk hk=>by rw[tC,List.take_append_of_le_length (by omega)]
  obtain⟨σ1,ux⟩:∃σ1,σ1=σ.set id (.arr g sz es):=⟨_,rfl⟩
  have h1:σ1[id]? =some (.arr g sz es):=by rw[ux,lZ hid]
  have mu:id<σ1.length:=by rw[ux,List.length_set];exact hid
  rw[←tC,←ux];rw[show A.gtr (.ah ((n+1:Nat):Int)) (.ah (c:Int))=some (.bool false) by simp [A.gtr];omega,aQ];rw[dY,Je (by omega),aQ];rw[rQ (tU h1 (by omega)) (qc (k:=n+1) (by omega)) oM,aQ,aQ];simp only[Nat.zero_add,Nat.sub_zero];rw[rQ (tU h1 (by omega)) oM (qc (k:=i+1) (by omega)),aQ]
  have e1:rY [.sl sz [ye],.os id g sz (0+(i+1)) (n+1-(i+1))] σ1=some (.bool false,σ1):=by simp only[rY,A.dU,h1];rw[aK];refine⟨by simp,trivial,λe=>?_,by omega⟩;rw[e]at hel;simp at hel;omega
  rw[e1,aQ,show A.not (.bool false)=some (.bool true)from rfl,aQ,fI,aQ];simp only;rw[rQ (tU h1 (by omega)) oM (qc (k:=i+1) (by omega)),aQ];rw[rQ (tU h1 (by omega)) oM (qc (k:=i) (by omega)),aQ];rw[Ey h1 (by omega) (Yl h1 (by omega)) (by simp;omega) (by omega),aQ]
  have e2:((es.drop (0+i)).take (n+1-i)).take (n+1-(i+1))=seg.drop i:=by rw[List.take_take,Nat.zero_add,show min (n+1-(i+1)) (n+1-i)=n-i by omega,List.take_drop,show i+(n-i)=n by omega,het n (ay _),fF (by omega)]
  rw[e2];obtain⟨mT,Fj⟩:∃mT,mT=es.take (0+(i+1))++seg.drop i++es.drop (0+(i+1)+(seg.drop i).length):=⟨_,rfl⟩
  have adM:mT.length=c:=by rw[Fj];simp;omega
  rw[←Fj];have h2:(σ1.set id (.arr g sz mT))[id]? =some (.arr g sz mT):=lZ mu;simp only;rw[rQ (tU h2 (by omega)) oM (qc (k:=i) (by omega)),aQ];rw[Ey (ys:=[ye]) h2 (by omega) (by simp [A.elems]) (by simp) (by omega),aQ];have e3:([ye]:List an).take (n+1-i)=[ye]:=fF (by simp;omega);rw[e3];simp only[Nat.zero_add,List.length_singleton,List.set_set];obtain⟨AE,J2⟩:∃AE,AE=mT.take i++[ye]++mT.drop (i+1):=⟨_,rfl⟩
  have adN:AE.length=c:=by rw[J2];simp;omega
  rw[←J2];have h3:(σ1.set id (.arr g sz AE))[id]? =some (.arr g sz AE):=lZ mu
  have e4:(AE.drop 0).take (n+1)=seg.take i++[ye]++seg.drop i:=by
   have q1:mT.take i=seg.take i:=by rw[Fj,kP,List.take_append_of_le_length (by simp;omega),List.take_take,show min i (0+(i+1))=i by omega,het i (by omega)]
   have q2:mT.drop (i+1)=seg.drop i++es.drop (i+1+(seg.drop i).length):=by rw[Fj,Nat.zero_add,kP,List.drop_append_of_le_length (by simp;omega),List.drop_of_length_le (by simp;omega),List.nil_append]
   rw[List.drop_zero,J2,q1,q2,←kP,List.take_append_of_le_length (by simp;omega),fF (by simp;omega)]
  simp only[A.renew,h3];rw[xL,aK (by simp only[true_and];omega),aK (.inl hid),e4,List.set_set,ux,List.set_set]
theorem ZD{id g n:Nat}{seg:List an}(hs:σ[id]? =some (.arr g sz seg))(hl:seg.length=n)(hm:n+1≤most):
  wk sz most zs vf (.os id g sz 0 n) (.ah (n:Int)) (.sl sz [ye]) σ=some (.os id (g+n+2) sz 0 (n+1),σ.set id (.arr (g+n+2) sz (seg++[ye]))):=by
 have hid:=(bU.1 hs).1;have xL:A.gen [.os id g sz 0 n,.ah (n:Int),.sl sz [ye]]=g+n+1:=Pk id g n _ ⟨_,rfl⟩;unfold wk;rw[rQ (tU hs (by omega)) oM (qc (k:=n) (by omega)),aQ];rw[show A.br (.sl sz [ye])=some (.ah ((1:Nat):Int))from rfl,aQ];rw[show A.eql .i (.ah ((1:Nat):Int)) (.ah 0)=some (.bool false)from rfl,aQ];rw[dY];rw[show A.br (.os id g sz 0 n)=some (.ah (n:Int))from rfl,aQ,QZ,aQ,eY rfl,fI]
 have e1:A.append sz most (.os id g sz 0 n) (.sl sz [ye]) σ=some (.os id (g+1) sz 0 (n+1),σ.set id (.arr (g+1) sz (seg++[ye]))):=by have q:seg.take n=seg:=fF (by omega);simp [A.append,A.elems,A.jZ,hs,hl,hm,q]
 rw[e1,aQ];have h2:(σ.set id (.arr (g+1) sz (seg++[ye])))[id]? =some (.arr (g+1) sz (seg++[ye])):=lZ hid;simp only[A.renew,h2];rw[xL,aK (by simp;omega),aK (.inl hid),List.set_set,List.drop_zero,fF (by simp;omega)]
theorem ZF(hv:v=.aN∨v=.ez)(hm:1≤most):wk sz most zs vf v (.ah 0) (.sl sz [ye]) σ=some (.os σ.length 2 sz 0 1,σ++[.arr 2 sz [ye]]):=by
 have xL:∀w:AV,(w=.aN∨w=.ez)→A.gen [w,.ah 0,.sl sz [ye]]=1:=by rintro w (rfl|rfl)<;>simp [A.gen]
 have hbd:A.bound 0 0 (some (AV.ah 0))=some 0:=qc (y:=0) (d:=0) (k:=0) (ay _)
 have key:∀w:AV,(w=.aN∨w=.ez)→A.renew [w,.ah 0,.sl sz [ye]] σ (.os σ.length 1 sz 0 1) (σ++[.arr 1 sz [ye]])=some (.os σ.length 2 sz 0 1,σ++[.arr 2 sz [ye]]):=by
  intro w hw;have h2:(σ++[bk.arr 1 sz [ye]])[σ.length]? =some (.arr 1 sz [ye]):=by simp
  simp only[A.renew,h2];rw[xL w hw,aK (by simp),aK (.inr (by rcases hw with rfl|rfl<;>rfl))];simp
 unfold wk;rw[show A.br (.sl sz [ye])=some (.ah ((1:Nat):Int))from rfl];rcases hv with rfl|rfl
 ·rw[show A.cm sz .aN (some (.ah 0)) none σ=some .aN by simp [A.cm,oM,hbd],aQ,aQ];rw[show A.eql .i (.ah ((1:Nat):Int)) (.ah 0)=some (.bool false)from rfl,aQ,dY];rw[show A.br .aN=some (.ah 0)from rfl,aQ,show A.eql .i (.ah 0) (.ah 0)=some (.bool true)from rfl,aQ,fI];rw[show A.append sz most .aN (.sl sz [ye]) σ=some (.os σ.length 1 sz 0 1,σ++[.arr 1 sz [ye]]) by simp [A.append,A.elems,A.jZ,hm],aQ];exact key _ (.inl rfl)
 ·rw[show A.cm sz .ez (some (.ah 0)) none σ=some .ez by simp [A.cm,oM,hbd],aQ,aQ];rw[show A.eql .i (.ah ((1:Nat):Int)) (.ah 0)=some (.bool false)from rfl,aQ,dY];rw[show A.br .ez=some (.ah 0)from rfl,aQ,show A.eql .i (.ah 0) (.ah 0)=some (.bool true)from rfl,aQ,fI];rw[show A.append sz most .ez (.sl sz [ye]) σ=some (.os σ.length 1 sz 0 1,σ++[.arr 1 sz [ye]]) by simp [A.append,A.elems,A.jZ,hm],aQ];exact key _ (.inr rfl)
theorem aa1{B:bk→Prop}(H:Hs B aL σ (Sl E sz v l*(E ye y*R)))(hi:i≤l.length)(hm:l.length+1≤most)(hb:l.length<4611686018427387904)(hB:∀g g' seg k,(seg=[]∨B (.arr g sz seg))→B (.arr g' sz (seg.take k++[ye]++seg.drop k))):
  ∃v' σ',wk sz most zs vf v (.ah (i:Int)) (.sl sz [ye]) σ=some (v',σ')∧Hs B aL σ' (Sl E sz v' (l.take i++[y]++l.drop i)*R):=by
 rcases BM H with⟨rfl,hv,H⟩|⟨id,g,seg,rfl,hl,H⟩
 ·have SN:i=0:=by simpa using hi
  subst SN;refine⟨_,_,ZF hv (by simpa using hm),?_⟩;have H2:=Qg (b:=.arr 2 sz [ye]) H (by simpa using hB 0 2 [] 0 (.inl rfl));exact Aj (id:=σ.length) (g:=2) (seg:=[ye]) (mF (by simp only[List.take_nil,List.drop_nil,List.nil_append,List.append_nil,Pa]) H2) rfl
 ·obtain⟨h1,h2⟩:=sH H
  have e:∃g',wk sz most zs vf (.os id g sz 0 l.length) (.ah (i:Int)) (.sl sz [ye]) σ=some (.os id g' sz 0 (l.length+1),σ.set id (.arr g' sz (seg.take i++[ye]++seg.drop i))):=by
   by_cases hil:i=l.length
   ·subst hil;refine⟨g+l.length+2,?_⟩;rw[ZD h2 hl hm,fF (by omega),List.drop_of_length_le (by omega),List.append_nil]
   ·exact⟨_,ZE h2 hl (by omega) hm hb⟩
  obtain⟨g',e⟩:=e;refine⟨_,_,e,?_⟩;have H2:=EN (b':=.arr g' sz (seg.take i++[ye]++seg.drop i)) H (hB g g' seg i (.inr (RF H)));refine Aj (id:=id) (g:=g') (seg:=seg.take i++[ye]++seg.drop i) (mF ?_ H2) (by simp;omega)
  have q:els E seg l=els E (seg.take i) (l.take i)*els E (seg.drop i) (l.drop i):=by rw[←BP (by simp;omega),List.take_append_drop,List.take_append_drop]
  rw[BP (qv:=seg.take i++[ye]) (l1:=l.take i++[y]) (by simp;omega),BP (by simp;omega),Pa,q];ac_rfl
end
end
section
def sW{α:Type}(f:Nat→α→Int):List α→Nat→Int
 |[],_=>0
 |x::l,i=>if f i x=0 then sW f l (i+1)else f i x
section
variable {α β γ S B R : Type}
theorem zV{l:List α}{body:Nat→α→S→Option (Lr S B R)}{fin:S→Option B}{s:S}{K1:B→Option γ}{K2:R→Option γ}(hl:l.length≤bQ):nw l body fin s K1 K2=(iG body fin l 0 s).bind λq=>q.elim K1 K2:=aK hl
theorem Yp{f:Nat→α→Int}{l:List α}{body:Nat→α→Unit→Option (Lr Unit Unit Int)}{fin:Unit→Option Unit}{s:Unit}{K1:Unit→Option γ}{K2:Int→Option γ}(hl:l.length≤bQ)(hb:∀i x,l[i]? =some x→body i x ()=some (if f i x=0 then .go ()else .ret (f i x)))(hf:fin ()=some ():=by rfl):nw l body fin s K1 K2=if sW f l 0=0 then K1 ()else K2 (sW f l 0):=by
 rw[zV hl]
 have key:∀(rest pre:List α),l=pre++rest→iG body fin rest pre.length ()=some (if sW f rest pre.length=0 then .inl ()else .inr (sW f rest pre.length)):=by
  intro rest;induction rest with
  |nil=>intro pre _;simp [iG,hf,sW]
  |cons x rest ih=>
   intro pre hp;rw[iG,hb pre.length x (by rw[hp];simp),aQ,sW];by_cases h:f pre.length x=0
   ·simp only[h,if_true];have:=ih (pre++[x]) (by simpa using hp);simpa using this
   ·simp only[h,if_false]
 have k:=key l [] rfl;rw[List.length_nil]at k;rw[show s=()from rfl,k,aQ];split<;>rfl
theorem go_ret:(some (.go ()):Option (Lr Unit Unit Int))=some (if(0:Int)=0 then .go ()else .ret 0):=rfl
theorem Xq{p:α→Bool}{l:List α}{body:Nat→α→Unit→Option (Lr Unit Unit R)}{r:α→R}{fin:Unit→Option Unit}{s:Unit}{K1:Unit→Option γ}{K2:R→Option γ}(hl:l.length≤bQ)(hb:∀i x,l[i]? =some x→body i x ()=some (if p x=true then .ret (r x)else .go ()))(hf:fin ()=some ():=by rfl):nw l body fin s K1 K2=match l.find? p with|some x=>K2 (r x)|none=>K1 ():=by
 rw[zV hl]
 have key:∀(rest pre:List α),l=pre++rest→iG body fin rest pre.length ()=some (match rest.find? p with|some x=>.inr (r x)|none=>.inl ()):=by
  intro rest;induction rest with
  |nil=>intro pre _;simp [iG,hf]
  |cons x rest ih=>
   intro pre hp;rw[iG,hb pre.length x (by rw[hp];simp),aQ,List.find?_cons];cases h:p x
   ·simp only[Bool.false_eq_true,if_false];have:=ih (pre++[x]) (by simpa using hp);simpa using this
   ·simp only[if_true]
 have k:=key l [] rfl;rw[List.length_nil]at k;rw[show s=()from rfl,k,aQ];cases l.find? p<;>rfl
theorem Xr{l:List α}{body:Nat→α→S→Option (Lr S B R)}{fin:S→Option B}{s:S}{K1:B→Option γ}{K2:R→Option γ}(g:S→α→S)(P:Nat→S→Prop)(hl:l.length≤bQ)(h0:P 0 s)(hP:∀i x s,l[i]? =some x→P i s→P (i+1) (g s x))(hb:∀i x s,l[i]? =some x→P i s→body i x s=some (.go (g s x))):nw l body fin s K1 K2=(fin (l.foldl g s)).bind K1:=by
 rw[zV hl]
 have key:∀(rest pre:List α)(s:S),l=pre++rest→P pre.length s→iG body fin rest pre.length s=(fin (rest.foldl g s)).map .inl:=by
  intro rest;induction rest with
  |nil=>intro pre s _ _;simp [iG]
  |cons x rest ih=>
   intro pre s hp hq;have hx:l[pre.length]? =some x:=by rw[hp];simp
   rw[iG,hb pre.length x s hx hq,aQ,List.foldl_cons];have:=ih (pre++[x]) (g s x) (by simpa using hp) (by simpa using hP _ _ _ hx hq);simpa using this
 have k:=key l [] s rfl h0;rw[List.length_nil]at k;rw[k];cases fin (l.foldl g s)<;>rfl
def pv [Inhabited α](l:List α)(i:Nat):α:=if 0<i then l.getD (i-1) default else default
theorem Ja{l:List α}{i:Int}{x:α}(h0:0≤i)(h:l[i.toNat]? =some x):yQ l i=some x:=by rw[yQ,aK h0,h]
theorem aad{l:List α}{i:Nat}(h:i≤l.length):AY l none (some (i:Int))=some (l.take i):=by simp [AY,h]
theorem abg{a b c:Int}:(([a,b,c]:List Int).find? λn=>decide (¬n=0)).getD 0=if ¬(a=0)then a else if ¬(b=0)then b else c:=by
 by_cases ha:a=0
 ·by_cases hb:b=0
  ·by_cases hc:c=0<;>simp [ha,hb,hc,List.find?]
  ·simp [ha,hb,List.find?]
 ·simp [ha,List.find?]
end
theorem Et(s:ByteArray):s.toList=s.data.toList:=ByteArray.toList_eq s
theorem O6:∀(a b:List UInt8),Lib.compareBytes a b<0↔Op.bytesLess a b=true
 |[],[]=>by simp [Lib.compareBytes,Op.bytesLess]
 |[],_::_=>by simp [Lib.compareBytes,Op.bytesLess]
 |_::_,[]=>by simp [Lib.compareBytes,Op.bytesLess]
 |a::x,b::y=>by
  rw[Lib.compareBytes,Op.bytesLess];by_cases h1:a<b
  ·simp [h1]
  ·by_cases h2:b<a
   ·have:a≠b:=by rintro rfl;exact h1 h2
    simp [h1,h2,this]
   ·have:a=b:=UInt8.le_antisymm (UInt8.not_lt.1 h2) (UInt8.not_lt.1 h1);subst this;simp [UInt8.lt_irrefl,O6 x y]
theorem IT:∀(a b:List UInt8),Lib.compareBytes a b=0↔a=b
 |[],[]=>by simp [Lib.compareBytes]
 |[],_::_=>by simp [Lib.compareBytes]
 |_::_,[]=>by simp [Lib.compareBytes]
 |a::x,b::y=>by
  rw[Lib.compareBytes];by_cases h1:a<b
  ·have:a≠b:=by rintro rfl;exact UInt8.lt_irrefl _ h1
   simp [h1,this]
  ·by_cases h2:b<a
   ·have:a≠b:=by rintro rfl;exact UInt8.lt_irrefl _ h2
    simp [h1,h2,this]
   ·have:a=b:=UInt8.le_antisymm (UInt8.not_lt.1 h2) (UInt8.not_lt.1 h1);subst this;simp [UInt8.lt_irrefl,IT x y]
def lQ(a b:aS):Bool:=decide (a.unit<b.unit)||(decide (a.unit=b.unit)&&Op.bytesLess a.param.toList b.param.toList)
def vY(a b:aS):Int:=if ¬(a.unit=b.unit)then(if a.unit<b.unit then -1 else 1)else Lib.compareBytes a.param.data.toList b.param.data.toList
theorem O7(a b:aS):vY a b<0↔lQ a b=true:=by
 unfold vY lQ;by_cases h:a.unit=b.unit
 ·simp [h,Et,O6]
 ·by_cases h2:a.unit<b.unit<;>simp [h,h2]
theorem Zg(a b:aS):vY a b=0↔a=b:=by
 obtain⟨u,p⟩:=a;obtain⟨v,q⟩:=b;unfold vY;by_cases h:u=v
 ·subst h;simp only[not_true_eq_false,if_false,IT,aS.mk.injEq,true_and];exact⟨λe=>by obtain⟨⟨p⟩⟩:=p;obtain⟨⟨q⟩⟩:=q;simp at e;subst e;rfl,λe=>by rw[e]⟩
 ·by_cases h2:u<v<;>simp [h,h2]
end
def bz(n lo hi:Int):Bool:=decide (lo≤n∧n≤hi)
def yJ(c:UInt8):Bool:=decide (97≤c.toNat∧c.toNat≤122)||decide (48≤c.toNat∧c.toNat≤57)||decide (c.toNat=45)
def uD(s:ByteArray):Bool:=s.data.toList.all yJ&&decide (0<s.size)
def lW(s:ByteArray):Bool:=uD s&&decide (s.size≤20)&&decide (97≤(s.data.toList.getD 0 0).toNat)&&decide ((s.data.toList.getD 0 0).toNat≤122)
theorem Xv(s:ByteArray)(i:Nat)(h:i<s.size):s.data.toList.getD i 0=s[i]:=by rw[List.getD_eq_getElem?_getD,cI (by simpa using h)];rfl
def xJ(pre:List ko):List ko→Int
 |[]=>0
 |r::rest=>
  if bz r.low 0 65535=false∨bz r.high 0 65535=false∨r.high<r.low then 1
  else if 0<pre.length∧r.low≤(pre.getLast?.map (·.high)).getD 0 then 7
  else if lW r.name=false then 5
  else if dA r.name (pre.map (·.name))=true then 6
  else xJ (pre++[r]) rest
def vJ(l:List ko):Int:=if 30<l.length then 2 else xJ [] l
def slotsOf(l:List dR):List Int:=l.flatMap λx=>if 0<x.cU then[x.ef,x.cU]else[x.ef]
theorem MA(l:List dR)(x:dR):slotsOf (l++[x])=slotsOf l++(if 0<x.cU then[x.ef,x.cU]else[x.ef]):=by simp [slotsOf]
def vW(size:Int)(pre:List dR):List dR→Int
 |[]=>0
 |x::rest=>
  if lW x.name=false then 5
  else if dA x.name (pre.map (·.name))=true then 6
  else if bz x.group 1 4=false then 4
  else if bz x.ef 1 size=false∨bz x.cU 0 size=false∨bz x.default 0 65535=false then 1
  else if x.ef=x.cU∨dA x.ef (slotsOf pre)=true∨(0<x.cU∧dA x.cU (slotsOf pre)=true)then 12
  else if vJ x.ranges=0 then vW size (pre++[x]) rest else vJ x.ranges
def kK(p:ct):Int:=
 if lW p.name=false then 5 else if bz p.size 1 512=false then 1 else if p.params.length=0 then 8 else if 40<p.params.length then 2 else vW p.size [] p.params
def kN(xa xf:Int):List Int:=if xf=0 then[xa]else[xa,xf]
def sY(size:Int)(pre:List dR)(x:dR):Int:=
 if lW x.name=false then 5
 else if dA x.name (pre.map (·.name))=true then 6
 else if bz x.group 1 4=false then 4
 else if bz x.ef 1 size=false∨bz x.cU 0 size=false∨bz x.default 0 65535=false then 1
 else if x.ef=x.cU∨dA x.ef (slotsOf pre)=true∨(0<x.cU∧dA x.cU (slotsOf pre)=true)then 12
 else vJ x.ranges
theorem Xc(size:Int)(pre:List dR)(x:dR)(rest:List dR):vW size pre (x::rest)=if sY size pre x=0 then vW size (pre++[x]) rest else sY size pre x:=by
 rw[vW,sY];split<;>first|(simp;done)|skip
 split<;>first|(simp;done)|skip
 split<;>first|(simp;done)|skip
 split<;>first|(simp;done)|skip
 split<;>first|(simp;done)|skip
def Ab(xa xf ya yf:Int):Bool:=(kN xa xf).any λs=>dA s (kN ya yf)
def P4(xa xf:Int)(l:List dR):Bool:=l.any λy=>Ab xa xf y.ef y.cU
theorem VT{s:Int}{l:List dR}(h:∀y∈l,0≤y.cU):s∈slotsOf l↔∃y∈l,s∈kN y.ef y.cU:=by
 simp only[slotsOf,List.mem_flatMap];constructor
 ·rintro⟨y,hy,hs⟩;refine⟨y,hy,?_⟩;have:=h y hy;unfold kN;split at hs
  ·rw[aI (by omega)];exact hs
  ·split
   ·exact hs
   ·simp at hs;simp [hs]
 ·rintro⟨y,hy,hs⟩;refine⟨y,hy,?_⟩;have:=h y hy;unfold kN at hs;split at hs
  ·rw[aI (by omega)];exact hs
  ·rw[aK (by omega)];exact hs
theorem Xe{xa xf:Int}{l:List dR}(h:∀y∈l,0≤y.cU)(hx:0≤xf):P4 xa xf l=true↔(dA xa (slotsOf l)=true∨(0<xf∧dA xf (slotsOf l)=true)):=by
 simp only[Ek,VT h,P4,Ab,List.any_eq_true];constructor
 ·rintro⟨y,hy,s,hs,hm⟩;unfold kN at hs;split at hs
  ·simp at hs;subst hs;exact .inl ⟨y,hy,hm⟩
  ·simp at hs;rcases hs with rfl|rfl
   ·exact .inl ⟨y,hy,hm⟩
   ·exact .inr ⟨by omega,y,hy,hm⟩
 ·rintro(⟨y,hy,hm⟩|⟨h0,y,hy,hm⟩)
  ·exact⟨y,hy,xa,by unfold kN;split<;>simp,hm⟩
  ·exact⟨y,hy,xf,by unfold kN;rw[aI (by omega)];simp,hm⟩
theorem Xd{size:Int}{pre:List dR}{x:dR}(h:sY size pre x=0):0≤x.cU:=by
 unfold sY at h;split at h
 ·cases h
 split at h
 ·cases h
 split at h
 ·cases h
 split at h
 ·cases h
 rename_i h4;cases hf:bz x.cU 0 size
 ·exact absurd (.inr (.inl hf)) h4
 ·simp [bz]at hf;exact hf.1
def sX(pre:List ct):List ct→Int
 |[]=>0
 |p::rest=>if kK p=0 then(if dA p.name (pre.map (·.name))=true then 6 else sX (pre++[p]) rest)else kK p
def oZ(l:List ct):Int:=if 60<l.length then 2 else sX [] l
def eC(nm:ByteArray):List ct→ct×Bool
 |[]=>(⟨⟨#[]⟩,0,[]⟩,false)
 |p::rest=>if p.name=nm then(p,true)else eC nm rest
def qg(f:Nat→Bool):Nat→Nat→Bool
 |0,_=>true
 |n+1,a=>if 512<a∨f a=true then false else qg f n (a+1)
def kM(f:Int→Nat→Bool)(u:Int)(a s:Nat):Int→Nat→Bool:=λv k=>if v=u∧a≤k∧k<a+s then true else f v k
def wm(pre:List Int)(n:Int):Bool:=match pre.getLast? with|some m=>decide (n≤m)|none=>false
def fD(eT:List ct)(u:eG):Int:=u.address+(eC u.fq eT).1.size-1
def vL(eT:List ct)(u:eG)(pre:List eG):Bool:=pre.any λx=>decide (x.univ=u.univ∧x.address≤fD eT u∧u.address≤fD eT x)
def vX(eT:List ct)(pre:List eG):List eG→Int
 |[]=>0
 |u::rest=>
  if bz u.cz 1 9999=false then 1
  else if wm (pre.map (·.cz)) u.cz=true then 7
  else if(eC u.fq eT).2=false then 5
  else if bz u.univ 1 64=false∨bz u.address 1 512=false∨512<fD eT u then 1
  else if vL eT u pre=true then 12
  else vX eT (pre++[u]) rest
def eS(r:dP):Int:=if oZ r.bL=0 then(if 400<r.fA.length then 2 else vX r.bL [] r.fA)else oZ r.bL
def zS(eT:List ct)(pre:List eG):Prop:=∀x∈pre,1≤x.address∧x.address≤fD eT x∧fD eT x≤512
def vK(eT:List ct)(pre:List eG)(f:Int→Nat→Bool):Prop:=∀v k,f v k=true↔∃x∈pre,x.univ=v∧x.address≤(k:Int)∧(k:Int)≤fD eT x
theorem vK.nil(eT:List ct):vK eT [] (λ_ _=>false):=λv k=>by simp
theorem vK.snoc{eT:List ct}{pre:List eG}{f:Int→Nat→Bool}(h:vK eT pre f)(u:eG)(a s:Nat)(ha:u.address=a)(hs:fD eT u=(a:Int)+s-1):vK eT (pre++[u]) (kM f u.univ a s):=by
 intro v k;unfold kM;by_cases e:v=u.univ∧a≤k∧k<a+s
 ·rw[aK e];refine⟨λ_=>⟨u,by simp,e.1.symm,by omega,by omega⟩,λ_=>rfl⟩
 ·rw[aI e,h v k];constructor
  ·rintro⟨x,hx,h1⟩;exact⟨x,by simp [hx],h1⟩
  ·rintro⟨x,hx,h1,h2,h3⟩;simp only[eN,List.mem_singleton]at hx;rcases hx with hx|rfl
   ·exact⟨x,hx,h1,h2,h3⟩
   ·exact absurd ⟨h1.symm,by omega,by omega⟩ e
theorem Ij(f:Nat→Bool):∀(s a:Nat),qg f s a=true↔∀k,a≤k→k<a+s→k≤512∧f k=false
 |0,a=>by simp [qg];intro k h1 h2;omega
 |s+1,a=>by
  rw[qg];by_cases e:512<a∨f a=true
  ·rw[aK e];simp only[Bool.false_eq_true,false_iff];intro h;have:=h a (ay _) (by omega);rcases e with e|e
   ·omega
   ·rw[e]at this;simp at this
  ·rw[aI e,Ij f s (a+1)];constructor
   ·intro h k h1 h2;by_cases hk:k=a
    ·subst hk;refine⟨by omega,?_⟩;cases hf:f k
     ·rfl
     ·exact absurd (.inr hf) e
    ·exact h k (by omega) (by omega)
   ·intro h k h1 h2;exact h k (by omega) (by omega)
theorem Wr{eT:List ct}{pre:List eG}{f:Int→Nat→Bool}(h:vK eT pre f)(hok:zS eT pre)(u:eG)(a s:Nat)(ha:u.address=a)(h1:1≤s)(hs:fD eT u=(a:Int)+s-1)(h2:fD eT u≤512):qg (f u.univ) s a=!vL eT u pre:=by
 rw[lH,Ij];simp only[Bool.not_eq_true',vL,List.any_eq_false,decide_eq_true_eq,not_and];constructor
 ·intro hf x hx e1 e2 e3;have hx':=hok x hx;obtain⟨k,hk⟩:∃k:Nat,(k:Int)=max x.address a:=⟨(max x.address (a:Int)).toNat,by omega⟩
  have hf':=(hf k (by omega) (by omega)).2;have:f u.univ k=true:=(h u.univ k).2 ⟨x,hx,e1,by omega,by omega⟩;rw[this]at hf';simp at hf'
 ·intro hf k h3 h4;refine⟨by omega,?_⟩;cases hfk:f u.univ k
  ·rfl
  ·obtain⟨x,hx,e1,e2,e3⟩:=(h u.univ k).1 hfk;exact absurd (show u.address≤fD eT x by omega) (hf x hx e1 (by omega))
theorem U7{p:ct}(h:kK p=0):1≤p.size∧p.size≤512:=by
 unfold kK at h;by_cases h1:lW p.name=false
 ·rw[aK h1]at h;simp at h
 ·rw[aI h1]at h;by_cases h2:bz p.size 1 512=false
  ·rw[aK h2]at h;simp at h
  ·simpa [bz]using h2
theorem MW:∀(l pre:List ct),sX pre l=0→∀p∈l,1≤p.size∧p.size≤512
 |[],pre,h,p,hp=>by simp at hp
 |q::rest,pre,h,p,hp=>by
  rw[sX]at h;by_cases e:kK q=0
  ·rw[aK e]at h;by_cases e2:dA q.name (pre.map (·.name))=true
   ·rw[aK e2]at h;simp at h
   ·rw[aI e2]at h;simp only[eM]at hp;rcases hp with rfl|hp
    ·exact U7 e
    ·exact MW rest _ h p hp
  ·rw[aI e]at h;exact absurd h e
theorem M7{l:List ct}(h:oZ l=0):∀p∈l,1≤p.size∧p.size≤512:=by
 unfold oZ at h;by_cases e:60<l.length
 ·rw[aK e]at h;simp at h
 ·rw[aI e]at h;exact MW l [] h
theorem Br(nm:ByteArray):∀(l:List ct),(eC nm l).2=true→(eC nm l).1∈l
 |[],h=>by simp [eC]at h
 |p::r,h=>by
  rw[eC]at h ⊢;by_cases e:p.name=nm
  ·rw[aK e];simp
  ·rw[aI e]at h ⊢;exact um _ (Br nm r h)
theorem zS.snoc{eT:List ct}{pre:List eG}(h:zS eT pre){u:eG}(h1:1≤u.address∧u.address≤fD eT u∧fD eT u≤512):zS eT (pre++[u]):=λx hx=>by
 simp only[eN,List.mem_singleton]at hx;rcases hx with hx|rfl
 ·exact h x hx
 ·exact h1
theorem pX(n lo hi:Int)(σ:Heap):nM [.ah n,.ah lo,.ah hi] σ=some (.bool (bz n lo hi),σ):=by refine wrap_eq rfl ?_ rfl;show GO _ _ _ σ=_;unfold GO bz;by_cases h:lo≤n<;>simp only[au,reduceCtorEq,h,true_and,false_and]
theorem oI(n lo hi:Int)(σ:Heap):pW [.ah n,.ah lo,.ah hi] σ=some (.bool (bz n lo hi),σ):=by refine wrap_eq rfl ?_ rfl;show Hh _ _ _ σ=_;unfold Hh bz;by_cases h:lo≤n<;>simp only[au,reduceCtorEq,h,true_and,false_and]
theorem Y7(b:Bool)(n:Int)(σ:Heap):He [.bool b,.ah n] σ=some (.ah (if b=true then n else 0),σ):=by refine wrap_eq rfl ?_ rfl;show Hr _ _ σ=_;unfold Hr;cases b<;>simp [au,reduceCtorEq]
theorem PS(s:ByteArray){i:Nat}(h:i<s.size):A.o7 (.str s) (.ah (i:Int))=some (.int .u8 (s.data.toList.getD i 0).toNat):=by
 have h1:s[i]? =some s[i]:=by simp [h]
 simp [A.o7,A.idx,h,Xv s i h];rfl
theorem M6(s:ByteArray):(decide (¬s=⟨#[]⟩))=decide (0<s.size):=by
 rw[decide_eq_decide];constructor
 ·intro h;rcases Nat.eq_zero_or_pos s.size with e|e
  ·exact absurd (ByteArray.ext (Array.eq_empty_of_size_eq_zero e)) h
  ·exact e
 ·rintro h rfl;exact absurd h (by decide)
theorem aal(s:ByteArray)(hs:iK s)(σ:Heap):HU [.str s] σ=some (.bool (uD s),σ):=by
 refine wrap_eq rfl ?_ rfl;show Ic _ σ=_;unfold Ic;simp only[au,reduceCtorEq];refine(Oh (p:=yJ) s (some (.bool false,σ)) ?_ ?_ ?_).trans ?_
 ·intro i c hi hc;have h1:aZ ((i:Int)+1):=by unfold iK bQ at hs;unfold aZ;omega
  have h2:(i:Int)<s.size:=by omega
  simp only[au,reduceCtorEq,h2,hc,dK h1,yJ];clear hc h1
  repeat' ((first|rw[jH]|rw[jG]|rw[jE]|rw[jx]|rw[jD]|rw[jC]);split<;>try simp only[au,reduceCtorEq, *])
  all_goals first|rfl|(refine(aK ?_).symm;simp;omega)|(refine(aI ?_).symm;simp;omega)|(refine congrArg some (congrArg (λb=>(AV.bool b,σ)) ?_);rw[lH];simp;omega)
 ·simp only[au,reduceCtorEq,Int.lt_irrefl]
 ·intro i;simp only[au,reduceCtorEq]
 ·simp only[au,reduceCtorEq,M6,uD];cases s.data.toList.all yJ<;>simp
theorem Wf(s:ByteArray)(hs:iK s)(σ:Heap):G6 [.str s] σ=some (.bool (uD s),σ):=by
 refine wrap_eq rfl ?_ rfl;show Hg _ σ=_;unfold Hg;simp only[au,reduceCtorEq];refine(Oh (p:=yJ) s (some (.bool false,σ)) ?_ ?_ ?_).trans ?_
 ·intro i c hi hc;have h1:aZ ((i:Int)+1):=by unfold iK bQ at hs;unfold aZ;omega
  have h2:(i:Int)<s.size:=by omega
  simp only[au,reduceCtorEq,h2,hc,dK h1,yJ];clear hc h1
  repeat' ((first|rw[jH]|rw[jG]|rw[jE]|rw[jx]|rw[jD]|rw[jC]);split<;>try simp only[au,reduceCtorEq, *])
  all_goals first|rfl|(refine(aK ?_).symm;simp;omega)|(refine(aI ?_).symm;simp;omega)|(refine congrArg some (congrArg (λb=>(AV.bool b,σ)) ?_);rw[lH];simp;omega)
 ·simp only[au,reduceCtorEq,Int.lt_irrefl]
 ·intro i;simp only[au,reduceCtorEq]
 ·simp only[au,reduceCtorEq,M6,uD];cases s.data.toList.all yJ<;>simp
theorem OP{s:ByteArray}(h:uD s=true):0<s.size:=by simp only[uD,eH,decide_eq_true_eq]at h;exact h.2
theorem IP(s:ByteArray)(hs:iK s)(σ:Heap):Bl [.str s] σ=some (.bool (lW s),σ):=by
 refine wrap_eq rfl ?_ rfl;show Hq _ σ=_;unfold Hq;simp only[au,reduceCtorEq,aal s hs];cases h:uD s
 ·simp [au,reduceCtorEq,lW,h]
 ·have h0:=OP h;have:=PS s h0;simp only[Int.ofNat_zero]at this;simp only[au,reduceCtorEq,this];simp only[lW,h,Bool.true_and];generalize s.data.toList.getD 0 0=c0 at *
  repeat' ((first|rw[jH]|rw[jG]|rw[jE]|rw[jx]|rw[jD]|rw[jC]);split<;>try simp only[au,reduceCtorEq, *])
  all_goals first|rfl|(refine(aK ?_).symm;simp;omega)|(refine(aI ?_).symm;simp;omega)|(refine congrArg some (congrArg (λb=>(AV.bool b,σ)) ?_);rw[lH];simp;omega)
theorem Hw(s:ByteArray)(hs:iK s)(σ:Heap):Bk [.str s] σ=some (.bool (lW s),σ):=by
 refine wrap_eq rfl ?_ rfl;show Hf _ σ=_;unfold Hf;simp only[au,reduceCtorEq,Wf s hs];cases h:uD s
 ·simp [au,reduceCtorEq,lW,h]
 ·have h0:=OP h;have:=PS s h0;simp only[Int.ofNat_zero]at this;simp only[au,reduceCtorEq,this];simp only[lW,h,Bool.true_and];generalize s.data.toList.getD 0 0=c0 at *
  repeat' ((first|rw[jH]|rw[jG]|rw[jE]|rw[jx]|rw[jD]|rw[jC]);split<;>try simp only[au,reduceCtorEq, *])
  all_goals first|rfl|(refine(aK ?_).symm;simp;omega)|(refine(aI ?_).symm;simp;omega)|(refine congrArg some (congrArg (λb=>(AV.bool b,σ)) ?_);rw[lH];simp;omega)
theorem X7(l:List Int)(hl:l.length≤bQ)(σ:Heap):GS [sl 1 cC l] σ=some (.ah ((l.find? λn=>decide (¬n=0)).getD 0),σ):=by
 refine wrap_eq rfl ?_ rfl;show GY (sl 1 cC l) σ=_;unfold GY;simp only[au,reduceCtorEq];refine(NO l (λn=>decide (¬n=0)) (λi=>[.ah 0,.ah (i:Int)]) σ (.exit 0,[.ah 0,.ah (l.length:Int)],σ) (λi n=>(.ret,[.ah n,.ah (i:Int)],σ)) (some (AV.ah 0,σ)) (λn=>some (AV.ah n,σ)) ?_ ?_ ?_ ?_).trans ?_
 ·intro i x hx;obtain⟨g1,g2,g3⟩:=sB 1 cC hx;have g3:=g3 hl;simp only[au,reduceCtorEq,g1,g2,g3]
  repeat' ((first|rw[jH]|rw[jG]|rw[jE]|rw[jx]|rw[jD]|rw[jC]);split<;>try simp only[au,reduceCtorEq, *])
  all_goals first|with_reducible rfl|(simp [*];done)|(simp_all;done)|(simp_all;omega)|rfl
 ·exact qH _ _ _
 ·simp only[au,reduceCtorEq]
 ·intro i n;simp only[au,reduceCtorEq]
 ·cases l.find? (λn=>decide (¬n=0))<;>rfl
theorem zu(n:Int)(σ:Heap):Ba [.ah n] σ=some (.bool (bz n 0 65535),σ):=by refine wrap_eq rfl ?_ rfl;show Gt _ σ=_;unfold Gt;simp only[au,reduceCtorEq,pX]
theorem UM(l:List ko)(hok:fR I7 l)(σ:Heap):Gd [sl 3 gm l] σ=some (.ah (vJ l),σ):=by
 refine wrap_eq rfl ?_ rfl;show Ge (sl 3 gm l) σ=_;unfold Ge vJ;simp only[au,reduceCtorEq];by_cases uQ:30<l.length
 ·have qT:(30:Int)<l.length:=by omega
  simp only[au,reduceCtorEq,uQ,qT]
 ·have qT:¬(30:Int)<l.length:=by omega
  simp only[au,reduceCtorEq,uQ,qT]
  refine(jY (S:=Unit) (R:=Int) l (λpre x _=>
    if bz x.low 0 65535=false∨bz x.high 0 65535=false∨x.high<x.low then .out 1
    else if 0<pre.length∧x.low≤(pre.getLast?.map (·.high)).getD 0 then .out 7
    else if lW x.name=false then .out 5
    else if dA x.name (pre.map (·.name))=true then .out 6 else .go ())
   (λpre _=>[.ah 0,.ah (pre.length:Int)]) (λpre _=>σ++[bk.map (jg (·.name) pre)])
   (λ_=>(.exit 0,[.ah 0,.ah (l.length:Int)],σ++[bk.map (jg (·.name) l)])) (λpre _ r=>(.ret,[.ah r,.ah (pre.length:Int)],σ++[bk.map (jg (·.name) pre)]))
   (λ_ _=>True) () (λ_=>some (AV.ah 0,σ)) (λr=>some (AV.ah r,σ)) ?_ ?_ trivial (λ_ _ _ _ _ _ _ _=>trivial) ?_ ?_).trans ?_
  ·intro pre x rest u hl _;have hx:=kj hl;have hlt:=lT hl;have hi1:IntKind.i64.wrap ((pre.length:Int)+1)=(pre.length:Int)+1:=dK (by unfold aZ;omega);have hi2:IntKind.i64.wrap ((pre.length:Int) -1)=(pre.length:Int) -1:=dK (by unfold aZ;omega);have hlt':(pre.length:Int)<(l.length:Int):=by omega
   have hnm:=(hok.2 x (by rw[hl];simp)).2.2;have gI:=jr 3 gm l hx;have hN:=IP _ hnm;by_cases h0:0<pre.length
   ·obtain⟨y,hy,hy2⟩:=IG hl h0;have xM:=DV 3 gm l h0 hy2;have fL:(0:Int)<pre.length:=by omega
    clear hl hx hlt hok uQ qT hy2 hnm;simp only[au,reduceCtorEq,sj,sk,su,sx,sw,sy,hlt',gI,zu,hi1,hi2,hN,fL,hy,h0]
    repeat' ((first|rw[jH]|rw[jG]|rw[jE]|rw[jx]|rw[jD]|rw[jC]);split<;>try simp only[au,reduceCtorEq,sj,sk,su,sx,sw,sy,zu, *])
    all_goals first|with_reducible rfl|(simp [*];done)|(simp_all;done)|(simp_all;omega)|rfl
   ·have fL:¬(0:Int)<pre.length:=by omega
    clear hl hx hlt hok uQ qT hnm;simp only[au,reduceCtorEq,sj,sk,su,sx,sw,sy,hlt',gI,zu,hi1,hi2,hN,fL,h0]
    repeat' ((first|rw[jH]|rw[jG]|rw[jE]|rw[jx]|rw[jD]|rw[jC]);split<;>try simp only[au,reduceCtorEq,sj,sk,su,sx,sw,sy,zu, *])
    all_goals first|with_reducible rfl|(simp [*];done)|(simp_all;done)|(simp_all;omega)|rfl
  ·intro u _;simp only[au,reduceCtorEq,Int.lt_irrefl]
  ·intro u _;simp only[au,reduceCtorEq]
  ·intros;simp only[au,reduceCtorEq]
  ·refine(vB (mq:=xJ) ?_ ?_ (λn=>some (AV.ah n,σ)) l []).trans ?_
   ·intro pre;rfl
   ·intro pre x rest;rw[xJ];simp only[sG,p7,qd]
   ·rfl
theorem UB(p:ct)(hok:wY p)(σ:Heap):Ga [.agg (cH p)] σ=some (.ah (kK p),σ):=by
 refine wrap_eq rfl ?_ rfl;show Gc (.agg (cH p)) σ=_;obtain⟨pn,ps,l⟩:=p;obtain⟨hnm,hps,xO⟩:=hok;simp only at hnm hps xO;have hN:=IP _ hnm;unfold Gc kK;simp only[au,reduceCtorEq,gJ,gK,gL,gO,gM,gP,hN,pX];cases hn:lW pn
 ·simp only[au,reduceCtorEq]
 cases hz:bz ps 1 512
 ·simp only[au,reduceCtorEq]
 by_cases h0:l.length=0
 ·obtain rfl:l=[]:=uk h0;simp [au,reduceCtorEq]
 have fL:¬(l.length:Int)=0:=by omega
 by_cases yy:40<l.length
 ·have uu:(40:Int)<l.length:=by omega
  simp only[au,reduceCtorEq,h0,fL,yy,uu]
 have uu:¬(40:Int)<l.length:=by omega
 simp only[au,reduceCtorEq,h0,fL,yy,uu]
 refine(jY (S:=Unit) (R:=Int) l (λpre x _=>
   if lW x.name=false then .out 5
   else if dA x.name (pre.map (·.name))=true then .out 6
   else if bz x.group 1 4=false then .out 4
   else if bz x.ef 1 ps=false∨bz x.cU 0 ps=false∨bz x.default 0 65535=false then .out 1
   else if x.ef=x.cU∨dA x.ef (slotsOf pre)=true∨(0<x.cU∧dA x.cU (slotsOf pre)=true)then .out 12
   else if vJ x.ranges=0 then .go ()else .out (vJ x.ranges))
  (λpre _=>[.lbx (cH ⟨pn,ps,l⟩),.ah 0,.ah (pre.length:Int)]) (λpre _=>σ++[bk.map (jg (·.name) pre),bk.map (mP id (slotsOf pre))])
  (λ_=>(.exit 1,[.lbx (cH ⟨pn,ps,l⟩),.ah 0,.ah (l.length:Int)],σ++[bk.map (jg (·.name) l),bk.map (mP id (slotsOf l))]))
  (λpre _ r=>(.ret,[.lbx (cH ⟨pn,ps,l⟩),.ah r,.ah (pre.length:Int)],σ++[bk.map (jg (·.name) pre),bk.map (mP id (slotsOf pre))]))
  (λ_ _=>True) () (λ_=>some (AV.ah 0,σ)) (λr=>some (AV.ah r,σ)) ?_ ?_ trivial (λ_ _ _ _ _ _ _ _=>trivial) ?_ ?_).trans ?_
 ·intro pre x rest u hl _;have hx:=kj hl;have hlt:=lT hl;have hi1:IntKind.i64.wrap ((pre.length:Int)+1)=(pre.length:Int)+1:=dK (by unfold aZ;omega);have hi2:IntKind.i64.wrap ((pre.length:Int) -1)=(pre.length:Int) -1:=dK (by unfold aZ;omega);have hlt':(pre.length:Int)<(l.length:Int):=by omega
  obtain⟨k1,k2,k3,k4,k5,k6⟩:=xO.2 x (by rw[hl];simp);have hNx:=IP _ k1;have hRx:=UM _ k6;have gI:=jr 7 b7 l hx;clear hl hx hlt xO yy uu h0 fL k1 k2 k3 k4 k5 k6 hnm hps hN hn hz;simp only[au,reduceCtorEq,jO,jP,jQ,jR,jS,jT,jU,jW,jV,jq,gJ,gK,gL,gO,gM,gP,hlt',gI,pX,zu,hi1,hi2,hNx,hRx,List.map_id]
  repeat' ((first|rw[jH]|rw[jG]|rw[jE]|rw[jx]|rw[jD]|rw[jC]);split<;>try simp only[au,reduceCtorEq,jO,jP,jQ,jR,jS,jT,jU,jW,jV,jq,gJ,gK,gL,gO,gM,gP,pX,zu,List.map_id,N0,XG,Bool.or_false, *])
  all_goals first|rfl|(simp_all;done)|(simp_all [MA,N0];done)|(simp only[MA,ite_false,ite_true,if_false,if_true, *]<;>simp_all)
 ·intro u _;simp only[au,reduceCtorEq,Int.lt_irrefl]
 ·intro u _;simp only[au,reduceCtorEq]
 ·intros;simp only[au,reduceCtorEq]
 ·refine(vB (mq:=vW ps) ?_ ?_ (λn=>some (AV.ah n,σ)) l []).trans ?_
  ·intro pre;rfl
  ·intro pre x rest;rw[vW];simp only[sG,p7,qd]
  ·rfl
theorem UA(l:List ct)(hok:fR wY l)(σ:Heap):F9 [sl 3 cH l] σ=some (.ah (oZ l),σ):=by
 refine wrap_eq rfl ?_ rfl;show Gb (sl 3 cH l) σ=_;unfold Gb oZ;simp only[au,reduceCtorEq];by_cases yz:60<l.length
 ·have uv:(60:Int)<l.length:=by omega
  simp only[au,reduceCtorEq,yz,uv]
 have uv:¬(60:Int)<l.length:=by omega
 simp only[au,reduceCtorEq,yz,uv]
 refine(jY (S:=Unit) (R:=Int) l (λpre x _=>if kK x=0 then(if dA x.name (pre.map (·.name))=true then .out 6 else .go ())else .out (kK x))
  (λpre _=>[.ah 0,.ah (pre.length:Int)]) (λpre _=>σ++[bk.map (jg (·.name) pre)])
  (λ_=>(.exit 0,[.ah 0,.ah (l.length:Int)],σ++[bk.map (jg (·.name) l)])) (λpre _ r=>(.ret,[.ah r,.ah (pre.length:Int)],σ++[bk.map (jg (·.name) pre)]))
  (λ_ _=>True) () (λ_=>some (AV.ah 0,σ)) (λr=>some (AV.ah r,σ)) ?_ ?_ trivial (λ_ _ _ _ _ _ _ _=>trivial) ?_ ?_).trans ?_
 ·intro pre x rest u hl _;have hx:=kj hl;have hlt:=lT hl;have hi1:IntKind.i64.wrap ((pre.length:Int)+1)=(pre.length:Int)+1:=dK (by unfold aZ;omega);have hi2:IntKind.i64.wrap ((pre.length:Int) -1)=(pre.length:Int) -1:=dK (by unfold aZ;omega);have hlt':(pre.length:Int)<(l.length:Int):=by omega
  have hP:=UB x (hok.2 x (by rw[hl];simp));have gI:=jr 3 cH l hx;clear hl hx hlt hok yz uv;simp only[au,reduceCtorEq,gJ,gK,gL,gO,gM,gP,hlt',gI,hi1,hP]
  repeat' ((first|rw[jH]|rw[jG]|rw[jE]|rw[jx]|rw[jD]|rw[jC]);split<;>try simp only[au,reduceCtorEq,gJ,gK,gL,gO,gM,gP, *])
  all_goals first|with_reducible rfl|(simp [*];done)|(simp_all;done)|(simp_all;omega)|rfl
 ·intro u _;simp only[au,reduceCtorEq,Int.lt_irrefl]
 ·intro u _;simp only[au,reduceCtorEq]
 ·intros;simp only[au,reduceCtorEq]
 ·refine(vB (mq:=sX) ?_ ?_ (λn=>some (AV.ah n,σ)) l []).trans ?_
  ·intro pre;rfl
  ·intro pre x rest;rw[sX];simp only[sG,p7,qd]
  ·rfl
theorem OD{α:Type}(p:α→Bool)(l:List α):decide (0≤mL p l)=l.any p:=by
 rcases Bq p l with⟨h1,h2,_⟩|⟨k,x,h1,h2,h3,_⟩
 ·rw[h1,lH];simp only[decide_eq_true_eq,List.any_eq_true];exact⟨λh=>by omega,λ⟨x,hx,hp⟩=>by rw[h2 x hx]at hp;cases hp⟩
 ·rw[h3,lH];simp only[decide_eq_true_eq,List.any_eq_true];exact⟨λ_=>⟨x,dF h1,h2⟩,λ_=>by omega⟩
theorem TK(dyn:Nat→an→Heap→az)(l:List ct)(hl:l.length≤bQ)(n:Nat)(caps:an)(p:ct→Bool)(σ:Heap)(hd:∀x∈l,dyn n ((.agg (cH x):AV)::caps) σ=some (.bool (p x),σ)):Dr dyn [sl 3 cH l,.fn n caps] σ=some (.ah (mL p l),σ):=by
 refine wrap_eq rfl ?_ rfl;show Ds dyn (sl 3 cH l) (.fn n caps) σ=_;unfold Ds;simp only[au,reduceCtorEq]
 refine(jY (S:=Unit) (R:=Int) l (λpre x _=>if p x=true then .out (pre.length:Int)else .go ())
  (λpre _=>[.ah 0,.ah (pre.length:Int)]) (λ_ _=>σ) (λ_=>(.exit 0,[.ah 0,.ah (l.length:Int)],σ)) (λpre _ r=>(.ret,[.ah (pre.length:Int),.ah (pre.length:Int)],σ))
  (λ_ _=>True) () (λ_=>some (AV.ah (-1),σ)) (λr=>some (AV.ah r,σ)) ?_ ?_ trivial (λ_ _ _ _ _ _ _ _=>trivial) ?_ ?_).trans ?_
 ·intro pre x rest u hl' _;have hx:=kj hl';have hlt:=lT hl';have hi1:IntKind.i64.wrap ((pre.length:Int)+1)=(pre.length:Int)+1:=dK (by unfold aZ;unfold bQ at hl;omega);have hlt':(pre.length:Int)<(l.length:Int):=by omega
  have gI:=jr 3 cH l hx;have tv:=hd x (by rw[hl'];simp);simp only[au,reduceCtorEq,gJ,gK,gL,gO,gM,gP,hlt',gI,A.gZ,l6,List.nil_append,tv,hi1];cases p x<;>simp [au,reduceCtorEq]
 ·intro u _;simp only[au,reduceCtorEq,Int.lt_irrefl]
 ·intro u _;simp only[au,reduceCtorEq]
 ·intro pre x rest s q hl' _ hb
  have:q=(pre.length:Int):=by
   cases hpx:p x
   ·rw[hpx]at hb;cases hb
   ·rw[hpx]at hb;simp at hb;exact hb.symm
  simp only[au,reduceCtorEq,this]
 ·rw[BG p _ _ l [] (by simp)];simp only[List.nil_append];split
  ·rename_i h;rw[h]
  ·rfl
theorem Ul(l:List Int)(hl:l.length≤bQ)(k:Int)(σ:Heap):Gj [sl 1 cC l,.ah k] σ=some (.ah (mL (λx=>decide (k=x)) l),σ):=by
 refine wrap_eq rfl ?_ rfl;show Gl (sl 1 cC l) (.ah k) σ=_;unfold Gl;simp only[au,reduceCtorEq]
 refine(jY (S:=Unit) (R:=Int) l (λpre x _=>if(λx=>decide (k=x)) x=true then .out (pre.length:Int)else .go ())
  (λpre _=>[.ah 0,.ah (pre.length:Int)]) (λ_ _=>σ) (λ_=>(.exit 0,[.ah 0,.ah (l.length:Int)],σ)) (λpre _ r=>(.ret,[.ah (pre.length:Int),.ah (pre.length:Int)],σ))
  (λ_ _=>True) () (λ_=>some (AV.ah (-1),σ)) (λr=>some (AV.ah r,σ)) ?_ ?_ trivial (λ_ _ _ _ _ _ _ _=>trivial) ?_ ?_).trans ?_
 ·intro pre x rest u hl' _;have hx:=kj hl';have hlt:=lT hl';have hi1:IntKind.i64.wrap ((pre.length:Int)+1)=(pre.length:Int)+1:=dK (by unfold aZ;unfold bQ at hl;omega);have hlt':(pre.length:Int)<(l.length:Int):=by omega
  have gI:=jr 1 cC l hx;simp only[au,reduceCtorEq,hlt',gI,hi1];by_cases hk:k=x<;>simp [au,reduceCtorEq,hk]
 ·intro u _;simp only[au,reduceCtorEq,Int.lt_irrefl]
 ·intro u _;simp only[au,reduceCtorEq]
 ·intro pre x rest s q hl' _ hb
  have:q=(pre.length:Int):=by
   by_cases hk:k=x
   ·simp [hk]at hb;exact hb.symm
   ·simp [hk]at hb
  simp only[au,reduceCtorEq,this]
 ·rw[BG (λx=>decide (k=x)) _ _ l [] (by simp)];simp only[List.nil_append];split
  ·rename_i h;rw[h]
  ·rfl
theorem Md(l:List Int)(hl:l.length≤bQ)(k:Int)(σ:Heap):A7 [sl 1 cC l,.ah k] σ=some (.bool (l.any λx=>decide (k=x)),σ):=by refine wrap_eq rfl ?_ rfl;show Gg (sl 1 cC l) (.ah k) σ=_;unfold Gg;simp only[au,reduceCtorEq,Ul l hl k σ];refine congrArg some (congrArg (λb=>(AV.bool b,σ)) ?_);exact OD _ l
theorem Ua(dyn:Nat→an→Heap→az)(l:List Int)(hl:l.length≤bQ)(n:Nat)(caps:an)(p:Int→Bool)(σ:Heap)(hd:∀x∈l,dyn n ((.ah x:AV)::caps) σ=some (.bool (p x),σ)):Dy dyn [sl 1 cC l,.fn n caps] σ=some (.ah (mL p l),σ):=by
 refine wrap_eq rfl ?_ rfl;show Dz dyn (sl 1 cC l) (.fn n caps) σ=_;unfold Dz;simp only[au,reduceCtorEq]
 refine(jY (S:=Unit) (R:=Int) l (λpre x _=>if p x=true then .out (pre.length:Int)else .go ())
  (λpre _=>[.ah 0,.ah (pre.length:Int)]) (λ_ _=>σ) (λ_=>(.exit 0,[.ah 0,.ah (l.length:Int)],σ)) (λpre _ r=>(.ret,[.ah (pre.length:Int),.ah (pre.length:Int)],σ))
  (λ_ _=>True) () (λ_=>some (AV.ah (-1),σ)) (λr=>some (AV.ah r,σ)) ?_ ?_ trivial (λ_ _ _ _ _ _ _ _=>trivial) ?_ ?_).trans ?_
 ·intro pre x rest u hl' _;have hx:=kj hl';have hlt:=lT hl';have hi1:IntKind.i64.wrap ((pre.length:Int)+1)=(pre.length:Int)+1:=dK (by unfold aZ;unfold bQ at hl;omega);have hlt':(pre.length:Int)<(l.length:Int):=by omega
  have gI:=jr 1 cC l hx;have tv:=hd x (by rw[hl'];simp);simp only[au,reduceCtorEq,hlt',gI,A.gZ,l6,List.nil_append,tv,hi1];cases p x<;>simp [au,reduceCtorEq]
 ·intro u _;simp only[au,reduceCtorEq,Int.lt_irrefl]
 ·intro u _;simp only[au,reduceCtorEq]
 ·intro pre x rest s q hl' _ hb
  have:q=(pre.length:Int):=by
   cases hpx:p x
   ·rw[hpx]at hb;cases hb
   ·rw[hpx]at hb;simp at hb;exact hb.symm
  simp only[au,reduceCtorEq,this]
 ·rw[BG p _ _ l [] (by simp)];simp only[List.nil_append];split
  ·rename_i h;rw[h]
  ·rfl
theorem TV(dyn:Nat→an→Heap→az)(l:List Int)(hl:l.length≤bQ)(n:Nat)(caps:an)(p:Int→Bool)(σ:Heap)(hd:∀x∈l,dyn n ((.ah x:AV)::caps) σ=some (.bool (p x),σ)):Dw dyn [sl 1 cC l,.fn n caps] σ=some (.bool (l.any p),σ):=by refine wrap_eq rfl ?_ rfl;show Dx dyn (sl 1 cC l) (.fn n caps) σ=_;unfold Dx;simp only[au,reduceCtorEq,Ua dyn l hl n caps p σ hd];refine congrArg some (congrArg (λb=>(AV.bool b,σ)) ?_);exact OD p l
theorem zw(nm:ByteArray):∀(l:List ct),eC nm l=match l.find? (λx:ct=>decide (x.name=nm))with|some p=>(p,true)|none=>(⟨⟨#[]⟩,0,[]⟩,false)
 |[]=>rfl
 |p::l=>by
  rw[eC];by_cases h:p.name=nm
  ·simp [h]
  ·simp [h,zw nm l]
theorem UQ(x:ct)(nm:ByteArray)(σ:Heap):A6 [.agg (cH x),.rp [.str nm]] σ=some (.bool (decide (x.name=nm)),σ):=by refine wrap_eq rfl ?_ rfl;show Gf (.agg (cH x)) (.rp [.str nm]) σ=_;unfold Gf;simp only[au,reduceCtorEq,gJ,gK,gL,gO,gM,gP];show(some (AV.str nm)).bind _=_;simp only[au,reduceCtorEq]
theorem nnP(x:dR):A.cN o8 (b7 x)=b7 x:=rfl
theorem Ql(p:ct)(b:Bool):A.nn (.t [(.a [.k,.k,(.e 7 o8)]),.k]) (.aD [.agg (cH p),.bool b])=.aD [.agg (cH p),.bool b]:=by show AV.aD [.agg [.str p.name,.ah p.size,A.nn (.e 7 o8) (sl 7 b7 p.params)],.bool b]=_;rw[acy nnP];rfl
theorem Nb(l:List ct)(hl:l.length≤bQ)(nm:ByteArray)(σ:Heap):DB [sl 3 cH l,.str nm] σ=some (.aD [.agg (cH (eC nm l).1),.bool (eC nm l).2],σ):=by
 have key:∃w,DC (sl 3 cH l) (.str nm) σ=some (w,σ)∧A.nn (.t [(.a [.k,.k,(.e 7 o8)]),.k]) w=.aD [.agg (cH (eC nm l).1),.bool (eC nm l).2]:=by
  unfold DC;simp only[au,reduceCtorEq];rw[TK _ l hl 64 [.rp [.str nm]] (λx=>decide (x.name=nm)) σ (λx _=>UQ x nm σ)];simp only[au,reduceCtorEq];rw[zw];rcases Bq (λx:ct=>decide (x.name=nm)) l with⟨h1,_,h3⟩|⟨k,x,h1,h2,h3,h4,_⟩
  ·refine⟨.aD [.agg [.str ⟨#[]⟩,.ah 0,.aN],.bool false],?_,?_⟩
   ·rw[h1];simp only[au,reduceCtorEq,show((-1:Int)<0)from by decide];rfl
   ·rw[h3];rfl
  ·refine⟨.aD [.agg (cH x),.bool true],?_,?_⟩
   ·rw[h3];simp only[au,reduceCtorEq,gJ,gK,gL,gO,gM,gP,show ¬((k:Int)<0)from by omega,jr 3 cH l h1]
   ·rw[h4];exact Ql x true
 obtain⟨w,h1,h2⟩:=key;exact wrap_eq rfl h1 h2
theorem G4(l:List ct)(hl:l.length≤bQ)(nm:ByteArray)(σ:Heap):Bh [sl 3 cH l,.str nm] σ=some (.aD [.agg (cH (eC nm l).1),.bool (eC nm l).2],σ):=by
 refine wrap_eq (v:=.aD [.agg (match l.find? (λx:ct=>decide (x.name=nm))with|some p=>cH p|none=>[.str ⟨#[]⟩,.ah 0,.aN]),.bool (eC nm l).2]) rfl ?_ ?_
 ·show GX (sl 3 cH l) (.str nm) σ=_;rw[zw];unfold GX;simp only[au,reduceCtorEq]
  refine(jY (S:=Unit) (R:=ct) l (λpre x _=>if x.name=nm then .out x else .go ())
   (λpre _=>[.lbx [.str ⟨#[]⟩,.ah 0,.aN],.bool false,.ah (pre.length:Int)]) (λ_ _=>σ)
   (λ_=>(.exit 0,[.lbx [.str ⟨#[]⟩,.ah 0,.aN],.bool false,.ah (l.length:Int)],σ)) (λpre _ r=>(.ret,[.lbx (cH r),.bool true,.ah (pre.length:Int)],σ))
   (λ_ _=>True) () (λ_=>some (AV.aD [.agg [.str ⟨#[]⟩,.ah 0,.aN],.bool false],σ)) (λr=>some (AV.aD [.agg (cH r),.bool true],σ)) ?_ ?_ trivial (λ_ _ _ _ _ _ _ _=>trivial) ?_ ?_).trans ?_
  ·intro pre x rest u hl' _;have hx:=kj hl';have hlt:=lT hl';have hi1:IntKind.i64.wrap ((pre.length:Int)+1)=(pre.length:Int)+1:=dK (by unfold aZ;unfold bQ at hl;omega);have hlt':(pre.length:Int)<(l.length:Int):=by omega
   have gI:=jr 3 cH l hx;clear hl' hx hlt hl;simp only[au,reduceCtorEq,gJ,gK,gL,gO,gM,gP,hlt',gI,hi1]
   repeat' ((first|rw[jH]|rw[jG]|rw[jE]|rw[jx]|rw[jD]|rw[jC]);split<;>try simp only[au,reduceCtorEq,gJ,gK,gL,gO,gM,gP, *])
   all_goals first|with_reducible rfl|(simp [*];done)|(simp_all;done)|(simp_all;omega)|rfl
  ·intro u _;simp only[au,reduceCtorEq,Int.lt_irrefl]
  ·intro u _;simp only[au,reduceCtorEq];rfl
  ·intros;simp only[au,reduceCtorEq,gJ,gK,gL,gO,gM,gP]
  ·have key:∀(l pre:List ct),(fO (λ(_:List ct)(x:ct)(_:Unit)=>if x.name=nm then(Rd.out x:Rd Unit ct)else .go ()) pre l ()).el (λ_=>some (AV.aD [.agg [.str ⟨#[]⟩,.ah 0,.aN],.bool false],σ)) (λr=>some (AV.aD [.agg (cH r),.bool true],σ))=some (.aD [.agg (match l.find? (λx:ct=>decide (x.name=nm))with|some p=>cH p|none=>[.str ⟨#[]⟩,.ah 0,.aN]),.bool (match l.find? (λx:ct=>decide (x.name=nm))with|some p=>(p,true)|none=>(⟨⟨#[]⟩,0,[]⟩,false)).2],σ):=by
    intro l;induction l with
    |nil=>intro pre;rfl
    |cons x l ih=>
     intro pre;rw[fO];by_cases h:x.name=nm
     ·simp [h,Rd.el]
     ·simp only[aI h,ih];simp [h]
   exact key l []
 ·rw[zw];cases hf:l.find? (λx:ct=>decide (x.name=nm))with
  |none=>rfl
  |some p=>exact Ql p true
def marks(f:Nat→Bool):an:=(List.range 513).map λk=>.bool (f k)
theorem zH(f:Nat→Bool){k:Nat}(h:k<513):(marks f)[k]? =some (.bool (f k)):=by simp [marks,h]
theorem wX(f:Nat→Bool):(marks f).length=513:=by simp [marks]
theorem ND(f:Nat→Bool){γ:Type}(K1 K2:γ):∀(s a:Nat)(pre:List Nat),(fO (λ_ k(_:Unit)=>if 512<k∨f k=true then(Rd.out ():Rd Unit Unit)else .go ()) pre (List.range' a s) ()).el (λ_=>K1) (λ_=>K2)=if qg f s a=true then K1 else K2
 |0,a,pre=>by simp [fO,qg,Rd.el]
 |s+1,a,pre=>by
  rw[List.range'_succ,fO,qg];by_cases h:512<a∨f a=true
  ·simp only[aK h,Rd.el];simp
  ·simp only[aI h];exact ND f K1 K2 s (a+1) _
theorem Zs(a s:Int)(h:aZ (a+s))(h':aZ (a+s-1))(σ:Heap):zh [.np,.ah a,.ah s] σ=some (.bool (decide (a+s-1≤512)),σ):=by refine wrap_eq rfl ?_ rfl;show A8 .np (.ah a) (.ah s) σ=_;unfold A8;simp only[au,reduceCtorEq,show A.eql .p AV.np AV.np=some (.bool true)from rfl,dK h,dK h']
theorem Ya(cs:an){k:Nat}(h:k<513):A.sM 513 1 (.rp cs) (.ah (k:Int))=some (.rp (cs.drop k)):=by
 have h1:A.idx 513 (.ah (k:Int))=some k:=by show(if(0:Int)≤(k:Int)∧(k:Int)<((513:Nat):Int)then some (k:Int).toNat else none)=some k;rw[aK ⟨by omega,by omega⟩];rfl
 unfold A.sM;rw[h1];simp only[aQ,Nat.mul_one]
theorem Zu(f:Nat→Bool)(a s:Nat)(hs:a≤1024∧s≤1024)(σ:Heap):zh [.rp (marks f),.ah (a:Int),.ah (s:Int)] σ=some (.bool (qg f s a),σ):=by
 refine wrap_eq rfl ?_ rfl;show A8 (.rp (marks f)) (.ah (a:Int)) (.ah (s:Int)) σ=_;unfold A8;have hw:IntKind.i64.wrap ((a:Int)+s)=(a:Int)+s:=dK (by unfold aZ;omega);simp only[au,reduceCtorEq,show A.eql .p (AV.rp (marks f)) AV.np=some (.bool false)from rfl,hw]
 refine(jY (S:=Unit) (R:=Unit) (List.range' a s) (λ_ k(_:Unit)=>if 512<k∨f k=true then(Rd.out ():Rd Unit Unit)else .go ())
  (λpre _=>[.bool false,.ah ((a:Int)+(pre.length:Int))]) (λ_ _=>σ) (λ_=>(.exit 0,[.bool false,.ah ((a:Int)+s)],σ)) (λpre _ _=>(.ret,[.bool false,.ah ((a:Int)+(pre.length:Int))],σ))
  (λ_ _=>True) () (λ_=>some (AV.bool true,σ)) (λ_=>some (AV.bool false,σ)) ?_ ?_ trivial (λ_ _ _ _ _ _ _ _=>trivial) ?_ ?_ (hv:=by simp)).trans ?_
 ·intro pre k rest u hl _;have hx:=kj hl;have hlt:=lT hl;rw[List.length_range']at hlt
  obtain rfl:a+pre.length=k:=by have:=(bU.1 hx).2;simpa [List.getElem_range']using this
  have hlt':(a:Int)+(pre.length:Int)<(a:Int)+s:=by omega
  have hi1:IntKind.i64.wrap ((a:Int)+(pre.length:Int)+1)=(a:Int)+((pre.length:Int)+1):=by rw[dK (by unfold aZ;omega)];omega
  have ecast:(a:Int)+(pre.length:Int)=((a+pre.length:Nat):Int):=by omega
  clear hl hx;by_cases h5:512<a+pre.length
  ·have KO:(512:Int)<(a:Int)+(pre.length:Int):=by omega
   simp only[au,reduceCtorEq,hlt',h5,KO]
  have KO:¬(512:Int)<(a:Int)+(pre.length:Int):=by omega
  have hp:A.aB 0 ((marks f).drop (a+pre.length))=some (.bool (f (a+pre.length))):=by rw[Ll];simp only[A.aB,Nat.add_zero,zH f (show a+pre.length<513 by omega)];rfl
  simp only[au,reduceCtorEq,hlt',h5,KO,show A.sR (AV.rp (marks f))=some (.rp (marks f))from rfl];rw[ecast,Ya _ (by omega)];simp only[au,reduceCtorEq,hp];cases hf:f (a+pre.length)
  ·simp only[au,reduceCtorEq,←ecast,hi1]
  ·simp only[au,reduceCtorEq,←ecast]
 ·intro u _;rw[List.length_range'];exact qH _ _ _
 ·intro u _;simp only[au,reduceCtorEq]
 ·intros;simp only[au,reduceCtorEq]
 ·rw[ND];cases qg f s a<;>rfl
theorem Zt(f:Nat→Bool)(a s:Nat)(hs:a≤1024∧s≤1024){σ:Heap}{id:Nat}(h:σ[id]? =some (.box (marks f))):zh [.op id 0,.ah (a:Int),.ah (s:Int)] σ=some (.bool (qg f s a),σ):=by
 refine O0 (args':=[.rp (marks f),.ah (a:Int),.ah (s:Int)]) rfl ?_ rfl (Zu f a s hs []) rfl
 have e:A.sQ σ 0 7 (marks f)=some (marks f):=by
  have key:∀(l:List Nat),A.sQ σ 0 7 (l.map λk=>AV.bool (f k))=some (l.map λk=>AV.bool (f k)):=by
   intro l;induction l with
   |nil=>simp [A.sQ]
   |cons x l ih=>simp [A.sQ,A.bP,ih]
  exact key _
 simp [A.dz,A.bP,h,e]
def oH(b:Nat):List Int→List (AV×AV)
 |[]=>[]
 |v::r=>(.int .i64 v,.op b 0)::oH (b+1) r
def eU(σ:Heap)(vs:List Int)(f:Int→Nat→Bool):Heap:=σ++(bk.map (oH (σ.length+1) vs)::vs.map λv=>bk.box (marks (f v)))
theorem OY(v:Int):∀(vs:List Int)(b:Nat),oH b (vs++[v])=oH b vs++[(.ah v,.op (b+vs.length) 0)]
 |[],b=>rfl
 |w::r,b=>by simp only[l6,oH,OY v r (b+1),List.length_cons];rw[show b+1+r.length=b+(r.length+1) by omega]
theorem Ev(v:Int):∀(vs:List Int)(b:Nat),A.find .i (.ah v) (oH b vs)=some (if v∈vs then some (.op (b+vs.idxOf v) 0)else none)
 |[],b=>rfl
 |w::r,b=>by
  simp only[oH,A.find,A.dD,A.kU,if_true,aQ];by_cases h:v=w
  ·subst h;simp
  ·have h1:(v==w)=false:=by simpa using h
   have h2:(w==v)=false:=by simpa using λe:w=v=>h e.symm
   simp only[h1,aV,Ev v r (b+1),eM,h,false_or,List.idxOf_cons,h2];rw[show b+1+r.idxOf v=b+(r.idxOf v+1) by omega]
theorem PV(v:Int)(w:AV):∀(vs:List Int)(b:Nat),v∉vs→A.upd .i (.ah v) w (oH b vs)=some (oH b vs++[(.ah v,w)])
 |[],b,_=>rfl
 |x::r,b,h=>by
  simp only[eM,not_or]at h;have h1:(v==x)=false:=by simpa using h.1
  simp only[oH,A.upd,A.dD,A.kU,if_true,aQ,h1,aV,PV v w r (b+1) h.2,eO,l6]
theorem PX(σ:Heap)(vs:List Int)(f:Int→Nat→Bool):(eU σ vs f).length=σ.length+1+vs.length:=by simp [eU];omega
theorem EF(σ:Heap)(vs:List Int)(f:Int→Nat→Bool):(eU σ vs f)[σ.length]? =some (.map (oH (σ.length+1) vs)):=by simp [eU]
theorem PW(σ:Heap){vs:List Int}(f:Int→Nat→Bool){v:Int}(h:v∈vs):(eU σ vs f)[σ.length+1+vs.idxOf v]? =some (.box (marks (f v))):=by
 unfold eU;rw[fV (by omega),show σ.length+1+vs.idxOf v-σ.length=vs.idxOf v+1 by omega,List.getElem?_cons_succ,Al]
 have:vs[vs.idxOf v]? =some v:=by have hl:=List.idxOf_lt_length_of_mem h;rw[cI hl,List.getElem_idxOf hl]
 rw[this];rfl
theorem aah(σ:Heap){vs:List Int}(hn:vs.Nodup){f f':Int→Nat→Bool}{v:Int}(h:v∈vs)(ho:∀w,w≠v→f' w=f w):(eU σ vs f).set (σ.length+1+vs.idxOf v) (.box (marks (f' v)))=eU σ vs f':=by
 unfold eU;rw[sS _ _ (by omega),show σ.length+1+vs.idxOf v-σ.length=vs.idxOf v+1 by omega,List.set_cons_succ];refine congrArg (λz=>σ++(bk.map (oH (σ.length+1) vs)::z)) ?_;clear σ;induction vs with
 |nil=>cases h
 |cons w r ih=>
  rw[List.nodup_cons]at hn;rw[List.idxOf_cons];by_cases e:w=v
  ·subst e;simp only[beq_self_eq_true,bG,fJ,List.set_cons_zero];exact congrArg (bk.box (marks (f' w))::·) (List.map_congr_left λx hx=>by rw[ho x (λe=>hn.1 (e▸hx))])
  ·have e2:(w==v)=false:=by simpa using e
   simp only[e2,aV,fJ,List.set_cons_succ];rw[ih hn.2 ((eM.1 h).resolve_left λq=>e q.symm),ho w e]
theorem aag(σ:Heap)(vs:List Int){f:Int→Nat→Bool}{v:Int}(h:∀k,f v k=false):((eU σ vs f)++[bk.box (List.replicate 513 bI)]).set σ.length (.map (oH (σ.length+1) (vs++[v])))=eU σ (vs++[v]) f:=by
 have e:marks (f v)=List.replicate 513 bI:=by rw[show f v=λ_=>false from funext h];refine List.eq_replicate_iff.2 ⟨wX _,λb hb=>?_⟩;obtain⟨k,_,rfl⟩:=mI.1 hb;rfl
 unfold eU;simp only[kP,l6];rw[sS _ _ (ay _),Nat.sub_self,List.set_cons_zero,List.map_append,fJ,e];rfl
theorem XF(g g':Nat→Bool){k:Nat}(hk:k<513)(h1:g' k=true)(h2:∀j,j≠k→g' j=g j):A.bh k [AV.bool true] (marks g)=some (marks g'):=by
 unfold A.bh;rw[aK (by rw[wX];simp;omega)];refine congrArg some (List.ext_getElem? λj=>?_);simp only[kP,l6,List.nil_append,List.length_cons,List.length_nil];by_cases hj:j<k
 ·rw[fE (by rw[gn,wX];omega),List.getElem?_take_of_lt hj,zH _ (by omega),zH _ (by omega),h2 j (by omega)]
 ·rw[fV (by rw[gn,wX];omega),gn,wX,Nat.min_eq_left (by omega)];by_cases e:j=k
  ·subst e;rw[Nat.sub_self,List.getElem?_cons_zero,zH _ hk,h1]
  ·rw[show j-k=(j-k-1)+1 by omega,List.getElem?_cons_succ,List.getElem?_drop,show k+(0+1)+(j-k-1)=j by omega];by_cases hj2:j<513
   ·rw[zH _ hj2,zH _ hj2,h2 j e]
   ·rw[ku (by rw[wX];omega),ku (by rw[wX];omega)]
theorem ES{α γ:Type}(K1:Unit→γ)(K2:Unit→γ):∀(l pre:List α),(fO (λ_(x:α)(_:Unit)=>(Rd.go ():Rd Unit Unit)) pre l ()).el K1 K2=K1 ()
 |[],pre=>rfl
 |x::l,pre=>by rw[fO];exact ES K1 K2 l _
theorem Ng{α S:Type}{body:List α→α→S→Rd S Int}{mq:List α→List α→Int}(h0:∀pre,mq pre []=0)(h:∀pre x rest s,mq pre (x::rest)=(body pre x s).el (λ_=>mq (pre++[x]) rest) (λr=>r)) {γ:Type} (K:Int→γ):
  ∀(l pre:List α)(s:S),(fO body pre l s).el (λ_=>K 0) K=K (mq pre l)
 |[],pre,s=>by rw[fO,h0];rfl
 |x::l,pre,s=>by
  rw[fO,h pre x l s];cases body pre x s with
  |go s'=>exact Ng h0 h K l (pre++[x]) s'
  |out r=>rfl
theorem Wz(f:Int→Nat→Bool)(v:Int)(a:Nat):kM f v a 0=f:=by funext w k;unfold kM;rw[aI (by omega)]
theorem Oc{γ:Type}(σ:Heap){vs:List Int}(hn:vs.Nodup)(f:Int→Nat→Bool)(u:eG)(a s:Nat)(ha:u.address=a)(hs:a+s≤513)(hm:u.univ∈vs)(K:an→Heap→Option γ):
  (A.loop (λv11 fN=>
   ((A.lb (aj v11 0)).bind λ_=>some (3)).bind λp13=>
   ((A.lb (aj v11 0)).bind λiq=>A.aB p13 iq).bind λaW=>
   (A.add aW (.ah (s:Int))).bind λbK=>
   (A.lss (aj v11 1) bK).bind λbW=>
   A.cond bW (
    ((A.lb (aj v11 0)).bind λ_=>some (2)).bind λp18=>
    ((A.lb (aj v11 0)).bind λpq=>A.aB p18 pq).bind λdw=>
    (A.look .i (.om σ.length) dw AV.np fN).bind λbX=>
    (A.sR bX).bind λdc=>
    (A.sM 513 1 dc (aj v11 1)).bind λdX=>
    (A.storeAt dX [AV.bool true] fN).bind λyl=>
    (A.add (aj v11 1) (AV.ah 1)).bind λeA=>
    some (AX.normal,[(aj v11 0),eA],yl)) (
    some (AX.exit 0,[(aj v11 0),(aj v11 1)],fN))) [.lbx (eD u),.ah (a:Int)] (eU σ vs f)).bind (λLq=>
 bif decide (Lq.1=AX.exit 0)then K Lq.2.1 Lq.2.2 else none)=K [.lbx (eD u),.ah ((a:Int)+s)] (eU σ vs (kM f u.univ a s)):=by
 have hw:IntKind.i64.wrap ((a:Int)+s)=(a:Int)+s:=dK (by unfold aZ;omega)
 refine(jY (S:=Unit) (R:=Unit) (List.range' a s) (λ_ k(_:Unit)=>(Rd.go ():Rd Unit Unit))
  (λpre _=>[.lbx (eD u),.ah ((a:Int)+(pre.length:Int))]) (λpre _=>eU σ vs (kM f u.univ a pre.length)) (λ_=>(.exit 0,[.lbx (eD u),.ah ((a:Int)+s)],eU σ vs (kM f u.univ a s))) (λpre _ _=>(.ret,[],σ))
  (λ_ _=>True) () (λ_=>K [.lbx (eD u),.ah ((a:Int)+s)] (eU σ vs (kM f u.univ a s))) (λ_=>none) ?_ ?_ trivial (λ_ _ _ _ _ _ _ _=>trivial) ?_ ?_ (hv:=by simp) (dI:=by rw[List.length_nil,Wz])).trans (ES _ _ _ _)
 ·intro pre k rest t hl _;have hx:=kj hl;have hlt:=lT hl;rw[List.length_range']at hlt
  obtain rfl:a+pre.length=k:=by have:=(bU.1 hx).2;simpa [List.getElem_range']using this
  have hlt':(a:Int)+(pre.length:Int)<(a:Int)+s:=by omega
  have hi1:IntKind.i64.wrap ((a:Int)+(pre.length:Int)+1)=(a:Int)+((pre.length:Int)+1):=by rw[dK (by unfold aZ;omega)];omega
  have ecast:(a:Int)+(pre.length:Int)=((a+pre.length:Nat):Int):=by omega
  clear hl hx
  have Jw:A.look .i (.om σ.length) (.ah u.univ) AV.np (eU σ vs (kM f u.univ a pre.length))=some (.op (σ.length+1+vs.idxOf u.univ) 0):=by rw[vF .i rfl (EF σ vs _),Ev,aK hm];rfl
  have ab0:A.sM 513 1 (.op (σ.length+1+vs.idxOf u.univ) 0) (.ah ((a+pre.length:Nat):Int))=some (.op (σ.length+1+vs.idxOf u.univ) (a+pre.length)):=by
   have h1:A.idx 513 (.ah ((a+pre.length:Nat):Int))=some (a+pre.length):=by show(if(0:Int)≤((a+pre.length:Nat):Int)∧((a+pre.length:Nat):Int)<((513:Nat):Int)then some ((a+pre.length:Nat):Int).toNat else none)=_;rw[aK ⟨by omega,by omega⟩];rfl
   unfold A.sM;rw[h1];simp only[aQ,Nat.mul_one,Nat.zero_add]
  have hst:A.storeAt (.op (σ.length+1+vs.idxOf u.univ) (a+pre.length)) [.bool true] (eU σ vs (kM f u.univ a pre.length))=some (eU σ vs (kM f u.univ a (pre.length+1))):=by
   simp only[A.storeAt,PW σ _ hm]
   rw[XF _ (kM f u.univ a (pre.length+1) u.univ) (by omega) (by unfold kM;rw[aK ⟨rfl,by omega,by omega⟩]) (λj hj=>by
    unfold kM;by_cases q:a≤j∧j<a+pre.length
    ·rw[aK ⟨rfl,by omega,by omega⟩,aK ⟨rfl,q.1,q.2⟩]
    ·rw[aI (by omega),aI (by omega)])]
   simp only[eO];rw[aah σ hn hm (λw hw=>by funext j;unfold kM;rw[aI (λq=>hw q.1),aI (λq=>hw q.1)])]
  simp only[au,reduceCtorEq,ga,gb,gd,gf,gj,gh,gl,ha,hw,hlt',Jw,show A.sR (.op (σ.length+1+vs.idxOf u.univ) 0)=some (.op (σ.length+1+vs.idxOf u.univ) 0)from rfl];rw[ecast,ab0];simp only[au,reduceCtorEq,hst,←ecast,hi1]
 ·intro t _;rw[List.length_range'];simp only[au,reduceCtorEq,ga,gb,gd,gf,gj,gh,gl,ha,hw,Int.lt_irrefl]
 ·intro t _;simp only[au,reduceCtorEq]
 ·intro pre x rest t r _ _ hb;cases hb
theorem aae(σ:Heap){vs:List Int}(hn:vs.Nodup)(f:Int→Nat→Bool)(u:eG)(a s:Nat)(ha:u.address=a)(hs:a+s≤513)(hf:u.univ∉vs→∀k,f u.univ k=false):
  DF [.om σ.length,.agg (eD u),.ah (s:Int)] (eU σ vs f)=some (.aD [],eU σ (if u.univ∈vs then vs else vs++[u.univ]) (kM f u.univ a s)):=by
 have e:Bd (.om σ.length) (.agg (eD u)) (.ah (s:Int)) (eU σ vs f)=some (.aD [],eU σ (if u.univ∈vs then vs else vs++[u.univ]) (kM f u.univ a s)):=by
  unfold Bd
  have Jw:A.look .i (.om σ.length) (.ah u.univ) AV.np (eU σ vs f)=some (if u.univ∈vs then .op (σ.length+1+vs.idxOf u.univ) 0 else .np):=by rw[vF .i rfl (EF σ vs _),Ev];by_cases hm:u.univ∈vs<;>simp [hm]
  simp only[au,reduceCtorEq,ga,gb,gd,gf,gj,gh,gl,Jw];by_cases hm:u.univ∈vs
  ·simp only[aK hm,show A.eql .p (.op (σ.length+1+vs.idxOf u.univ) 0) AV.np=some (.bool false)from rfl,au,reduceCtorEq,ga,gb,gd,gf,gj,gh,gl,ha];exact Oc σ hn f u a s ha hs hm λ_ h=>some (AV.aD [],h)
  ·have hup:A.iS .i (.om σ.length) (.ah u.univ) (.op (eU σ vs f).length 0) (eU σ vs f++[bk.box (List.replicate 513 bI)])=some (eU σ (vs++[u.univ]) f):=by rw[BR .i rfl (es:=oH (σ.length+1) vs) (by rw[fE (by rw[PX];omega)];exact EF σ vs f),PV _ _ _ _ hm];rw[eO,PX,←OY,aag σ vs (hf hm)]
   simp only[aI hm,show A.eql .p AV.np AV.np=some (.bool true)from rfl,au,reduceCtorEq,ga,gb,gd,gf,gj,gh,gl,hup,ha];exact Oc σ (by rw[List.nodup_append];exact⟨hn,by simp,λx hx y hy e=>hm (by simp at hy;rw[←hy,←e];exact hx)⟩) f u a s ha hs (by simp) λ_ h=>some (AV.aD [],h)
 unfold DF A.wrap;rw[Bool.false_and,aV];show(Bd (.om σ.length) (.agg (eD u)) (.ah (s:Int)) (eU σ vs f)).map _=_;rw[e];rfl
theorem vu(n:Int)(σ:Heap):zo [.ah n] σ=some (.bool (bz n 0 65535),σ):=by refine wrap_eq rfl ?_ rfl;show GV (.ah n) σ=_;unfold GV;simp only[au,reduceCtorEq,oI]
theorem N8(x:dR)(σ:Heap):DW [.agg (b7 x)] σ=some (sl 1 cC (kN x.ef x.cU),σ):=by
 refine wrap_eq (v:=sl 1 cC (kN x.ef x.cU)) rfl ?_ rfl;show Ib (.agg (b7 x)) σ=_;unfold Ib kN;simp only[au,reduceCtorEq,jO,jP,jQ,jR,jS,jT,jU,jW,jV,jq]
 repeat' ((first|rw[jH]|rw[jG]|rw[jE]|rw[jx]|rw[jD]|rw[jC]);split<;>try simp only[au,reduceCtorEq, *])
 all_goals rfl
theorem Yg(σ:Heap)(l:List ko):(fO (λpre(x:ko)(_:Unit)=>
    if bz x.low 0 65535=false∨bz x.high 0 65535=false∨x.high<x.low then(.out 1:Rd Unit Int)
    else if 0<pre.length∧x.low≤(pre.getLast?.map (·.high)).getD 0 then .out 7
    else if lW x.name=false then .out 5
    else if dA x.name (pre.map (·.name))=true then .out 6 else .go ()) [] l ()).el (λ_=>some (AV.ah 0,σ)) (λr=>some (AV.ah r,σ))=some (.ah (xJ [] l),σ):=by
 refine(vB (mq:=xJ) ?_ ?_ (λn=>some (AV.ah n,σ)) l []).trans ?_
 ·intro pre;rfl
 ·intro pre x rest;rw[xJ];simp only[sG,p7,qd]
 ·rfl
theorem UL(x:dR)(hx:I6 x)(l:List dR)(hl:l.length≤bQ)(size:Int)(hf:∀y∈l,0≤y.cU)(σ:Heap):Gv [.agg (b7 x),sl 7 b7 l,.ah size] σ=some (.ah (sY size l x),σ):=by
 refine wrap_eq rfl ?_ rfl;show Gx (.agg (b7 x)) (sl 7 b7 l) (.ah size) σ=_;obtain⟨k1,k2,k3,k4,k5,k6⟩:=hx;have hN:=Hw _ k1;unfold Gx sY;simp only[au,reduceCtorEq,jO,jP,jQ,jR,jS,jT,jU,jW,jV,jq,hN];cases hn:lW x.name
 ·simp only[au,reduceCtorEq]
 simp only[au,reduceCtorEq];refine(xe l (λy=>decide (y.name=x.name)) (λi=>[.lbx (b7 x),.ah 0,.ah (i:Int)]) σ (.exit 0,[.lbx (b7 x),.ah 0,.ah (l.length:Int)],σ) (λi=>(.ret,[.lbx (b7 x),.ah 6,.ah (i:Int)],σ)) _ (some (.ah 6,σ)) ?_ ?_ rfl ?_).trans ?_
 ·intro i y hy;obtain⟨h1,h2,h3⟩:=sB 7 b7 hy;have h3:=h3 hl;simp only[au,reduceCtorEq,jO,jP,jQ,jR,jS,jT,jU,jW,jV,jq,h1,h2,h3]
  repeat' ((first|rw[jH]|rw[jG]|rw[jE]|rw[jx]|rw[jD]|rw[jC]);split<;>try simp only[au,reduceCtorEq, *])
 ·simp only[au,reduceCtorEq,Int.lt_irrefl]
 ·intro i;simp only[au,reduceCtorEq]
 rw[←El x.name (λy:dR=>y.name)];cases hm:dA x.name (l.map (·.name))
 ·simp only[au,reduceCtorEq,jO,jP,jQ,jR,jS,jT,jU,jW,jV,jq,oI,vu];cases hg:bz x.group 1 4
  ·simp only[au,reduceCtorEq]
  simp only[au,reduceCtorEq];by_cases hw:bz x.ef 1 size=false∨bz x.cU 0 size=false∨bz x.default 0 65535=false
  ·rw[aK hw];cases ha:bz x.ef 1 size
   ·simp only[au,reduceCtorEq]
   cases hb:bz x.cU 0 size
   ·simp only[au,reduceCtorEq,oI,hb]
   ·have hc:bz x.default 0 65535=false:=by simpa [ha,hb]using hw
    simp only[au,reduceCtorEq,oI,vu,hb,hc]
  ·rw[aI hw];simp only[not_or,Bool.not_eq_false]at hw;obtain⟨ha,hb,hc⟩:=hw;have hx0:0≤x.cU:=by simp [bz]at hb;exact hb.1
   simp only[au,reduceCtorEq,oI,vu,ha,hb,hc];by_cases he:x.ef=x.cU
   ·simp only[au,reduceCtorEq,he]
   simp only[au,reduceCtorEq,he];refine(xe l (λy=>Ab x.ef x.cU y.ef y.cU) (λi=>[.lbx (b7 x),.ah 0,.ah (i:Int)]) σ (.exit 3,[.lbx (b7 x),.ah 0,.ah (l.length:Int)],σ) (λi=>(.ret,[.lbx (b7 x),.ah 12,.ah (i:Int)],σ)) _ (some (.ah 12,σ)) ?_ ?_ rfl ?_).trans ?_
   ·intro i y hy;obtain⟨h1,h2,h3⟩:=sB 7 b7 hy;have h3:=h3 hl;have iw:∀a b:Int,(kN a b).length≤bQ:=by intro a b;unfold kN bQ;split<;>simp
    simp only[au,reduceCtorEq,jO,jP,jQ,jR,jS,jT,jU,jW,jV,jq,h1,h2,h3,N8];refine(xe (kN x.ef x.cU) (λs=>dA s (kN y.ef y.cU)) (λj=>[.lbx (b7 x),.ah 0,.lbx (b7 y),.ah (j:Int)]) σ (.exit 5,[.lbx (b7 x),.ah 0,.lbx (b7 y),.ah ((kN x.ef x.cU).length:Int)],σ) (λj=>(.ret,[.lbx (b7 x),.ah 12,.lbx (b7 y),.ah (j:Int)],σ)) _ (some (.ret,[.lbx (b7 x),.ah 12,.ah (i:Int)],σ)) ?_ ?_ rfl ?_).trans ?_
    ·intro j s hs;obtain⟨g1,g2,g3⟩:=sB 1 cC hs;have g3:=g3 (iw _ _)
     have hc:∀σ,A7 [sl 1 cC (kN y.ef y.cU),.ah s] σ=some (.bool (dA s (kN y.ef y.cU)),σ):=by intro σ;rw[Md _ (iw _ _) s σ];simp only[dA];congr 4;funext z;rw[decide_eq_decide];exact eq_comm
     simp only[au,reduceCtorEq,jO,jP,jQ,jR,jS,jT,jU,jW,jV,jq,g1,g2,g3,N8,hc];cases dA s (kN y.ef y.cU)<;>simp only[au,reduceCtorEq]
    ·simp only[au,reduceCtorEq,Int.lt_irrefl]
    ·intro j;simp only[au,reduceCtorEq]
    ·simp only[au,reduceCtorEq,Ab,h3];rfl
   ·simp only[au,reduceCtorEq,Int.lt_irrefl]
   ·intro i;simp only[au,reduceCtorEq]
   have eZ:(l.any λy=>Ab x.ef x.cU y.ef y.cU)=true↔(dA x.ef (slotsOf l)=true∨(0<x.cU∧dA x.cU (slotsOf l)=true)):=Xe hf hx0;by_cases mU:(l.any λy=>Ab x.ef x.cU y.ef y.cU)=true
   ·rw[aK mU,aK (eZ.1 mU)]
   rw[aI mU,aI (λh=>mU (eZ.2 h))];clear eZ mU;simp only[au,reduceCtorEq,jO,jP,jQ,jR,jS,jT,jU,jW,jV,jq];unfold vJ;by_cases uQ:30<x.ranges.length
   ·have qT:(30:Int)<x.ranges.length:=by omega
    simp only[au,reduceCtorEq,uQ,qT]
   have qT:¬(30:Int)<x.ranges.length:=by omega
   simp only[au,reduceCtorEq,uQ,qT]
   refine(jY (S:=Unit) (R:=Int) x.ranges _
    (λpre _=>[.lbx (b7 x),.ah 0,.ah (pre.length:Int)]) (λpre _=>σ)
    (λ_=>(.exit 7,[.lbx (b7 x),.ah 0,.ah (x.ranges.length:Int)],σ)) (λpre _ r=>(.ret,[.lbx (b7 x),.ah r,.ah (pre.length:Int)],σ))
    (λ_ _=>True) () (λ_=>some (AV.ah 0,σ)) (λr=>some (AV.ah r,σ)) ?_ ?_ trivial (λ_ _ _ _ _ _ _ _=>trivial) ?_ ?_).trans (Yg σ x.ranges)
   ·intro pre r rest u hl' _;have hr:=kj hl';have hlt:=lT hl';have hi1:IntKind.i64.wrap ((pre.length:Int)+1)=(pre.length:Int)+1:=dK (by unfold aZ;omega);have hi2:IntKind.i64.wrap ((pre.length:Int) -1)=(pre.length:Int) -1:=dK (by unfold aZ;omega);have hlt':(pre.length:Int)<(x.ranges.length:Int):=by omega
    have hnm:=(k6.2 r (by rw[hl'];simp)).2.2;have gI:=jr 3 gm x.ranges hr;have SD:=Hw _ hnm;have hst:=λσ=>DS 3 gm x.ranges (k:=pre.length) (by omega) (σ:=σ)
    rw[En hl']at hst;have hpl:pre.length≤bQ:=by unfold bQ;omega
    by_cases h0:0<pre.length
    ·obtain⟨y,hy,hy2⟩:=IG hl' h0;have xM:=DV 3 gm x.ranges h0 hy2;have fL:(0:Int)<pre.length:=by omega
     clear hl' hr hlt uQ qT hy2 hnm k1 k2 k3 k4 k5 k6 hN hn hm hg ha hb hc hx0 he hf;simp only[au,reduceCtorEq,sj,sk,su,sx,sw,sy,jO,jP,jQ,jR,jS,jT,jU,jW,jV,jq,hlt',gI,vu,hi1,hi2,SD,fL,hy,h0]
     repeat' ((first|rw[jH]|rw[jG]|rw[jE]|rw[jx]|rw[jD]|rw[jC]);split<;>try simp only[au,reduceCtorEq,sj,sk,su,sx,sw,sy,jO,jP,jQ,jR,jS,jT,jU,jW,jV,jq,vu, *])
     all_goals first|rfl|(simp_all;done)|skip
     all_goals
      refine(xe pre (λz=>decide (z.name=r.name)) (λj=>[.lbx (b7 x),.ah 0,.lbx (gm r),.ah (j:Int)]) σ (.exit 10,[.lbx (b7 x),.ah 0,.lbx (gm r),.ah (pre.length:Int)],σ) (λj=>(.ret,[.lbx (b7 x),.ah 6,.lbx (gm r),.ah (j:Int)],σ)) _ (some (.ret,[.lbx (b7 x),.ah 6,.ah (pre.length:Int)],σ)) ?_ ?_ rfl ?_).trans ?_
      ·intro j z hz;obtain⟨g1,g2,g3⟩:=sB 3 gm hz;have g3:=g3 hpl;simp only[au,reduceCtorEq,sj,sk,su,sx,sw,sy,g1,g2,g3]
       repeat' ((first|rw[jH]|rw[jG]|rw[jE]|rw[jx]|rw[jD]|rw[jC]);split<;>try simp only[au,reduceCtorEq, *])
      ·simp only[au,reduceCtorEq,Int.lt_irrefl]
      ·intro j;simp only[au,reduceCtorEq]
      ·rw[←El r.name (λz:ko=>z.name)]
       simp_all [au,reduceCtorEq]
       try (split<;>simp_all)
    ·have fL:¬(0:Int)<pre.length:=by omega
     clear hl' hr hlt uQ qT hnm k1 k2 k3 k4 k5 k6 hN hn hm hg ha hb hc hx0 he hf;simp only[au,reduceCtorEq,sj,sk,su,sx,sw,sy,jO,jP,jQ,jR,jS,jT,jU,jW,jV,jq,hlt',gI,vu,hi1,hi2,SD,fL,h0]
     repeat' ((first|rw[jH]|rw[jG]|rw[jE]|rw[jx]|rw[jD]|rw[jC]);split<;>try simp only[au,reduceCtorEq,sj,sk,su,sx,sw,sy,jO,jP,jQ,jR,jS,jT,jU,jW,jV,jq,vu, *])
     all_goals first|rfl|(simp_all;done)|skip
     all_goals
      refine(xe pre (λz=>decide (z.name=r.name)) (λj=>[.lbx (b7 x),.ah 0,.lbx (gm r),.ah (j:Int)]) σ (.exit 10,[.lbx (b7 x),.ah 0,.lbx (gm r),.ah (pre.length:Int)],σ) (λj=>(.ret,[.lbx (b7 x),.ah 6,.lbx (gm r),.ah (j:Int)],σ)) _ (some (.ret,[.lbx (b7 x),.ah 6,.ah (pre.length:Int)],σ)) ?_ ?_ rfl ?_).trans ?_
      ·intro j z hz;obtain⟨g1,g2,g3⟩:=sB 3 gm hz;have g3:=g3 hpl;simp only[au,reduceCtorEq,sj,sk,su,sx,sw,sy,g1,g2,g3]
       repeat' ((first|rw[jH]|rw[jG]|rw[jE]|rw[jx]|rw[jD]|rw[jC]);split<;>try simp only[au,reduceCtorEq, *])
      ·simp only[au,reduceCtorEq,Int.lt_irrefl]
      ·intro j;simp only[au,reduceCtorEq]
      ·rw[←El r.name (λz:ko=>z.name)]
       simp_all [au,reduceCtorEq]
       try (split<;>simp_all)
   ·intro u _;simp only[au,reduceCtorEq,Int.lt_irrefl]
   ·intro u _;simp only[au,reduceCtorEq]
   ·intros;simp only[au,reduceCtorEq]
 ·simp only[au,reduceCtorEq]
theorem Uz(p:ct)(hok:wY p)(σ:Heap):Gn [.agg (cH p)] σ=some (.ah (kK p),σ):=by
 refine wrap_eq rfl ?_ rfl;show Gs (.agg (cH p)) σ=_;obtain⟨pn,ps,l⟩:=p;obtain⟨hnm,hps,xO⟩:=hok;simp only at hnm hps xO;have hN:=Hw _ hnm;unfold Gs kK;simp only[au,reduceCtorEq,gJ,gK,gL,gO,gM,gP,hN,oI];cases hn:lW pn
 ·simp only[au,reduceCtorEq]
 cases hz:bz ps 1 512
 ·simp only[au,reduceCtorEq]
 by_cases h0:l.length=0
 ·obtain rfl:l=[]:=uk h0;simp [au,reduceCtorEq]
 have fL:¬(l.length:Int)=0:=by omega
 by_cases yy:40<l.length
 ·have uu:(40:Int)<l.length:=by omega
  simp only[au,reduceCtorEq,h0,fL,yy,uu]
 have uu:¬(40:Int)<l.length:=by omega
 simp only[au,reduceCtorEq,h0,fL,yy,uu]
 refine(jY (S:=Unit) (R:=Int) l (λpre x _=>if sY ps pre x=0 then .go ()else .out (sY ps pre x))
  (λpre _=>[.lbx (cH ⟨pn,ps,l⟩),.ah 0,.ah (pre.length:Int)]) (λpre _=>σ)
  (λ_=>(.exit 1,[.lbx (cH ⟨pn,ps,l⟩),.ah 0,.ah (l.length:Int)],σ))
  (λpre _ r=>(.ret,[.lbx (cH ⟨pn,ps,l⟩),.ah r,.ah (pre.length:Int)],σ))
  (λpre _=>∀y∈pre,0≤y.cU) () (λ_=>some (AV.ah 0,σ)) (λr=>some (AV.ah r,σ)) ?_ ?_ (by simp) ?_ ?_ ?_).trans ?_
 ·intro pre x rest u hl hpre;have hx:=kj hl;have hlt:=lT hl;have hi1:IntKind.i64.wrap ((pre.length:Int)+1)=(pre.length:Int)+1:=dK (by unfold aZ;omega);have hi2:IntKind.i64.wrap ((pre.length:Int) -1)=(pre.length:Int) -1:=dK (by unfold aZ;omega);have hlt':(pre.length:Int)<(l.length:Int):=by omega
  have hX:=UL x (xO.2 x (by rw[hl];simp)) pre (by unfold bQ;omega) ps hpre σ;have gI:=jr 7 b7 l hx;have hst:=λσ=>DS 7 b7 l (k:=pre.length) (by omega) (σ:=σ)
  rw[En hl]at hst;clear hl hx hlt xO yy uu h0 fL hnm hps hN hn hz hpre;simp only[au,reduceCtorEq,jO,jP,jQ,jR,jS,jT,jU,jW,jV,jq,gJ,gK,gL,gO,gM,gP,hlt',gI,hst,hX,hi1]
  repeat' ((first|rw[jH]|rw[jG]|rw[jE]|rw[jx]|rw[jD]|rw[jC]);split<;>try simp only[au,reduceCtorEq,jO,jP,jQ,jR,jS,jT,jU,jW,jV,jq, *])
  all_goals first|with_reducible rfl|(simp [*];done)|(simp_all;done)|(simp_all;omega)|rfl
 ·intro u _;exact qH _ _ _
 ·intro pre x rest s s' hl hpre hb y hy;rcases eN.1 hy with hy|hy
  ·exact hpre y hy
  ·simp at hy;subst hy;by_cases h:sY ps pre y=0
   ·exact Xd h
   ·rw[aI h]at hb;cases hb
 ·intro u _;simp only[au,reduceCtorEq]
 ·intros;simp only[au,reduceCtorEq]
 ·refine(vB (mq:=vW ps) ?_ ?_ (λn=>some (AV.ah n,σ)) l []).trans ?_
  ·intro pre;rfl
  ·intro pre x rest;rw[Xc];simp only[sG,p7,qd]
  ·rfl
theorem Uy(l:List ct)(hok:fR wY l)(σ:Heap):Gm [sl 3 cH l] σ=some (.ah (oZ l),σ):=by
 refine wrap_eq rfl ?_ rfl;show Gq (sl 3 cH l) σ=_;unfold Gq oZ;simp only[au,reduceCtorEq];by_cases yz:60<l.length
 ·have uv:(60:Int)<l.length:=by omega
  simp only[au,reduceCtorEq,yz,uv]
 have uv:¬(60:Int)<l.length:=by omega
 simp only[au,reduceCtorEq,yz,uv]
 refine(jY (S:=Unit) (R:=Int) l (λpre x _=>if kK x=0 then(if dA x.name (pre.map (·.name))=true then .out 6 else .go ())else .out (kK x))
  (λpre _=>[.ah 0,.ah (pre.length:Int)]) (λpre _=>σ)
  (λ_=>(.exit 0,[.ah 0,.ah (l.length:Int)],σ)) (λpre _ r=>(.ret,[.ah r,.ah (pre.length:Int)],σ))
  (λ_ _=>True) () (λ_=>some (AV.ah 0,σ)) (λr=>some (AV.ah r,σ)) ?_ ?_ trivial (λ_ _ _ _ _ _ _ _=>trivial) ?_ ?_).trans ?_
 ·intro pre x rest u hl _;have hx:=kj hl;have hlt:=lT hl;have hi1:IntKind.i64.wrap ((pre.length:Int)+1)=(pre.length:Int)+1:=dK (by unfold aZ;omega);have hi2:IntKind.i64.wrap ((pre.length:Int) -1)=(pre.length:Int) -1:=dK (by unfold aZ;omega);have hlt':(pre.length:Int)<(l.length:Int):=by omega
  have hP:=Uz x (hok.2 x (by rw[hl];simp));have gI:=jr 3 cH l hx;have hst:=λσ=>DS 3 cH l (k:=pre.length) (by omega) (σ:=σ)
  rw[En hl]at hst;have hpl:pre.length≤bQ:=by unfold bQ;omega
  clear hl hx hlt hok yz uv;simp only[au,reduceCtorEq,gJ,gK,gL,gO,gM,gP,hlt',gI,hi1,hst,hP];by_cases hp:kK x=0
  ·simp only[au,reduceCtorEq,hp];refine(xe pre (λz=>decide (z.name=x.name)) (λj=>[.ah 0,.lbx (cH x),.ah (j:Int)]) σ (.exit 2,[.ah 0,.lbx (cH x),.ah (pre.length:Int)],σ) (λj=>(.ret,[.ah 6,.lbx (cH x),.ah (j:Int)],σ)) _ (some (.ret,[.ah 6,.ah (pre.length:Int)],σ)) ?_ ?_ rfl ?_).trans ?_
   ·intro j z hz;obtain⟨g1,g2,g3⟩:=sB 3 cH hz;have g3:=g3 hpl;simp only[au,reduceCtorEq,gJ,gK,gL,gO,gM,gP,g1,g2,g3]
    repeat' ((first|rw[jH]|rw[jG]|rw[jE]|rw[jx]|rw[jD]|rw[jC]);split<;>try simp only[au,reduceCtorEq, *])
   ·simp only[au,reduceCtorEq,Int.lt_irrefl]
   ·intro j;simp only[au,reduceCtorEq]
   ·rw[←El x.name (λz:ct=>z.name)];simp only[au,reduceCtorEq,hi1];cases dA x.name (pre.map (·.name))<;>simp [Rd.el]
  ·simp only[au,reduceCtorEq,hp]
 ·intro u _;exact qH _ _ _
 ·intro u _;simp only[au,reduceCtorEq]
 ·intros;simp only[au,reduceCtorEq]
 ·refine(vB (mq:=sX) ?_ ?_ (λn=>some (AV.ah n,σ)) l []).trans ?_
  ·intro pre;rfl
  ·intro pre x rest;rw[sX];simp only[sG,p7,qd]
  ·rfl
theorem OF(r:dP)(u:eG)(hl:r.bL.length≤bQ)(h:aZ (u.address+(eC u.fq r.bL).1.size))(h':aZ (fD r.bL u))(σ:Heap):Bv [.agg (dr r),.agg (eD u)] σ=some (.ah (fD r.bL u),σ):=by refine wrap_eq rfl ?_ rfl;show Io (.agg (dr r)) (.agg (eD u)) σ=_;unfold Io;unfold fD at h' ⊢;simp only[au,reduceCtorEq,iz,iA,iC,iB,iD,ga,gb,gd,gf,gj,gh,gl,gJ,gK,gL,gO,gM,gP,G4 _ hl,dK h,dK h']
theorem M8{α:Type}(f:α→Int){l pre rest:List α}{x:α}(h:l=pre++x::rest)(n:Int):(∃y,0<pre.length∧l[pre.length-1]? =some y∧wm (pre.map f) n=decide (n≤f y))∨(¬0<pre.length∧wm (pre.map f) n=false):=by
 by_cases h0:0<pre.length
 ·obtain⟨y,hy,hy2⟩:=IG h h0;exact .inl ⟨y,h0,hy2,by simp [wm,List.getLast?_map,hy]⟩
 ·obtain rfl:pre=[]:=uk (by omega);exact .inr ⟨h0,rfl⟩
theorem aaJ{r:dP}{x:eG}(h:1≤x.address∧x.address≤fD r.bL x∧fD r.bL x≤512):aZ (x.address+(eC x.fq r.bL).1.size)∧aZ (fD r.bL x):=by unfold fD at h ⊢;unfold aZ;omega
theorem Vl(r:dP)(hok:nQ r)(σ:Heap):GG [.agg (dr r)] σ=some (.ah (eS r),σ):=by
 refine wrap_eq rfl ?_ rfl;show GK (.agg (dr r)) σ=_;obtain⟨Ap,La⟩:=hok;have yE:=Ap.1;unfold GK eS;simp only[au,reduceCtorEq,iz,iA,iC,iB,iD,Uy _ Ap];by_cases hf:oZ r.bL=0;case neg=>simp only[au,reduceCtorEq,hf]
 by_cases h4:400<r.fA.length
 ·have h4':(400:Int)<r.fA.length:=by omega
  simp only[au,reduceCtorEq,iz,iA,iC,iB,iD,hf,h4,h4']
 have h4':¬(400:Int)<r.fA.length:=by omega
 simp only[au,reduceCtorEq,iz,iA,iC,iB,iD,hf,h4,h4'];have Ae:=M7 hf;generalize uT:r.fA=l at *
 refine(jY (S:=Unit) (R:=Int) l (λpre u _=>if bz u.cz 1 9999=false then .out 1
    else if wm (pre.map (·.cz)) u.cz=true then .out 7
    else if(eC u.fq r.bL).2=false then .out 5
    else if bz u.univ 1 64=false∨bz u.address 1 512=false∨512<fD r.bL u then .out 1
    else if vL r.bL u pre=true then .out 12 else .go ())
  (λpre _=>[.lbx (dr r),.ah 0,.ah (pre.length:Int)]) (λpre _=>σ)
  (λ_=>(.exit 0,[.lbx (dr r),.ah 0,.ah (l.length:Int)],σ)) (λpre _ n=>(.ret,[.lbx (dr r),.ah n,.ah (pre.length:Int)],σ))
  (λpre _=>zS r.bL pre) () (λ_=>some (AV.ah 0,σ)) (λn=>some (AV.ah n,σ)) ?_ ?_ (by intro x hx;simp at hx) ?_ ?_ ?_).trans ?_
 ·intro pre u rest s hl hP;have hx:=kj hl;have hlt:=lT hl;have hi1:IntKind.i64.wrap ((pre.length:Int)+1)=(pre.length:Int)+1:=dK (by unfold aZ;omega);have hi2:IntKind.i64.wrap ((pre.length:Int) -1)=(pre.length:Int) -1:=dK (by unfold aZ;omega);have hlt':(pre.length:Int)<(l.length:Int):=by omega
  have hmp:pre.length≤bQ:=by unfold bQ;omega
  have gI:=jr 4 eD l hx;have hst:=λσ=>DS 4 eD l (k:=pre.length) (by omega) (σ:=σ)
  rw[En hl]at hst;have AJ:=G4 r.bL yE u.fq;have ho:=M8 (·.cz) hl u.cz;clear La h4 h4' hl hx;simp only[au,reduceCtorEq,ga,gb,gd,gf,gj,gh,gl,iz,iA,iC,iB,iD,uT,hlt',gI,AJ,gJ,gK,gL,gO,gM,gP,oI];cases h1:bz u.cz 1 9999
  ·simp only[au,reduceCtorEq]
  simp only[au,reduceCtorEq];rcases ho with⟨y,h0,hy,ho⟩|⟨h0,ho⟩
  case' inl=>
   have fL:(0:Int)<pre.length:=by omega
   have xM:=DV 4 eD l h0 hy;by_cases hq:u.cz≤y.cz
   ·simp only[au,reduceCtorEq,ga,gb,gd,gf,gj,gh,gl,iz,iA,iC,iB,iD,uT,fL,hi2,xM,ho,hq]
   simp only[au,reduceCtorEq,ga,gb,gd,gf,gj,gh,gl,iz,iA,iC,iB,iD,uT,fL,hi2,xM,ho,hq]
  case' inr=>
   have fL:¬(0:Int)<pre.length:=by omega
   simp only[au,reduceCtorEq,fL,ho]
  all_goals
   cases hp:(eC u.fq r.bL).2
   ·simp only[au,reduceCtorEq]
   have hsz:=Ae _ (Br _ _ hp);cases hu:bz u.univ 1 64
   ·simp only[au,reduceCtorEq,ga,gb,gd,gf,gj,gh,gl,oI,hu]
   cases ha:bz u.address 1 512
   ·simp only[au,reduceCtorEq,ga,gb,gd,gf,gj,gh,gl,oI,hu,ha]
   have ha':1≤u.address∧u.address≤512:=by simpa [bz]using ha
   have KQ:=OF r u yE (by unfold aZ;omega) (by unfold fD aZ;omega);by_cases h5:512<fD r.bL u
   ·simp only[au,reduceCtorEq,ga,gb,gd,gf,gj,gh,gl,iz,iA,iC,iB,iD,oI,hu,ha,KQ,h5]
   simp only[au,reduceCtorEq,ga,gb,gd,gf,gj,gh,gl,iz,iA,iC,iB,iD,oI,hu,ha,KQ,h5,uT,hst];refine(xe pre (λx=>decide (x.univ=u.univ∧x.address≤fD r.bL u∧u.address≤fD r.bL x)) (λj=>[.lbx (dr r),.ah 0,.lbx (eD u),.ah (j:Int)]) σ (.exit 3,[.lbx (dr r),.ah 0,.lbx (eD u),.ah (pre.length:Int)],σ) (λj=>(.ret,[.lbx (dr r),.ah 12,.lbx (eD u),.ah (j:Int)],σ)) _ (some (.ret,[.lbx (dr r),.ah 12,.ah (pre.length:Int)],σ)) ?_ ?_ rfl ?_).trans ?_
   ·intro j z hz;obtain⟨g1,g2,g3⟩:=sB 4 eD hz;have g3:=g3 hmp;have Tb:=aaJ (hP z (dF hz));have hLz:=OF r z yE Tb.1 Tb.2;clear hP Ae hz;simp only[au,reduceCtorEq,ga,gb,gd,gf,gj,gh,gl,iz,iA,iC,iB,iD,g1,g2,g3]
    repeat' ((first|rw[jH]|rw[jG]|rw[jE]|rw[jx]|rw[jD]|rw[jC]);split<;>try simp only[au,reduceCtorEq,ga,gb,gd,gf,gj,gh,gl,iz,iA,iC,iB,iD,KQ,hLz, *])
    all_goals first|with_reducible rfl|(simp [*];done)|(simp_all;done)|(simp_all;omega)|rfl
   ·exact qH _ _ _
   ·intro j;simp only[au,reduceCtorEq]
   ·unfold vL;simp only[au,reduceCtorEq,hi1];cases pre.any (λx=>decide (x.univ=u.univ∧x.address≤fD r.bL u∧u.address≤fD r.bL x))<;>simp [Rd.el]
 ·intro u _;exact qH _ _ _
 ·intro pre u rest s s' hl hP hb;split at hb
  ·cases hb
  split at hb
  ·cases hb
  split at hb
  ·cases hb
  rename_i hp;split at hb
  ·cases hb
  rename_i hw;simp only[not_or,Bool.not_eq_false,bz,eH,decide_eq_true_eq]at hw hp;have hsz:=Ae _ (Br _ _ (by simpa using hp));exact hP.snoc ⟨hw.2.1.1,by unfold fD;omega,by omega⟩
 ·intro u _;simp only[au,reduceCtorEq]
 ·intros;simp only[au,reduceCtorEq]
 ·refine(vB (mq:=vX r.bL) ?_ ?_ (λn=>some (AV.ah n,σ)) l []).trans ?_
  ·intro pre;rfl
  ·intro pre x rest;rw[vX];simp only[sG,p7,qd]
  ·rfl
theorem YZ(σ:Heap)(vs:List Int)(f:Int→Nat→Bool)(v:Int):A.look .i (.om σ.length) (.ah v) AV.np (eU σ vs f)=some (if v∈vs then .op (σ.length+1+vs.idxOf v) 0 else .np):=by rw[vF .i rfl (EF σ vs _),Ev];by_cases hm:v∈vs<;>simp [hm]
theorem Pd(σ:Heap)(vs:List Int)(f:Int→Nat→Bool)(n:Int):A.fin σ (.ah n) (eU σ vs f)=some (.ah n,σ):=IW _ _ _ _
theorem G3(r:dP)(hok:nQ r)(σ:Heap):DA [.agg (dr r)] σ=some (.ah (eS r),σ):=by
 refine wrap_eq rfl ?_ rfl;show Gk (.agg (dr r)) σ=_;obtain⟨Ap,La⟩:=hok;have yE:=Ap.1;unfold Gk eS;simp only[au,reduceCtorEq,iz,iA,iC,iB,iD,UA _ Ap];by_cases hf:oZ r.bL=0;case neg=>simp only[au,reduceCtorEq,hf]
 by_cases h4:400<r.fA.length
 ·have h4':(400:Int)<r.fA.length:=by omega
  simp only[au,reduceCtorEq,iz,iA,iC,iB,iD,hf,h4,h4']
 have h4':¬(400:Int)<r.fA.length:=by omega
 simp only[au,reduceCtorEq,iz,iA,iC,iB,iD,hf,h4,h4'];have Ae:=M7 hf;generalize uT:r.fA=l at *
 refine(jY (S:=List Int×(Int→Nat→Bool)) (R:=Int) l (λpre u s=>if bz u.cz 1 9999=false then .out 1
    else if wm (pre.map (·.cz)) u.cz=true then .out 7
    else if(eC u.fq r.bL).2=false then .out 5
    else if bz u.univ 1 64=false∨bz u.address 1 512=false∨512<fD r.bL u then .out 1
    else if vL r.bL u pre=true then .out 12 else .go (if u.univ∈s.1 then s.1 else s.1++[u.univ],kM s.2 u.univ u.address.toNat (eC u.fq r.bL).1.size.toNat))
  (λpre _=>[.lbx (dr r),.ah 0,.ah (pre.length:Int)]) (λpre s=>eU σ s.1 s.2)
  (λs=>(.exit 0,[.lbx (dr r),.ah 0,.ah (l.length:Int)],eU σ s.1 s.2)) (λpre s n=>(.ret,[.lbx (dr r),.ah n,.ah (pre.length:Int)],eU σ s.1 s.2))
  (λpre s=>zS r.bL pre∧vK r.bL pre s.2∧s.1.Nodup∧∀v,v∉s.1→∀k,s.2 v k=false) ([],λ_ _=>false) (λ_=>some (AV.ah 0,σ)) (λn=>some (AV.ah n,σ)) ?_ ?_ ⟨(by intro x hx;simp at hx),vK.nil _,List.nodup_nil,λ_ _ _=>rfl⟩ ?_ ?_ ?_).trans ?_
 ·intro pre u rest s hl hP;have hx:=kj hl;have hlt:=lT hl;have hi1:IntKind.i64.wrap ((pre.length:Int)+1)=(pre.length:Int)+1:=dK (by unfold aZ;omega);have hi2:IntKind.i64.wrap ((pre.length:Int) -1)=(pre.length:Int) -1:=dK (by unfold aZ;omega);have hlt':(pre.length:Int)<(l.length:Int):=by omega
  have hmp:pre.length≤bQ:=by unfold bQ;omega
  have gI:=jr 4 eD l hx;have AJ:=Nb r.bL yE u.fq;have ho:=M8 (·.cz) hl u.cz;obtain⟨vs,f⟩:=s;obtain⟨CI,CJ,AH,AI⟩:=hP;dsimp only at CI CJ AH AI ⊢;clear La h4 h4' hl hx;simp only[au,reduceCtorEq,ga,gb,gd,gf,gj,gh,gl,iz,iA,iC,iB,iD,uT,hlt',gI,AJ,gJ,gK,gL,gO,gM,gP,pX];cases h1:bz u.cz 1 9999
  ·simp only[au,reduceCtorEq]
  simp only[au,reduceCtorEq];rcases ho with⟨y,h0,hy,ho⟩|⟨h0,ho⟩
  case' inl=>
   have fL:(0:Int)<pre.length:=by omega
   have xM:=DV 4 eD l h0 hy;by_cases hq:u.cz≤y.cz
   ·simp only[au,reduceCtorEq,ga,gb,gd,gf,gj,gh,gl,iz,iA,iC,iB,iD,uT,fL,hi2,xM,ho,hq]
   simp only[au,reduceCtorEq,ga,gb,gd,gf,gj,gh,gl,iz,iA,iC,iB,iD,uT,fL,hi2,xM,ho,hq]
  case' inr=>
   have fL:¬(0:Int)<pre.length:=by omega
   simp only[au,reduceCtorEq,fL,ho]
  all_goals
   try simp only[au,reduceCtorEq,ga,gb,gd,gf,gj,gh,gl,iz,iA,iC,iB,iD,uT,AJ]
   cases hp:(eC u.fq r.bL).2
   ·simp only[au,reduceCtorEq,gJ,gK,gL,gO,gM,gP]
   have hsz:=Ae _ (Br _ _ hp);try simp only[au,reduceCtorEq,ga,gb,gd,gf,gj,gh,gl,gJ,gK,gL,gO,gM,gP,pX]
   cases hu:bz u.univ 1 64
   ·simp only[au,reduceCtorEq]
   cases ha:bz u.address 1 512
   ·simp only[au,reduceCtorEq,ga,gb,gd,gf,gj,gh,gl,pX,ha]
   have ha':1≤u.address∧u.address≤512:=by simpa [bz]using ha
   have hw1:IntKind.i64.wrap (u.address+(eC u.fq r.bL).1.size)=u.address+(eC u.fq r.bL).1.size:=dK (by unfold aZ;omega);have FN:IntKind.i64.wrap (u.address+(eC u.fq r.bL).1.size-1)=fD r.bL u:=dK (by unfold aZ;omega);have hlu:fD r.bL u=u.address+(eC u.fq r.bL).1.size-1:=rfl;by_cases h5:512<fD r.bL u
   ·simp only[au,reduceCtorEq,ga,gb,gd,gf,gj,gh,gl,gJ,gK,gL,gO,gM,gP,pX,ha,hw1,FN,h5]
   obtain⟨a,KS⟩:∃a:Nat,u.address=a:=⟨u.address.toNat,by omega⟩
   obtain⟨n,hne⟩:∃n:Nat,(eC u.fq r.bL).1.size=n:=⟨(eC u.fq r.bL).1.size.toNat,by omega⟩
   have FK:=Wr CJ CI u a n KS (by omega) (by omega) (by omega)
   have hfree:zh [if u.univ∈vs then .op (σ.length+1+vs.idxOf u.univ) 0 else .np,.ah (a:Int),.ah (n:Int)] (eU σ vs f)=some (.bool (!vL r.bL u pre),eU σ vs f):=by
    by_cases hm:u.univ∈vs
    ·rw[aK hm,Zt (f u.univ) a n (by omega) (PW σ f hm),FK]
    ·rw[aI hm,Zs a n (by unfold aZ;omega) (by unfold aZ;omega),←FK];have e:qg (f u.univ) n a=true:=(Ij _ _ _).2 λk h1 h2=>⟨by omega,AI _ hm k⟩
     rw[e,show decide ((a:Int)+n-1≤512)=true from eY (by omega)]
   have oB:=aae σ AH f u a n KS (by omega) (AI u.univ);simp only[au,reduceCtorEq,ga,gb,gd,gf,gj,gh,gl,gJ,gK,gL,gO,gM,gP,pX,ha,hw1,FN,h5,YZ];rw[KS,hne];simp only[au,reduceCtorEq,hfree];cases hc:vL r.bL u pre
   ·simp only[au,reduceCtorEq,ga,gb,gd,gf,gj,gh,gl,gJ,gK,gL,gO,gM,gP,hne,oB,hi1,Int.toNat_natCast]
   ·simp only[au,reduceCtorEq]
 ·intro s _;exact qH _ _ _
 ·intro pre u rest s s' hl hP hb;obtain⟨vs,f⟩:=s;obtain⟨CI,CJ,AH,AI⟩:=hP;dsimp only at CI CJ AH AI hb;split at hb
  ·cases hb
  split at hb
  ·cases hb
  split at hb
  ·cases hb
  rename_i hp;split at hb
  ·cases hb
  rename_i hw;split at hb
  ·cases hb
  injection hb with hb
  subst hb;simp only[not_or,Bool.not_eq_false,bz,eH,decide_eq_true_eq]at hw hp;have hsz:=Ae _ (Br _ _ (by simpa using hp));have hlu:fD r.bL u=u.address+(eC u.fq r.bL).1.size-1:=rfl;refine⟨CI.snoc ⟨hw.2.1.1,by omega,by omega⟩,CJ.snoc u u.address.toNat _ (by omega) (by omega),?_,?_⟩
  ·dsimp only;split
   ·exact AH
   ·rename_i hm;rw[List.nodup_append];exact⟨AH,by simp,λx hx y hy e=>hm (by simp at hy;rw[←hy,←e];exact hx)⟩
  ·intro v hv k;dsimp only at hv ⊢
   have h1:v≠u.univ∧v∉vs:=by
    split at hv
    ·rename_i hm;exact⟨λe=>hv (e▸hm),hv⟩
    ·simp only[eN,List.mem_singleton,not_or]at hv;exact⟨hv.2,hv.1⟩
   unfold kM;rw[aI (λq=>h1.1 q.1)];exact AI v h1.2 k
 ·intro s _;simp only[au,reduceCtorEq,Pd]
 ·intros;simp only[au,reduceCtorEq,Pd]
 ·refine(Ng (mq:=vX r.bL) ?_ ?_ (λn=>some (AV.ah n,σ)) l [] _).trans ?_
  ·intro pre;rfl
  ·intro pre x rest s;rw[vX];simp only[sG,p7,qd]
  ·rfl
def nh(eT:List ct)(u:eG):List aS:=(eC u.fq eT).1.params.map λx=>⟨u.cz,x.name⟩
def p9(r:dP):List aS:=r.fA.flatMap (nh r.bL)
theorem UD{p:ct}(h:kK p=0):p.params.length≤40:=by
 unfold kK at h
 repeat' split at h
 all_goals first|(simp at h;done)|omega
theorem MV:∀(l pre:List ct),sX pre l=0→∀p∈l,kK p=0
 |[],pre,h,p,hp=>by simp at hp
 |q::rest,pre,h,p,hp=>by
  rw[sX]at h;by_cases e:kK q=0
  ·rw[aK e]at h;by_cases e2:dA q.name (pre.map (·.name))=true
   ·rw[aK e2]at h;simp at h
   ·rw[aI e2]at h;simp only[eM]at hp;rcases hp with rfl|hp
    ·exact e
    ·exact MV rest _ h p hp
  ·rw[aI e]at h;exact absurd h e
theorem YL{r:dP}(h:eS r=0):oZ r.bL=0:=by
 unfold eS at h;split at h
 ·assumption
 ·rename_i h2;exact absurd h h2
theorem Wx{l:List ct}(h:oZ l=0):∀p∈l,kK p=0:=by
 unfold oZ at h;by_cases e:60<l.length
 ·rw[aK e]at h;simp at h
 ·rw[aI e]at h;exact MV l [] h
theorem Na{r:dP}(h:eS r=0)(nm:ByteArray):(eC nm r.bL).1.params.length≤40:=by
 rw[zw];cases hf:r.bL.find? (λx:ct=>decide (x.name=nm))with
 |none=>exact gU _
 |some p=>exact UD (Wx (YL h) p (List.mem_of_find?_eq_some hf))
theorem G2{r:dP}(h:eS r=0):∀(l:List eG),(l.flatMap (nh r.bL)).length≤l.length*40
 |[]=>by simp
 |u::l=>by
  have h1:=Na h u.fq;have h2:=G2 h l;rw[List.flatMap_cons,List.length_append,List.length_cons,Nat.succ_mul];have h3:(nh r.bL u).length=(eC u.fq r.bL).1.params.length:=by simp [nh]
  omega
theorem aaO(l:List aS)(n:Int):A.nn (.t [(.s 2),.k]) (.aD [if l=[]then .aN else sl 2 cu l,.ah n])=.aD [sl 2 cu l,.ah n]:=by show AV.aD [A.nn (.s 2) (if l=[]then .aN else sl 2 cu l),.ah n]=_;rw[aaP]
theorem Nf{r:dP}(h:eS r=0):r.fA.length≤400:=by
 unfold eS at h;split at h
 ·split at h
  ·cases h
  ·omega
 ·rename_i h2;exact absurd h h2
theorem Y6(r:dP)(hok:nQ r)(σ:Heap):Gy [.agg (dr r)] σ=some (.aD [sl 2 cu (if eS r=0 then p9 r else[]),.ah (eS r)],σ):=by
 by_cases hf:eS r=0
 ·refine wrap_eq rfl (v:=.aD [if p9 r=[]then .aN else sl 2 cu (p9 r),.ah 0]) ?_ (by rw[aK hf,hf];exact aaO _ _);show Bc (.agg (dr r)) σ=_;unfold Bc;have hu:=Nf hf;have Ap:=hok.1.2;simp only[au,reduceCtorEq,iz,iA,iC,iB,iD,G3 r hok,hf]
  refine(jY (S:=Unit) (R:=Unit) r.fA (λpre u _=>(Rd.go ():Rd Unit Unit))
   (λpre _=>[.lbx (dr r),qp σ.length 2 (pre.flatMap (nh r.bL)),.ah (pre.length:Int)]) (λpre _=>σ++nB 2 cu (pre.flatMap (nh r.bL)))
   (λ_=>(.exit 0,[.lbx (dr r),qp σ.length 2 (p9 r),.ah (r.fA.length:Int)],σ++nB 2 cu (p9 r))) (λpre _ _=>(.ret,[],σ))
   (λ_ _=>True) () (λ_=>some (AV.aD [if p9 r=[]then .aN else sl 2 cu (p9 r),.ah 0],σ)) (λ_=>none) ?_ ?_ trivial (λ_ _ _ _ _ _ _ _=>trivial) ?_ ?_ (dI:=by simp [YD])).trans (ES _ _ _ _)
  ·intro pre u rest s hl _;have hx:=kj hl;have hlt:=lT hl;have hi1:IntKind.i64.wrap ((pre.length:Int)+1)=(pre.length:Int)+1:=dK (by unfold aZ;omega);have hlt':(pre.length:Int)<(r.fA.length:Int):=by omega
   have gI:=jr 4 eD r.fA hx;have AJ:=Nb r.bL hok.1.1 u.fq;have hps:=Na hf u.fq;have iu:=G2 hf pre;have K7:(pre++[u]).flatMap (nh r.bL)=pre.flatMap (nh r.bL)++nh r.bL u:=by simp
   have adw:pre.length≤399:=by omega
   generalize hK:pre.flatMap (nh r.bL)=K at *
   generalize hq:(eC u.fq r.bL).1=p at *
   simp only[au,reduceCtorEq,ga,gb,gd,gf,gj,gh,gl,iz,iA,iC,iB,iD,hlt',gI,AJ,hq,gJ,gK,gL,gO,gM,gP]
   refine(jY (S:=Unit) (R:=Unit) p.params (λpre u _=>(Rd.go ():Rd Unit Unit))
    (λrG _=>[.lbx (dr r),qp σ.length 2 (K++rG.map λx=>(⟨u.cz,x.name⟩:aS)),.lbx (eD u),.ah (rG.length:Int)]) (λrG _=>σ++nB 2 cu (K++rG.map λx=>(⟨u.cz,x.name⟩:aS)))
    (λ_=>(.exit 2,[.lbx (dr r),qp σ.length 2 (K++nh r.bL u),.lbx (eD u),.ah (p.params.length:Int)],σ++nB 2 cu (K++nh r.bL u))) (λpre _ _=>(.ret,[],σ))
    (λ_ _=>True) () (λ_=>some (.normal,[.lbx (dr r),qp σ.length 2 (K++nh r.bL u),.ah ((pre.length:Int)+1)],σ++nB 2 cu (K++nh r.bL u))) (λ_=>none) ?_ ?_ trivial (λ_ _ _ _ _ _ _ _=>trivial) ?_ ?_ (hv:=by simp) (dI:=by simp)).trans ((ES _ _ _ _).trans ?_)
   ·intro rG x rest' s hl' _;have gx:=kj hl';have glt:=lT hl';have Sw:IntKind.i64.wrap ((rG.length:Int)+1)=(rG.length:Int)+1:=dK (by unfold aZ;omega);have abY:(rG.length:Int)<(p.params.length:Int):=by omega
    have gia:=jr 7 b7 p.params gx
    have hap:=WD (most:=140737488355328 / 24) (sz:=2) cu (K++rG.map λx=>(⟨u.cz,x.name⟩:aS)) ⟨u.cz,x.name⟩ σ (by
     rw[List.length_append,List.length_map]
     omega)
    have Ch:(K++(rG++[x]).map λx=>(⟨u.cz,x.name⟩:aS))=(K++rG.map λx=>(⟨u.cz,x.name⟩:aS))++[⟨u.cz,x.name⟩]:=by simp
    clear hl gx glt hx hlt iu hl';rw[Ch];have hch:AV.sl 2 (je 2 1 [AV.ah u.cz,AV.str x.name])=.sl 2 [cu ⟨u.cz,x.name⟩]:=rfl;simp only[au,reduceCtorEq,jO,jP,jQ,jR,jS,jT,jU,jW,jV,jq,ga,gb,gd,gf,gj,gh,gl,abY,gia,Sw];show(A.append 2 _ _ (AV.sl 2 [cu ⟨u.cz,x.name⟩]) _).bind _=_;rw[hap];simp only[au,reduceCtorEq,Sw]
   ·intro s _;refine(qH _ _ _).trans ?_;subst hq;rfl
   ·intro s _;simp only[au,reduceCtorEq,hi1]
   ·intros;rename_i hb;cases hb
   ·rw[K7]
  ·intro s _;exact qH _ _ _
  ·intro s _;simp only[au,reduceCtorEq,Yn Ph]
  ·intros;rename_i hb;cases hb
 ·refine wrap_eq rfl (v:=.aD [.aN,.ah (eS r)]) ?_ (by rw[aI hf];rfl);show Bc (.agg (dr r)) σ=_;unfold Bc;simp only[au,reduceCtorEq,iz,iA,iC,iB,iD,G3 r hok,hf]
theorem VP(n:Int)(σ:Heap):GA [.ah n] σ=some (.bool (bz n 0 65535),σ):=by refine wrap_eq rfl ?_ rfl;show GC (.ah n) σ=_;unfold GC;simp only[au,reduceCtorEq,pX]
def QE:dR:=⟨⟨#[]⟩,0,0,0,0,false,[]⟩
def sI(p:ct)(nm:ByteArray):dR×Bool:=(p.params.find? λx=>decide (x.name=nm)).elim (QE,false) λx=>(x,true)
def tW(r:dP)(k:aS):dR×Bool:=(r.fA.find? λu=>decide (u.cz=k.unit)).elim (QE,false) λu=>sI (eC u.fq r.bL).1 k.param
theorem YX(r:dP)(hl:r.fA.length≤bQ)(n:Int)(σ:Heap):Il [.agg (dr r),.ah n] σ=some (.ah (mL (λu:eG=>decide (u.cz=n)) r.fA),σ):=by
 refine wrap_eq rfl ?_ rfl;show Ip (.agg (dr r)) (.ah n) σ=_;unfold Ip;simp only[au,reduceCtorEq,iz,iA,iC,iB,iD];refine(YB r.fA (λu=>decide (u.cz=n)) (λi=>[.ah 0,.ah (i:Int)]) σ (.exit 0,[.ah 0,.ah (r.fA.length:Int)],σ) (λi=>(.ret,[.ah (i:Int),.ah (i:Int)],σ)) (some (AV.ah (-1),σ)) (λi=>some (AV.ah i,σ)) ?_ ?_ ?_ ?_).trans ?_
 ·intro i x hx;obtain⟨g1,g2,g3⟩:=sB 4 eD hx;have g3:=g3 hl;simp only[au,reduceCtorEq,ga,gb,gd,gf,gj,gh,gl,g1,g2,g3]
  repeat' ((first|rw[jH]|rw[jG]|rw[jE]|rw[jx]|rw[jD]|rw[jC]);split<;>try simp only[au,reduceCtorEq, *])
 ·exact qH _ _ _
 ·simp only[au,reduceCtorEq]
 ·intro i;simp only[au,reduceCtorEq]
 ·split
  ·rename_i h;rw[h]
  ·rfl
theorem XK(p:ct)(hl:p.params.length≤bQ)(nm:ByteArray)(σ:Heap):HJ [.agg (cH p),.str nm] σ=some (.aD [.agg (b7 (sI p nm).1),.bool (sI p nm).2],σ):=by
 have key:∃w,Ia (.agg (cH p)) (.str nm) σ=some (w,σ)∧A.nn (.t [(.a o8),.k]) w=.aD [.agg (b7 (sI p nm).1),.bool (sI p nm).2]:=by
  refine⟨(p.params.find? λx=>decide (x.name=nm)).elim (.aD [.agg [.str ⟨#[]⟩,.ah 0,.ah 0,.ah 0,.ah 0,.bool false,.aN],.bool false]) (λx=>.aD [.agg (b7 x),.bool true]),?_,?_⟩
  ·unfold Ia;simp only[au,reduceCtorEq,gJ,gK,gL,gO,gM,gP]
   refine(NO p.params (λx=>decide (x.name=nm)) (λi=>[.lbx [.str ⟨#[]⟩,.ah 0,.ah 0,.ah 0,.ah 0,.bool false,.aN],.bool false,.ah (i:Int)]) σ (.exit 0,[.lbx [.str ⟨#[]⟩,.ah 0,.ah 0,.ah 0,.ah 0,.bool false,.aN],.bool false,.ah (p.params.length:Int)],σ) (λi x=>(.ret,[.lbx (b7 x),.bool true,.ah (i:Int)],σ))
    (some (AV.aD [.agg [.str ⟨#[]⟩,.ah 0,.ah 0,.ah 0,.ah 0,.bool false,.aN],.bool false],σ)) (λx=>some (AV.aD [.agg (b7 x),.bool true],σ)) ?_ ?_ ?_ ?_).trans ?_
   ·intro i x hx;obtain⟨g1,g2,g3⟩:=sB 7 b7 hx;have g3:=g3 hl;simp only[au,reduceCtorEq,jO,jP,jQ,jR,jS,jT,jU,jW,jV,jq,g1,g2,g3]
    repeat' ((first|rw[jH]|rw[jG]|rw[jE]|rw[jx]|rw[jD]|rw[jC]);split<;>try simp only[au,reduceCtorEq,jO,jP,jQ,jR,jS,jT,jU,jW,jV,jq, *])
    all_goals first|with_reducible rfl|(simp [*];done)|(simp_all;done)|(simp_all;omega)|rfl
   ·exact qH _ _ _
   ·simp only[au,reduceCtorEq];rfl
   ·intro i x;simp only[au,reduceCtorEq,jO,jP,jQ,jR,jS,jT,jU,jW,jV,jq]
   ·cases p.params.find? λx=>decide (x.name=nm)<;>rfl
  ·unfold sI;cases p.params.find? λx=>decide (x.name=nm)<;>rfl
 obtain⟨w,h1,h2⟩:=key;exact wrap_eq rfl h1 h2
theorem XP{l:List ct}(h:∀x∈l,wY x)(nm:ByteArray):(eC nm l).1.params.length≤bQ:=by
 rw[zw];cases hf:l.find? (λx:ct=>decide (x.name=nm))with
 |none=>exact gU _
 |some p=>exact(h p (List.mem_of_find?_eq_some hf)).2.2.1
theorem VD(r:dP)(hok:nQ r)(k:aS)(σ:Heap):GR [.agg (dr r),.agg (cu k)] σ=some (.aD [.agg (b7 (tW r k).1),.bool (tW r k).2],σ):=by
 have key:∃w,GW (.agg (dr r)) (.agg (cu k)) σ=some (w,σ)∧A.nn (.t [(.a o8),.k]) w=.aD [.agg (b7 (tW r k).1),.bool (tW r k).2]:=by
  unfold GW tW;simp only[au,reduceCtorEq,iz,iA,iC,iB,iD,NW,NX,PK,O4,I9,YX r hok.2.1];rcases Bq (λu:eG=>decide (u.cz=k.unit)) r.fA with⟨h1,_,h3⟩|⟨j,x,h1,h2,h3,h4,_⟩
  ·refine⟨.aD [.agg [.str ⟨#[]⟩,.ah 0,.ah 0,.ah 0,.ah 0,.bool false,.aN],.bool false],?_,?_⟩
   ·rw[h1];simp only[au,reduceCtorEq,show((-1:Int)<0)from by decide];rfl
   ·rw[h3];rfl
  ·refine⟨.aD [.agg (b7 (sI (eC x.fq r.bL).1 k.param).1),.bool (sI (eC x.fq r.bL).1 k.param).2],?_,?_⟩
   ·rw[h3];simp only[au,reduceCtorEq,iz,iA,iC,iB,iD,NW,NX,PK,O4,I9,ga,gb,gd,gf,gj,gh,gl,gJ,gK,gL,gO,gM,gP,jO,jP,jQ,jR,jS,jT,jU,jW,jV,jq,show ¬((j:Int)<0)from by omega,jr 4 eD r.fA h1,G4 _ hok.1.1,XK _ (XP hok.1.2 x.fq)]
   ·rw[h4];rfl
 obtain⟨w,h1,h2⟩:=key;exact wrap_eq rfl h1 h2
section
set_option maxRecDepth 100000
noncomputable def zA (a0:dP):Option (List (aS×Bool)):=
 (tq (nQ a0) (((if eS a0=0 then p9 a0 else[]:List aS),eS a0))).bind λr1=>
 nw r1.1 (λ(Lf:Nat)Fy(s4:(List (aS×Bool)))=>(show Option (Lr (List (aS×Bool)) (List (aS×Bool)) Unit)from
   some (.go (me Fy true s4)))) (λs4=>some s4) ([]:List (aS×Bool)) (λb5=>
  some b5) (λb5=>
  none)
theorem VO{a0:dP}{σ:Heap}{r:(List (aS×Bool))}(h:zA a0=some r):G9 [(AV.agg (dr a0))] σ=some ((CD (λx=>(AV.agg (cu x))) (λx=>(AV.bool x)) r),σ):=by
 refine zR (f:=Ho) (y0:=(AV.agg (dr a0))) (enc:=λr:(List (aS×Bool))=>(CD (λx=>(AV.agg (cu x))) (λx=>(AV.bool x)) r)) (T:=zA a0) rfl rfl ?_ r h;unfold Ho zA;refine aF _ rfl<|aF _ rfl ?_;refine ig (λr1:((List aS)×Int)=>((AV.aD [(sl 2 cu r1.1),(AV.ah r1.2)]),σ)) (λr1 fP=>(qP (e:=λr:((List aS)×Int)=>((AV.aD [(sl 2 cu r.1),(AV.ah r.2)]),σ)) (λhs=>Y6 a0 hs σ)) fP) (λr1 fP=>?_);refine aF (sl 2 cu r1.1) rfl<|aF _ rfl ?_;have hp2:Hp σ σ []:=Ji σ;have hp3:Hp σ (σ++[bk.map []]) [((AV.om σ.length),(Ct.m (List.map (λp=>((λx=>(AV.agg (cu x))) p.1,(λx=>(AV.bool x)) p.2)) ([]:List (aS×Bool)))))]:=Q5 hp2;refine aF _ (jc _ _ _) ?_;refine xA (B:=(List (aS×Bool))) (R:=Unit) (λ(Lf:Nat)(s4:(List (aS×Bool)))v w6=>v=[(AV.ah (Lf:Int))]∧Hp σ w6 [((AV.om σ.length),(Ct.m (List.map (λp=>((λx=>(AV.agg (cu x))) p.1,(λx=>(AV.bool x)) p.2)) s4)))]) (λ(b5:(List (aS×Bool)))(q:LS)=>∃u16 w7,q=((AX.exit 0),([u16]:an),w7)∧Hp σ w7 [((AV.om σ.length),(Ct.m (List.map (λp=>((λx=>(AV.agg (cu x))) p.1,(λx=>(AV.bool x)) p.2)) b5)))]) (λ(b5:Unit)(q:LS)=>False) ?_ ?_ ⟨rfl,hp3⟩ ?_ ?_
 ·intro abi Lf Fy s4 v w6 JX hI;obtain⟨rfl,uU⟩:=hI;refine aF _ (xF JX)<|xH<|aF _ (xy JX)<|aF _ rfl<|aF _ rfl<|aF _ (I9 _ _ rfl)<|aF _ rfl ?_;obtain⟨Tl,e14,Ru⟩:=Pp (ek:=(.s [0,2])) (eK:=(λx=>(AV.agg (cu x)))) (eV:=(λx=>(AV.bool x))) uU 0 rfl EA Fy true rfl;change Hp σ Tl [((AV.om σ.length),(Ct.m (List.map (λp=>((λx=>(AV.agg (cu x))) p.1,(λx=>(AV.bool x)) p.2)) (me Fy true s4))))]at Ru;refine aF Tl e14<|aF _ (xz JX abi) ?_;exact jt (xB ⟨rfl,Ru⟩)
 ·intro hl s4 v w6 hI;obtain⟨rfl,uU⟩:=hI;refine aF _ (xx _)<|xG ?_;exact jt ⟨by simp,⟨_,_,rfl,uU⟩⟩
 ·intro hl b5 q hq;obtain⟨u16,w7,rfl,SS⟩:=hq;refine qO rfl ?_;exact fu _ (EM SS (aay SS (k:=0) rfl (by intro p hp;obtain⟨x,_,rfl⟩:=mI.1 hp;exact⟨(aax (Ph _)),(Zw _)⟩))) ⟨rfl,rfl⟩
 ·intro hl b5 q hq;exact False.elim hq
noncomputable def DT (a0:aS) (a1:aS):Option Bool:=some ((decide (a0.unit<a1.unit))||((decide (a0.unit=a1.unit))&&(Op.bytesLess a0.param.toList a1.param.toList)))
theorem VL{a0:aS}{a1:aS}{σ:Heap}{r:Bool}(h:DT a0 a1=some r):wV [(AV.agg (cu a0)),(AV.agg (cu a1))] σ=some ((AV.bool r),σ):=by refine Eo (f:=Hi) (y0:=(AV.agg (cu a0))) (y1:=(AV.agg (cu a1))) (enc:=λr:Bool=>(AV.bool r)) (T:=DT a0 a1) rfl rfl ?_ r h;unfold Hi DT;refine aF _ rfl<|aF _ rfl<|aF _ rfl<|aF _ rfl<|aF _ rfl<|nR (AV.ah a0.unit) (λhg=>rfl)<|nR (AV.ah a1.unit) (λhg=>rfl)<|nR (AV.bool (decide (a0.unit=a1.unit))) (λhg=>by(try rw[hg]);exact(uH _ _ _))<|nR (AV.bool (decide (a0.unit=a1.unit))) (λhg=>by(try rw[hg]);exact rfl)<|Jo (AV.str a0.param) (λhg=>rfl)<|Jo (AV.str a1.param) (λhg=>rfl)<|Jo (AV.bool (Op.bytesLess a0.param.toList a1.param.toList)) (λhg=>by(try rw[hg]);exact rfl)<|nR (AV.bool ((decide (a0.unit=a1.unit))&&(Op.bytesLess a0.param.toList a1.param.toList))) (λhg=>by(try rw[hg]);exact(Qu _ _))<|aF _ (E4 _ _) ?_;exact fu _ (ff _ _) ⟨rfl,rfl⟩
end
abbrev SmK:={k:aS // 0≤k.unit∧k.unit≤1000000}
instance : Inhabited SmK := ⟨⟨⟨0, ⟨#[]⟩⟩, by decide⟩⟩
section
section
variable {κ ν : Type} [DecidableEq κ]
theorem Ie(k a:κ)(v:ν):∀(l:List (κ×ν)),gR k (me a v l)=if k=a then some v else gR k l
 |[]=>by simp [me,gR]
 |(b,w)::l=>by
  rw[me];by_cases h:a=b
  ·subst h;rw[aK rfl,gR,gR];split<;>rfl
  ·rw[aI h,gR,gR,Ie k a v l];by_cases h2:k=b
   ·subst h2;rw[aK rfl,aK rfl,aI (λe=>h e.symm)]
   ·rw[aI h2,aI h2]
theorem Oe(k:κ):∀(l:List κ)(s:List (κ×Bool)),(gR k (l.foldl (λs x=>me x true s) s)).getD false=(decide (k∈l)||(gR k s).getD false)
 |[],s=>by simp
 |x::l,s=>by
  rw[List.foldl_cons,Oe k l,Ie];by_cases h:k=x
  ·simp [h]
  ·simp [h]
end
theorem Wb{l:List Int}{n:Int}(h:l.Pairwise (·<·))(k:wm l n=false):(l++[n]).Pairwise (·<·):=by
 rw[List.pairwise_append];refine⟨h,by simp,λa ha b hb=>?_⟩;simp at hb;subst hb;unfold wm at k;cases hl:l.getLast? with
 |none=>rw[List.getLast?_eq_none_iff]at hl;subst hl;simp at ha
 |some m=>
  rw[hl]at k;simp at k;obtain⟨ys,rfl⟩:=List.getLast?_eq_some_iff.1 hl;rw[List.pairwise_append]at h;rcases eN.1 ha with ha|ha
  ·have:=h.2.2 a ha m (by simp);omega
  ·simp at ha;omega
theorem ME{eT:List ct}:∀(rest pre:List eG),vX eT pre rest=0→(pre.map (·.cz)).Pairwise (·<·)→((pre++rest).map (·.cz)).Pairwise (·<·)
 |[],pre,_,h=>by simpa using h
 |u::rest,pre,hc,h=>by
  rw[vX]at hc;split at hc
  ·cases hc
  split at hc
  ·cases hc
  rename_i ho;split at hc
  ·cases hc
  split at hc
  ·cases hc
  split at hc
  ·cases hc
  have:=ME rest (pre++[u]) hc (by rw[List.map_append];exact Wb h (by simpa using ho));simpa using this
theorem V0{r:dP}(h:eS r=0):(r.fA.map (·.cz)).Pairwise (·<·):=by
 unfold eS at h;split at h
 ·split at h
  ·cases h
  ·simpa using ME r.fA [] h (by simp)
 ·rename_i h2;exact absurd h h2
theorem WE(p:ct)(nm:ByteArray):(sI p nm).2=true↔∃x∈p.params,x.name=nm:=by
 unfold sI;cases h:p.params.find? λx=>decide (x.name=nm)with
 |none=>simp only[Option.elim_none,Bool.false_eq_true,false_iff];rintro⟨x,hx,e⟩;have:=List.find?_eq_none.1 h x hx;simp [e]at this
 |some x=>simp only[Option.elim_some,true_iff];exact⟨x,List.mem_of_find?_eq_some h,by simpa using List.find?_some h⟩
theorem X4{l:List eG}(h:(l.map (·.cz)).Pairwise (·<·)){u v:eG}(hu:u∈l)(hv:v∈l)(e:u.cz=v.cz):u=v:=by
 induction l with
 |nil=>simp at hu
 |cons x l ih=>
  rw[fJ,List.pairwise_cons]at h;rcases eM.1 hu with CZ|CZ<;>rcases eM.1 hv with C0|C0
  ·rw[CZ,C0]
  ·have:=h.1 v.cz (mI.2 ⟨v,C0,rfl⟩);rw[←CZ]at this;omega
  ·have:=h.1 u.cz (mI.2 ⟨u,CZ,rfl⟩);rw[←C0]at this;omega
  ·exact ih h.2 CZ C0
def uw(r:dP)(k:aS):Bool:=(tW r k).2
theorem Yv{r:dP}(h:eS r=0)(k:aS):uw r k=decide (k∈p9 r):=by
 rw[lH,decide_eq_true_iff];unfold uw tW p9;rw[List.mem_flatMap];cases hf:r.fA.find? λu=>decide (u.cz=k.unit)with
 |none=>simp only[Option.elim_none,Bool.false_eq_true,false_iff];rintro⟨u,hu,hk⟩;obtain⟨x,_,rfl⟩:=mI.1 hk;have:=List.find?_eq_none.1 hf u hu;simp at this
 |some u=>
  have hu:=List.mem_of_find?_eq_some hf;have hn:u.cz=k.unit:=by simpa using List.find?_some hf
  simp only[Option.elim_some,WE];constructor
  ·rintro⟨x,hx,e⟩;exact⟨u,hu,mI.2 ⟨x,hx,by rw[hn,e]⟩⟩
  ·rintro⟨v,hv,hk⟩;obtain⟨x,hx,rfl⟩:=mI.1 hk;obtain rfl:=X4 (V0 h) hu hv hn;exact⟨x,hx,rfl⟩
theorem Yy{r:dP}(h:eS r=0):(p9 r).length≤16000:=by have h1:=G2 h r.fA;have h2:=Nf h;show(r.fA.flatMap (nh r.bL)).length≤_;omega
end
section
open Go.Sort
theorem P3:∀a:List UInt8,Op.bytesLess a a=false
 |[]=>rfl
 |x::l=>by simp [Op.bytesLess,UInt8.lt_irrefl,P3 l]
theorem Ol:∀a b c:List UInt8,Op.bytesLess a b=true→Op.bytesLess b c=true→Op.bytesLess a c=true
 |[],[],c,h,_=>by simp [Op.bytesLess]at h
 |[],_::_,[],_,k=>by simp [Op.bytesLess]at k
 |[],_::_,_::_,_,_=>rfl
 |_::_,[],c,h,_=>by simp [Op.bytesLess]at h
 |_::_,_::_,[],_,k=>by simp [Op.bytesLess]at k
 |x::a,y::b,z::c,h,k=>by
  rw[Op.bytesLess]at h k ⊢;simp only[Bool.or_eq_true,eH,decide_eq_true_eq,beq_iff_eq]at h k ⊢;rcases h with h|⟨rfl,h⟩<;>rcases k with k|⟨rfl,k⟩
  ·exact .inl (UInt8.lt_trans h k)
  ·exact .inl h
  ·exact .inl k
  ·exact .inr ⟨rfl,Ol a b c h k⟩
theorem I3(a:aS):lQ a a=false:=by simp [lQ,P3]
theorem XE{a b c:aS}(h:lQ a b=true)(k:lQ b c=true):lQ a c=true:=by
 simp only[lQ,Bool.or_eq_true,eH,decide_eq_true_eq]at h k ⊢;rcases h with h|⟨h1,h2⟩<;>rcases k with k|⟨k1,k2⟩
 ·left;omega
 ·left;omega
 ·left;omega
 ·right;exact⟨by omega,Ol _ _ _ h2 k2⟩
theorem I4{a b:aS}(h:lQ a b=false)(k:lQ b a=false):a=b:=by
 rw[←Zg];have h1:¬vY a b<0:=λe=>by rw[(O7 a b).1 e]at h;cases h
 have hba:vY b a=-vY a b∨True:=.inr trivial
 -- what is neither smaller nor greater is the same
 unfold vY at h1 ⊢;simp only[lQ,kr,Bool.and_eq_false_iff,decide_eq_false_iff_not]at h k;have hu:a.unit=b.unit:=by omega
 simp only[hu,not_true_eq_false,if_false]at h1 ⊢
 have e1:Op.bytesLess a.param.data.toList b.param.data.toList=false:=by
  rcases h.2 with q|q
  ·exact absurd hu q
  ·simpa [Et]using q
 have e2:Op.bytesLess b.param.data.toList a.param.data.toList=false:=by
  rcases k.2 with q|q
  ·exact absurd hu.symm q
  ·simpa [Et]using q
 rw[IT]
 have tri:∀x y:List UInt8,Op.bytesLess x y=false→Op.bytesLess y x=false→x=y:=by
  intro x;induction x with
  |nil=>intro y p q;cases y with|nil=>rfl|cons y l=>simp [Op.bytesLess]at p
  |cons x xs ih=>
   intro y p q;cases y with
   |nil=>simp [Op.bytesLess]at q
   |cons y ys=>
    rw[Op.bytesLess]at p q;by_cases h1:x<y
    ·simp [h1]at p
    ·by_cases h2:y<x
     ·simp [h2]at q
     ·have:x=y:=UInt8.le_antisymm (UInt8.not_lt.1 h2) (UInt8.not_lt.1 h1);subst this;simp [h1]at p q;rw[ih ys p q]
 exact tri _ _ e1 e2
theorem Xf(a b:aS):Ac a b<0↔lQ a b=true:=O7 a b
end
def RX(l:List EU):Prop:=l.Pairwise λa b=>lQ a.key b.key=true
structure Good (l : List uq) : Prop where
 len:l.length≤300
 num:∀c∈l,1≤c.cz∧c.cz≤9999999
 tJ:l.Pairwise λa b=>a.cz<b.cz
 mv:∀c∈l,c.E0.length≤2000∧RX c.E0
 pts:∀c∈l,c.Js.aaU.length≤20
section
structure adk (l : List uq) : Prop where
 len:l.length≤300
 num:∀c∈l,1≤c.cz∧c.cz≤9999999
 tJ:l.Pairwise λa b=>a.cz<b.cz
section
variable {α R γ S B : Type}
end
end
section
open HP
def Lt(σ:Heap)(sh:Sh)(v t:AV):Prop:=(∃v',A.bP σ 0 8 v=some v'∧A.own v'=false∧A.nn sh v'=A.nn sh t)∧A.own t=false∧(A.own v=false→A.nn sh v=A.nn sh t)
def Fw(σ:Heap):List Sh→an→an→Prop
 |_,[],[]=>True
 |[],a::cB,t::ts=>Lt σ .k a t∧Fw σ [] cB ts
 |s::ss,a::cB,t::ts=>Lt σ s a t∧Fw σ ss cB ts
 |_,_,_=>False
theorem Cj(v:AV):A.nn .k v=v:=by simp [A.nn]
theorem Lh{σ:Heap}:∀{ss:List Sh}{cB ts:an},Fw σ ss cB ts→(∃vT,A.dz σ 0 8 cB=some vT∧vT.any A.own=false∧A.cN ss vT=A.cN ss ts)∧ts.any A.own=false∧(cB.any A.own=false→A.cN ss cB=A.cN ss ts)
 |ss,[],[],_=>⟨⟨[],by simp [A.dz],rfl,rfl⟩,rfl,λ_=>rfl⟩
 |[],a::cB,t::ts,h=>by obtain⟨⟨⟨v',h1,h2,h3⟩,h4,h5⟩,h6⟩:=h;obtain⟨⟨vT,k1,k2,k3⟩,k4,k5⟩:=Lh h6;rw[Cj,Cj]at h3;simp only[A.cN]at k3 k5;refine⟨⟨v'::vT,by simp [A.dz,h1,k1],by simp [h2,k2],by simp [A.cN,h3,k3]⟩,by simp [h4,k4],λh=>?_⟩;simp only[List.any_cons,kr]at h;have:=h5 h.1;rw[Cj,Cj]at this;simp [A.cN,this,k5 h.2]
 |s::ss,a::cB,t::ts,h=>by obtain⟨⟨⟨v',h1,h2,h3⟩,h4,h5⟩,h6⟩:=h;obtain⟨⟨vT,k1,k2,k3⟩,k4,k5⟩:=Lh h6;refine⟨⟨v'::vT,by simp [A.dz,h1,k1],by simp [h2,k2],by simp [A.cN,h3,k3]⟩,by simp [h4,k4],λh=>?_⟩;simp only[List.any_cons,kr]at h;simp [A.cN,h5 h.1,k5 h.2]
 |_,[],_::_,h=>by cases h
 |[],_::_,[],h=>by cases h
 |_::_,_::_,[],h=>by cases h
theorem RN{cW:List Sh}{dm:Sh}{r:an→Heap→az}{cB ts:an}{σ:Heap}{v:AV}(h:Fw σ cW cB ts)(e:∀σ,A.wrap true cW dm r ts σ=some (v,σ))(hs:A.xS v=true):A.wrap true cW dm r cB σ=some (v,σ):=by
 obtain⟨⟨vT,k1,k2,k3⟩,k4,k5⟩:=Lh h;cases ho:cB.any A.own
 ·rw[PY (k5 ho) ho k4];exact e σ
 ·exact O0 ho k1 k2 (by rw[PY k3 k2 k4];exact e []) hs
section
variable {α : Type} {c : α → an} {sz : Nat} {B : bk → Prop} {aL σ : Heap} {R : HP} {v : AV} {l : List α}
theorem Bz(H:Hs B aL σ (Sl (fl c) sz v l*R)):(l=[]∧(v=.aN∨v=.ez)∧Hs B aL σ R)∨∃id g,v=.os id g sz 0 l.length∧Hs B aL σ (blk id (.arr g sz (l.map c))*R):=by
 rcases BM H with h|⟨id,g,seg,rfl,hl,H⟩
 ·exact .inl h
 ·have K:=BU.1 (mF (show _=els (fl c) seg l*(blk id (.arr g sz seg)*R) by ac_rfl) H);obtain⟨rfl,K⟩:=K;exact .inr ⟨id,g,rfl,K⟩
theorem aaw(hc:∀x,o9 (c x)){id g:Nat}(h:σ[id]? =some (.arr g sz (l.map c))){n:Nat}(hn:¬id<n)(d:Nat):A.bP σ n (d+1) (.os id g sz 0 l.length)=some (sl sz c l):=by simp only[A.bP,aI hn,h];rw[aK (by simp),List.drop_zero,fF (by simp),BD,JT hc];rfl
theorem aa2(H:Hs B aL σ (Sl (fl c) sz v l*R))(hc:∀x,o9 (c x)){n:Nat}(hn:n≤aL.length)(d:Nat):∃v',A.bP σ n (d+1) v=some v'∧A.Kh v'=false∧A.nn (.s sz) v'=sl sz c l:=by
 rcases Bz H with⟨rfl,rfl|rfl,_⟩|⟨id,g,rfl,K⟩
 ·exact⟨.aN,by simp [A.bP],rfl,rfl⟩
 ·exact⟨.ez,by simp [A.bP],rfl,rfl⟩
 ·obtain⟨h1,h2⟩:=sH K;exact⟨_,aaw hc h2 (by omega) d,rfl,rfl⟩
theorem aaE{P:HP}(H:Hs B aL σ P):Hs lJ aL σ P:=⟨by obtain⟨bs,h,_⟩:=H.pre;exact⟨bs,h,λ_ _=>trivial⟩,H.own⟩
end
section
variable {α : Type} {E : an → α → HP} {sz : Nat} {aL σ : Heap} {R : HP} {v : AV} {l : List α}
end
def abf(x:uq)(vp vm:AV):an:=[.ah x.cz,.str x.title,.ah x.Jt,.ah x.up,.ah x.down,.ah x.other,.ah x.Js.kind,vp,.bool x.block,.ah x.Qa,vm]
section
variable {B : bk → Prop} {aL σ : Heap} {R : HP} {M : AV → List EU → HP} {e : an} {x : uq}
variable {v : AV} {l : List uq}
end
end
section
open HP
section
variable {α : Type} {c : α → an} {sz : Nat} {B : bk → Prop} {aL σ : Heap} {R : HP} {v : AV} {l : List α}
theorem Zf{most:Nat}{m r:an→Heap→az}{r0:AV→Heap→az}(hm:m=A.EJ (A.wrap true [(.s sz)] .k (A.eP r0)))(hr:∀a σ,r0 a σ=(A.FC a .aN).bind λx1=>A.cond x1 (some (.aN,σ)) ((A.append sz most .ez a σ).bind λr2=>some (r2.1,r2.2)))
  (hl:l.length≤most) (hB:∀g g' seg,(seg=[]∨B (.arr g sz seg))→B (.arr g' sz (seg++l.map c))) (H:Hs B aL σ R):∃v σ',m [sl sz c l] σ=some (v,σ')∧A.cell v=some v∧Hs B aL σ' (Sl (fl c) sz v l*R):=by
 subst hm;cases l with
 |nil=>exact⟨.ez,σ,rfl,rfl,AW H (.inr rfl)⟩
 |cons x l=>
  obtain⟨v',σ',e1,H2⟩:=Qy (B:=B) (E:=fl c) (sz:=sz) (v:=.ez) (l:=[]) (ys:=(x::l).map c) (xs:=x::l) (most:=most) (AW (BU.2 ⟨rfl,H⟩) (.inr rfl)) (by simpa using hl) hB
  have hv:A.cell v'=some v':=by
   rcases Bz H2 with⟨h,_,_⟩|⟨id,g,rfl,_⟩
   ·cases h
   ·rfl
  refine⟨v',σ',?_,hv,H2⟩;show A.wrap true [(.s sz)] .k (A.eP r0) [sl sz c (x::l)] σ=_;refine wrap_eq rfl ?_ rfl;show r0 (sl sz c (x::l)) σ=_;rw[hr,show A.FC (sl sz c (x::l)) .aN=some (.bool false)from rfl,aQ,dY,show sl sz c (x::l)=.sl sz ((x::l).map c)from rfl,e1];rfl
end
section
variable {aL σ : Heap} {R : HP}
end
end
section
open HP
theorem nN{f:an→Heap→Option LS}{Q:LS→Prop}(I:Nat→an→Heap→Prop)(hstep:∀n v σ,I n v σ→(∃m v' σ',m<n∧f v σ=some (.normal,v',σ')∧I m v' σ')∨∃q,f v σ=some q∧q.1≠.normal∧Q q){n:Nat}{v0:an}{σ:Heap}(h0:I n v0 σ):∃q,A.loop f v0 σ=some q∧Q q:=by
 have key:∀(k n:Nat)v σ,n≤k→I n v σ→∃q,(∃m,A.iter f m v σ=some q)∧Q q:=by
  intro k;induction k with
  |zero=>
   intro n v σ hn hI;rcases hstep n v σ hI with⟨m,_,_,hm,_⟩|⟨q,h1,h2,h3⟩
   ·omega
   ·exact⟨q,vD h1 h2,h3⟩
  |succ k ih=>
   intro n v σ hn hI;rcases hstep n v σ hI with⟨m,v',σ',hm,h1,h2⟩|⟨q,h1,h2,h3⟩
   ·obtain⟨q,hq,hQ⟩:=ih m v' σ' (by omega) h2;exact⟨q,Ik h1 hq,hQ⟩
   ·exact⟨q,vD h1 h2,h3⟩
 obtain⟨q,⟨m,hm⟩,hQ⟩:=key n n v0 σ (ay _) h0;exact⟨q,Bg hm,hQ⟩
theorem gT(X d:Option AV):A.guard (.bool true) true X d=X:=by have h:A.guard (.bool true) true X d=X:=rfl;exact h.trans (Eq.refl X)
theorem gF(X d:Option AV):A.guard (.bool false) false X d=X:=by have h:A.guard (.bool false) false X d=X:=rfl;exact h.trans (Eq.refl X)
theorem AG(X d:Option AV):A.guard (.bool false) true X d=d:=by have h:A.guard (.bool false) true X d=d:=rfl;exact h.trans (Eq.refl d)
theorem gFx(X d:Option AV):A.guard (.bool true) false X d=d:=by have h:A.guard (.bool true) false X d=d:=rfl;exact h.trans (Eq.refl d)
theorem bS{α β:Type}(a:α)(f:α→Option β):(some a).bind f=f a:=by have h:(some a).bind f=f a:=rfl;exact h.trans (Eq.refl (f a))
theorem jF(n:Nat){α:Type}{X Y:α}:(bif (AX.exit n==AX.exit n)then X else Y)=X:=by rw[show(AX.exit n==AX.exit n)=true from beq_self_eq_true _];rfl
theorem C4(x y:AV):A.pick (.bool false) x y=some y:=rfl
theorem AT(x y:AV):A.pick (.bool true) x y=some x:=rfl
end
section
set_option maxRecDepth 100000
abbrev bC(id g n:Nat):AV:=.os id g 3 0 n
abbrev bE(g:Nat)(l:List aA):bk:=.arr g 3 (l.map aH)
theorem qY{a b:Nat}(h:a+b<4611686018427387904):A.add (.int .i64 (a:Int)) (.int .i64 (b:Int))=some (.int .i64 ((a+b:Nat):Int)):=by rw[B8,dK (by unfold aZ;omega)];rfl
theorem oO{a:Nat}(h:a+1<4611686018427387904):A.add (.int .i64 (a:Int)) (.int .i64 1)=some (.int .i64 ((a+1:Nat):Int)):=qY (b:=1) h
theorem n9{a b:Nat}(h:b≤a)(h2:a<4611686018427387904):A.sub (.int .i64 (a:Int)) (.int .i64 (b:Int))=some (.int .i64 ((a-b:Nat):Int)):=by rw[Ff,dK (by unfold aZ;omega),Int.ofNat_sub h]
theorem E3{a:Nat}(h:1≤a)(h2:a<4611686018427387904):A.sub (.int .i64 (a:Int)) (.int .i64 1)=some (.int .i64 ((a-1:Nat):Int)):=n9 (b:=1) h h2
theorem iH(a b:Nat):A.lss (.int .i64 (a:Int)) (.int .i64 (b:Int))=some (.bool (decide (a<b))):=by rw[xI];congr 2;rw[decide_eq_decide];omega
theorem Fl(a b:Nat):A.gtr (.int .i64 (a:Int)) (.int .i64 (b:Int))=some (.bool (decide (b<a))):=by rw[JN];congr 2;rw[decide_eq_decide];omega
theorem RR(a b:Nat):A.leq (.int .i64 (a:Int)) (.int .i64 (b:Int))=some (.bool (decide (a≤b))):=by rw[JO];congr 2;rw[decide_eq_decide];omega
theorem nNe(a b:Nat):A.neq .i (.int .i64 (a:Int)) (.int .i64 (b:Int))=some (.bool (decide (a≠b))):=by rw[uI];congr 2;rw[decide_eq_decide];omega
section
variable {id g n : Nat} {W : Heap} {l : List aA}
theorem lp{i:Nat}(h:i<n):A.aM 3 (bC id g n) (.int .i64 (i:Int))=some (.oe id g i 0):=by
 have:((i:Int)<(n:Int)):=by omega
 simp [A.aM,A.idx,this]
theorem nL{i:Nat}{x:aA}(h:W[id]? =some (bE g l))(hx:l[i]? =some x):((A.deref (.oe id g i 0) W).bind λc=>A.aG 0 3 c)=some (.agg (aH x)):=by simp only[A.deref,h,if_true,Al,hx,eO,List.drop_zero];rfl
theorem rW(x:aA):A.cells 3 (.agg (aH x))=some (aH x):=rfl
theorem vr{i:Nat}(y:aA)(h:W[id]? =some (bE g l))(hi:i<l.length):A.storeAt (.oe id g i 0) (aH y) W=some (W.set id (bE g (l.set i y))):=by
 have hx:(l.map aH)[i]? =some (aH l[i]):=by rw[Al,cI hi];rfl
 simp only[A.storeAt,h,if_true,hx,aQ];rw[show A.bh 0 (aH y) (aH l[i])=some (aH y)from rfl,eO];show _=some (W.set id (.arr g 3 ((l.set i y).map aH)));rw[List.map_set]
theorem lM(h:W[id]? =some (bE g l))(l':List aA):(W.set id (bE g l'))[id]? =some (bE g l'):=by have:=(bU.1 h).1;rw[lZ this]
theorem nT(h:W[id]? =some (bE g l)):W.set id (bE g l)=W:=by obtain⟨hl,e⟩:=bU.1 h;rw[←e];exact List.set_getElem_self hl
end
theorem E7{α:Type}(U V Z:List α)(x y:α):(U++x::(V++y::Z))[U.length]? =some x∧(U++x::(V++y::Z))[U.length+1+V.length]? =some y∧((U++x::(V++y::Z)).set U.length y).set (U.length+1+V.length) x=U++y::(V++x::Z)∧((U++x::(V++y::Z)).set (U.length+1+V.length) x).set U.length y=U++y::(V++x::Z):=by
 have e1:∀(a:α)(T:List α),(U++a::T).set U.length y=U++y::T:=λa T=>by rw[sS _ _ (ay _),Nat.sub_self];rfl
 have e2:∀a,(U++a::(V++y::Z)).set (U.length+1+V.length) x=U++a::(V++x::Z):=λa=>by rw[sS _ _ (by omega),show U.length+1+V.length-U.length=V.length+1 by omega,List.set_cons_succ,sS _ _ (ay _),Nat.sub_self];rfl
 refine⟨?_,?_,?_,?_⟩
 ·rw[fV (ay _),Nat.sub_self];rfl
 ·rw[fV (by omega),show U.length+1+V.length-U.length=V.length+1 by omega,List.getElem?_cons_succ,fV (ay _),Nat.sub_self];rfl
 ·rw[e1,e2]
 ·rw[e2,e1]
theorem Wc{id g:Nat}{W:Heap}{P X M Y Q:List aA}(hn:X.length=Y.length)(hl:(P++X++M++Y++Q).length<1000000000000)(h:W[id]? =some (bE g (P++X++M++Y++Q)))(f:AV):
  tL [bC id g (P++X++M++Y++Q).length,.int .i64 (P.length:Int),.int .i64 ((P.length+X.length+M.length:Nat):Int),.int .i64 (X.length:Int),f] W=some (.aD [],W.set id (bE g (P++Y++M++X++Q))):=by
 suffices hr:zb (bC id g (P++X++M++Y++Q).length) (.int .i64 (P.length:Int)) (.int .i64 ((P.length+X.length+M.length:Nat):Int)) (.int .i64 (X.length:Int)) f W=some (.aD [],W.set id (bE g (P++Y++M++X++Q))) by show(A.mg zb _ W).map _=_;have:A.mg zb (A.cN [] [bC id g (P++X++M++Y++Q).length,.int .i64 (P.length:Int),.int .i64 ((P.length+X.length+M.length:Nat):Int),.int .i64 (X.length:Int),f]) W=_:=hr;rw[this];rfl
 unfold zb;obtain⟨N,hN⟩:∃N,N=(P++X++M++Y++Q).length:=⟨_,rfl⟩
 have oz:N=P.length+X.length+M.length+Y.length+Q.length:=by rw[hN];simp;omega
 rw[←hN]at hl ⊢;obtain⟨L,hL⟩:∃L:Nat→List aA,L=λi=>P++(Y.take i++X.drop i)++M++(X.take i++Y.drop i)++Q:=⟨_,rfl⟩
 have hL0:L 0=P++X++M++Y++Q:=by rw[hL];simp
 have hLn:L X.length=P++Y++M++X++Q:=by rw[hL];simp [fF (Nat.le_of_eq hn.symm),List.drop_of_length_le (Nat.le_of_eq hn.symm)]
 have wJ:∀i,(L i).length=N:=λi=>by rw[hL,oz];simp;omega
 have hlp:∃q,A.loop ((λv1 s2=>
   (A.lss (aj v1 0) (AV.int .i64 (X.length:Int))).bind λx4=>
   A.cond x4 (
    (A.add (AV.int .i64 (P.length:Int)) (aj v1 0)).bind λx5=>
    (A.add (AV.int .i64 ((P.length+X.length+M.length:Nat):Int)) (aj v1 0)).bind λx6=>
    (A.add (AV.int .i64 ((P.length+X.length+M.length:Nat):Int)) (aj v1 0)).bind λx7=>
    (A.aM 3 (bC id g N) x7).bind λx8=>
    ((A.deref x8 s2).bind λc9=>A.aG 0 3 c9).bind λbf=>
    (A.add (AV.int .i64 (P.length:Int)) (aj v1 0)).bind λcK=>
    (A.aM 3 (bC id g N) cK).bind λbT=>
    ((A.deref bT s2).bind λru=>A.aG 0 3 ru).bind λcq=>
    (A.aM 3 (bC id g N) x5).bind λaW=>
    (A.cells 3 bf).bind λyh=>
    (A.storeAt aW yh s2).bind λmh=>
    (A.aM 3 (bC id g N) x6).bind λbN=>
    (A.cells 3 cq).bind λpq=>
    (A.storeAt bN pq mh).bind λgH=>
    (A.add (aj v1 0) dH).bind λbX=>
    some (AX.normal,[bX],gH)) (
    some (AX.exit 0,[(aj v1 0)],s2)))) [.int .i64 0] W=some q∧q=(.exit 0,[.int .i64 (X.length:Int)],W.set id (bE g (L X.length))):=by
  refine nN (λz u w=>∃i:Nat,i≤X.length∧u=[.int .i64 (i:Int)]∧z=X.length-i∧w=W.set id (bE g (L i))) ?_ (n:=X.length) ⟨0,gU _,rfl,rfl,by rw[hL0,nT h]⟩;rintro z u w ⟨i,hi,rfl,hz,rfl⟩;simp only[fB,ji];rw[iH,bS];by_cases hlt:i<X.length
  ·have ex:X.drop i=X[i]::X.drop (i+1):=List.drop_eq_getElem_cons hlt
   have ey:Y.drop i=Y[i]'(by omega)::Y.drop (i+1):=List.drop_eq_getElem_cons (by omega)
   have tx:X.take (i+1)=X.take i++[X[i]]:=List.take_succ_eq_append_getElem hlt
   have ty:Y.take (i+1)=Y.take i++[Y[i]'(by omega)]:=List.take_succ_eq_append_getElem (by omega)
   generalize X[i]=x at ex tx
   generalize Y[i]'(by omega)=y at ey ty
   have hU:(P++Y.take i).length=P.length+i:=by simp;omega
   have hV:(X.drop (i+1)++M++X.take i).length+(P.length+i)+1=P.length+X.length+M.length+i:=by simp;omega
   obtain⟨s1,s2,s3,s4⟩:=E7 (P++Y.take i) (X.drop (i+1)++M++X.take i) (Y.drop (i+1)++Q) x y;have eL:L i=(P++Y.take i)++x::((X.drop (i+1)++M++X.take i)++y::(Y.drop (i+1)++Q)):=by rw[hL];simp only[ex,ey];simp
   have eL1:L (i+1)=(P++Y.take i)++y::((X.drop (i+1)++M++X.take i)++x::(Y.drop (i+1)++Q)):=by rw[hL];simp only[tx,ty];simp
   rw[←eL]at s1 s2 s3;rw[←eL1]at s3;rw[hU]at s1 s2 s3;rw[show P.length+i+1+(X.drop (i+1)++M++X.take i).length=P.length+X.length+M.length+i by omega]at s2 s3;have hg:=lM h (L i);rw[eY hlt,fI,qY (by omega),bS,qY (by omega),bS,bS,lp (by omega),bS,nL hg s2,bS,bS,lp (by omega),bS,nL hg s1,bS,bS,rW,bS,vr y hg (by rw[wJ];omega),bS,bS,rW,bS,vr x (lM hg _) (by rw[List.length_set,wJ];omega),bS,oO (by omega),bS];refine .inl ⟨X.length-(i+1),_,_,by omega,rfl,i+1,hlt,rfl,rfl,?_⟩;rw[s3,List.set_set,List.set_set]
  ·have:i=X.length:=by omega
   subst this;rw[dL hlt,dY];exact .inr ⟨_,rfl,by simp,rfl⟩
 obtain⟨q,e,rfl⟩:=hlp;rw[e,bS];simp only[jF];rw[hLn]
theorem YM{id g:Nat}{W:Heap}{P X Y Q:List aA}(hl:(P++X++Y++Q).length<1000000000000)(hx:0<X.length)(hy:0<Y.length)(h:W[id]? =some (bE g (P++X++Y++Q)))(f:AV):
  A1 [bC id g (P++X++Y++Q).length,.int .i64 (P.length:Int),.int .i64 ((P.length+X.length:Nat):Int),.int .i64 ((P.length+X.length+Y.length:Nat):Int),f] W=some (.aD [],W.set id (bE g (P++Y++X++Q))):=by
 obtain⟨N,hN⟩:∃N,N=(P++X++Y++Q).length:=⟨_,rfl⟩
 have oz:N=P.length+X.length+Y.length+Q.length:=by rw[hN];simp;omega
 rw[←hN]at hl ⊢;obtain⟨T,hT⟩:∃T,T=P++Y++X++Q:=⟨_,rfl⟩
 obtain⟨m,hm⟩:∃m,m=P.length+X.length:=⟨_,rfl⟩
 suffices hr:zf (bC id g N) (.int .i64 (P.length:Int)) (.int .i64 (m:Int)) (.int .i64 ((P.length+X.length+Y.length:Nat):Int)) f W=some (.aD [],W.set id (bE g T)) by
  show(A.mg zf _ W).map _=_;have:A.mg zf (A.cN [] [bC id g N,.int .i64 (P.length:Int),.int .i64 ((P.length+X.length:Nat):Int),.int .i64 ((P.length+X.length+Y.length:Nat):Int),f]) W=some (.aD [],W.set id (bE g T)):=by rw[hm]at hr;exact hr
  rw[this,←hT];rfl
 unfold zf;rw[n9 (by omega) (by omega),bS,n9 (by omega) (by omega),bS,show m-P.length=X.length by omega,show P.length+X.length+Y.length-m=Y.length by omega]
 have swp:∀(P' A' M' B' Q':List aA)(W':Heap),A'.length=B'.length→(P'++A'++M'++B'++Q').length=N→W'[id]? =some (bE g (P'++A'++M'++B'++Q'))→tL [bC id g N,.int .i64 (P'.length:Int),.int .i64 ((P'.length+A'.length+M'.length:Nat):Int),.int .i64 (A'.length:Int),f] W'=some (.aD [],W'.set id (bE g (P'++B'++M'++A'++Q'))):=λP' A' M' B' Q' W' h1 h2 h3=>by have:=Wc h1 (by rw[h2];exact hl) h3 f;rwa[h2]at this
 have hlp:∃q,A.loop ((λv3 s4=>
   (A.neq .i (aj v3 0) (aj v3 1)).bind λx6=>
   A.cond x6 (
    (A.gtr (aj v3 0) (aj v3 1)).bind λx7=>
    (A.cond x7 (
     (A.sub (AV.int .i64 (m:Int)) (aj v3 0)).bind λx9=>
     (tL [(bC id g N),x9,(AV.int .i64 (m:Int)),(aj v3 1),f] s4).bind λyL=>
     (A.sub (aj v3 0) (aj v3 1)).bind λcK=>
     some ([cK,(aj v3 1)],yL.2)) (
     (A.sub (AV.int .i64 (m:Int)) (aj v3 0)).bind λbT=>
     (A.add (AV.int .i64 (m:Int)) (aj v3 1)).bind λbJ=>
     (A.sub bJ (aj v3 0)).bind λcq=>
     (tL [(bC id g N),bT,cq,(aj v3 0),f] s4).bind λrI=>
     (A.sub (aj v3 1) (aj v3 0)).bind λbK=>
     some ([(aj v3 0),bK],rI.2))).bind λr8=>
    some (AX.normal,[(aj r8.1 0),(aj r8.1 1)],r8.2)) (
    some (AX.exit 0,[(aj v3 0),(aj v3 1)],s4)))) [.int .i64 (X.length:Int),.int .i64 (Y.length:Int)] W=some q∧∃P' X' Y' Q':List aA,P'.length+X'.length=m∧X'.length=Y'.length∧P'++Y'++X'++Q'=T∧(P'++X'++Y'++Q').length=N∧q=(.exit 0,[.int .i64 (X'.length:Int),.int .i64 (X'.length:Int)],W.set id (bE g (P'++X'++Y'++Q'))):=by
  refine nN (λz u w=>∃P' X' Y' Q':List aA,P'.length+X'.length=m∧0<X'.length∧0<Y'.length∧P'++Y'++X'++Q'=T∧(P'++X'++Y'++Q').length=N∧z=X'.length+Y'.length∧u=[.int .i64 (X'.length:Int),.int .i64 (Y'.length:Int)]∧w=W.set id (bE g (P'++X'++Y'++Q'))) ?_ (n:=X.length+Y.length) ⟨P,X,Y,Q,hm.symm,hx,hy,hT.symm,hN.symm,rfl,rfl,(nT h).symm⟩;rintro z u w ⟨P',X',Y',Q',q1,q2,q3,q4,q5,rfl,rfl,rfl⟩;have Te:P'.length+X'.length+Y'.length+Q'.length=N:=by rw[←q5];simp;omega
  simp only[fB,ji];rw[nNe,bS];by_cases hne:X'.length=Y'.length
  ·rw[dL (by simp [hne]),dY];exact .inr ⟨_,rfl,by simp,P',X',Y',Q',q1,hne,q4,q5,by rw[hne]⟩
  rw[eY hne,fI,Fl,bS];have hg:=lM h (P'++X'++Y'++Q');by_cases hgt:Y'.length<X'.length
  ·-- the head of X' with Y'
   obtain⟨X1,X2,hX,hX1⟩:∃X1 X2,X'=X1++X2∧X1.length=Y'.length:=⟨X'.take Y'.length,X'.drop Y'.length,(List.take_append_drop _ _).symm,by simp;omega⟩
   subst hX;rw[List.length_append]at q1 q2 Te hgt hne;have hs:=swp P' X1 X2 Y' Q' _ hX1 (by rw[←q5];simp) (by rw[hg];simp);rw[List.length_append,eY hgt,fI,n9 (by omega) (by omega),bS,show m-(X1.length+X2.length)=P'.length by omega];rw[show m=P'.length+X1.length+X2.length by omega,←hX1,hs,bS];simp only;rw[n9 (by omega) (by omega),bS,bS];simp only[fB,ji];refine .inl ⟨X2.length+X1.length,_,_,by omega,rfl,P'++Y',X2,X1,Q',by simp;omega,by omega,by omega,?_,by rw[←q5];simp;omega,rfl,by rw[show X1.length+X2.length-X1.length=X2.length by omega],?_⟩
   ·rw[←q4];simp
   ·rw[List.set_set]
  ·-- X' with the tail of Y'
   obtain⟨Y1,Y2,hY,CL⟩:∃Y1 Y2,Y'=Y1++Y2∧Y2.length=X'.length:=⟨Y'.take (Y'.length-X'.length),Y'.drop (Y'.length-X'.length),(List.take_append_drop _ _).symm,by simp;omega⟩
   subst hY;rw[List.length_append]at q3 Te hgt hne;have hs:=swp P' X' Y1 Y2 Q' _ CL.symm (by rw[←q5];simp) (by rw[hg];simp);rw[List.length_append,dL hgt,dY,n9 (by omega) (by omega),bS,qY (by omega),bS,n9 (by omega) (by omega),bS,show m-X'.length=P'.length by omega,show m+(Y1.length+Y2.length) -X'.length=P'.length+X'.length+Y1.length by omega,hs,bS];simp only;rw[n9 (by omega) (by omega),bS,bS];simp only[fB,ji];refine .inl ⟨Y2.length+Y1.length,_,_,by omega,rfl,P',Y2,Y1,X'++Q',by omega,by omega,by omega,?_,by rw[←q5];simp;omega,rfl,by rw[show Y1.length+Y2.length-X'.length=Y1.length by omega,CL],?_⟩
   ·rw[←q4];simp
   ·rw[List.set_set];simp
 obtain⟨q,e,P',X',Y',Q',q1,q2,q3,q4,rfl⟩:=hlp;rw[e,bS];simp only[jF,fB,ji];have hg:=lM h (P'++X'++Y'++Q');have q4':P'.length+X'.length+Y'.length+Q'.length=N:=by rw[←q4];simp;omega
 have hs:=swp P' X' [] Y' Q' _ q2 (by rw[←q4];simp) (by rw[hg];simp);rw[List.length_nil,Nat.add_zero,q1]at hs;rw[n9 (by omega) (by omega),bS,show m-X'.length=P'.length by omega,hs,bS,List.set_set];rw[←q3];simp
end
section
set_option maxRecDepth 100000
abbrev bH(x y:aA):Bool:=lQ x.key y.key
def dM(l:List aA):Prop:=l.Pairwise λx y=>bH y x=false
abbrev fk(k:aS)(l:List aA):List aA:=l.filter λs=>decide (s.key=k)
def cE(Z S:List aA):Prop:=∀k,fk k Z=fk k S
theorem cE.refl(l:List aA):cE l l:=λ_=>rfl
theorem cE.trans{a b c:List aA}(h:cE a b)(k:cE b c):cE a c:=λx=>(h x).trans (k x)
theorem cE.app{a b c d:List aA}(h:cE a b)(k:cE c d):cE (a++c) (b++d):=λx=>by show fk x (a++c)=fk x (b++d);unfold fk;rw[List.filter_append,List.filter_append];exact congr (congrArg _ (h x)) (k x)
theorem cE.mem{a b:List aA}(h:cE a b){x:aA}(hx:x∈a):x∈b:=by have:x∈fk x.key a:=List.mem_filter.2 ⟨hx,by simp⟩;rw[h]at this;exact(List.mem_filter.1 this).1
theorem EP{x y z:aA}(h:bH x y=true)(k:bH y z=true):bH x z=true:=XE h k
theorem BY{x y z:aA}(h:bH y x=false)(k:bH z y=false):bH z x=false:=by
 cases q:bH z x with
 |false=>rfl
 |true=>
  -- z < x; y not below x, so x = y or x < y
  by_cases e:bH x y=true
  ·rw[EP q e]at k;cases k
  ·have:x.key=y.key:=I4 (by simpa using e) h;unfold bH at k q;rw[←this,q]at k;cases k
theorem Sy{x y:aA}(h:bH x y=true):bH y x=false:=by
 cases q:bH y x with
 |false=>rfl
 |true=>have:=EP h q;unfold bH at this;rw[I3]at this;cases this
theorem tY{x y:aA}(h:bH x y=true):x.key≠y.key:=λe=>by unfold bH at h;rw[e,I3]at h;cases h
theorem RO{x y z:aA}(h:bH x y=true)(k:bH z y=false):bH x z=true:=by
 cases q:bH x z with
 |true=>rfl
 |false=>rw[BY k q]at h;cases h
theorem abW{x y z:aA}(h:bH y x=false)(k:bH y z=true):bH x z=true:=by
 cases q:bH x z with
 |true=>rfl
 |false=>rw[BY q h]at k;cases k
theorem aaI{S1 S2:List aA}{x:aA}(hs:dM (S1++S2))(hB:∀b∈S2,bH x b=true)(hA:∀y,S1.getLast? =some y→bH x y=false):dM (S1++x::S2)∧cE (S1++x::S2) (S1++S2++[x]):=by
 have h:=List.pairwise_append.1 hs
 have hA':∀a∈S1,bH x a=false:=λa ha=>by
  cases hl:S1.getLast? with
  |none=>rw[List.getLast?_eq_none_iff]at hl;subst hl;simp at ha
  |some y=>
   have hy:=hA y hl;obtain⟨nD,rfl⟩:=List.getLast?_eq_some_iff.1 hl;rcases eN.1 ha with ha|ha
   ·exact BY ((List.pairwise_append.1 h.1).2.2 a ha y (by simp)) hy
   ·rw[List.mem_singleton.1 ha];exact hy
 refine⟨List.pairwise_append.2 ⟨h.1,List.pairwise_cons.2 ⟨λb hb=>Sy (hB b hb),h.2.1⟩,λa ha b hb=>?_⟩,λk=>?_⟩
 ·rcases eM.1 hb with rfl|hb
  ·exact hA' a ha
  ·exact h.2.2 a ha b hb
 ·show fk k _=fk k _;unfold fk;rw[kP,List.filter_append,List.filter_append];congr 1;rw[List.filter_append,List.filter_cons,List.filter_cons];by_cases hk:x.key=k
  ·have:S2.filter (λs=>decide (s.key=k))=[]:=by rw[List.filter_eq_nil_iff];intro b hb q;have:=tY (hB b hb);simp only[decide_eq_true_eq]at q;exact this (by rw[hk,q])
   rw[this];simp [hk]
  ·simp [hk]
def qm(dyn:Nat→an→Heap→az)(f:AV):Prop:=∀(x y:aA)(W:Heap),A.quiet (A.gZ dyn f [.agg (aH x),.agg (aH y)] W) W=some (.int .i64 (Ac x.key y.key))
theorem cmpL(x y:aA):A.lss (.int .i64 (Ac x.key y.key)) (.int .i64 0)=some (.bool (bH x y)):=by
 rw[xI];congr 2;have:=Xf x.key y.key;unfold bH;cases q:lQ x.key y.key with
 |true=>exact eY (this.2 q)
 |false=>exact dL (λe=>by rw[this.1 e]at q;cases q)
section
variable {dyn : Nat → an → Heap → az} {f : AV} {id g N : Nat} {W : Heap}
theorem aaH(hc:qm dyn f){P S Q:List aA}{x:aA}(hN:(P++S++x::Q).length=N)(hl:N<1000000000000)(h:W[id]? =some (bE g (P++S++x::Q))):
  ∃S1 S2,S=S1++S2∧(∀b∈S2,bH x b=true)∧(∀y,S1.getLast? =some y→bH x y=false)∧∃u,A.loop ((λv6 s7=>
      (A.gtr (aj v6 0) (AV.int .i64 (P.length:Int))).bind λx9=>
      (A.guard x9 true (some f) aq).bind λbf=>
      (A.guard x9 true (some (bC id g N)) aq).bind λcK=>
      (A.guard x9 true (some (aj v6 0)) aq).bind λbT=>
      (A.guard x9 true (A.aM 3 cK bT) aq).bind λbJ=>
      (A.guard x9 true ((A.deref bJ s7).bind λiq=>A.aG 0 3 iq) aq).bind λaW=>
      (A.guard x9 true (some (bC id g N)) aq).bind λbK=>
      (A.guard x9 true (some (aj v6 0)) aq).bind λbW=>
      (A.guard x9 true (A.sub bW dH) aq).bind λbN=>
      (A.guard x9 true (A.aM 3 bK bN) aq).bind λcZ=>
      (A.guard x9 true ((A.deref cZ s7).bind λgH=>A.aG 0 3 gH) aq).bind λbX=>
      (A.guard x9 true (A.quiet (A.gZ dyn bf [aW,bX] s7) s7) aq).bind λdc=>
      (A.guard x9 true (A.lss dc fC) aq).bind λdX=>
      (A.pick x9 dX bI).bind λx24=>
      A.cond x24 (
       (A.sub (aj v6 0) dH).bind λx25=>
       (A.sub (aj v6 0) dH).bind λeA=>
       (A.aM 3 (bC id g N) eA).bind λcg=>
       ((A.deref cg s7).bind λmm=>A.aG 0 3 mm).bind λx29=>
       (A.aM 3 (bC id g N) (aj v6 0)).bind λcG=>
       ((A.deref cG s7).bind λnE=>A.aG 0 3 nE).bind λx32=>
       (A.aM 3 (bC id g N) (aj v6 0)).bind λiN=>
       (A.cells 3 x29).bind λpG=>
       (A.storeAt iN pG s7).bind λmo=>
       (A.aM 3 (bC id g N) x25).bind λkZ=>
       (A.cells 3 x32).bind λnF=>
       (A.storeAt kZ nF mo).bind λrz=>
       (A.sub (aj v6 0) dH).bind λi6=>
       some (AX.normal,[i6],rz)) (
       some (AX.exit 2,[(aj v6 0)],s7)))) [.int .i64 ((P.length+S.length:Nat):Int)] W=some (.exit 2,u,W.set id (bE g (P++S1++x::(S2++Q)))):=by
 suffices hq:∃q,A.loop ((λv6 s7=>
      (A.gtr (aj v6 0) (AV.int .i64 (P.length:Int))).bind λx9=>
      (A.guard x9 true (some f) aq).bind λbf=>
      (A.guard x9 true (some (bC id g N)) aq).bind λcK=>
      (A.guard x9 true (some (aj v6 0)) aq).bind λbT=>
      (A.guard x9 true (A.aM 3 cK bT) aq).bind λbJ=>
      (A.guard x9 true ((A.deref bJ s7).bind λiq=>A.aG 0 3 iq) aq).bind λaW=>
      (A.guard x9 true (some (bC id g N)) aq).bind λbK=>
      (A.guard x9 true (some (aj v6 0)) aq).bind λbW=>
      (A.guard x9 true (A.sub bW dH) aq).bind λbN=>
      (A.guard x9 true (A.aM 3 bK bN) aq).bind λcZ=>
      (A.guard x9 true ((A.deref cZ s7).bind λgH=>A.aG 0 3 gH) aq).bind λbX=>
      (A.guard x9 true (A.quiet (A.gZ dyn bf [aW,bX] s7) s7) aq).bind λdc=>
      (A.guard x9 true (A.lss dc fC) aq).bind λdX=>
      (A.pick x9 dX bI).bind λx24=>
      A.cond x24 (
       (A.sub (aj v6 0) dH).bind λx25=>
       (A.sub (aj v6 0) dH).bind λeA=>
       (A.aM 3 (bC id g N) eA).bind λcg=>
       ((A.deref cg s7).bind λmm=>A.aG 0 3 mm).bind λx29=>
       (A.aM 3 (bC id g N) (aj v6 0)).bind λcG=>
       ((A.deref cG s7).bind λnE=>A.aG 0 3 nE).bind λx32=>
       (A.aM 3 (bC id g N) (aj v6 0)).bind λiN=>
       (A.cells 3 x29).bind λpG=>
       (A.storeAt iN pG s7).bind λmo=>
       (A.aM 3 (bC id g N) x25).bind λkZ=>
       (A.cells 3 x32).bind λnF=>
       (A.storeAt kZ nF mo).bind λrz=>
       (A.sub (aj v6 0) dH).bind λi6=>
       some (AX.normal,[i6],rz)) (
       some (AX.exit 2,[(aj v6 0)],s7)))) [.int .i64 ((P.length+S.length:Nat):Int)] W=some q∧∃S1 S2 u,S=S1++S2∧(∀b∈S2,bH x b=true)∧(∀y,S1.getLast? =some y→bH x y=false)∧q=(.exit 2,u,W.set id (bE g (P++S1++x::(S2++Q)))) by
  obtain⟨q,e,S1,S2,u,h1,h2,h3,rfl⟩:=hq;exact⟨S1,S2,h1,h2,h3,u,e⟩
 refine nN (λz u w=>∃S1 S2:List aA,S=S1++S2∧(∀b∈S2,bH x b=true)∧z=S1.length∧u=[.int .i64 ((P.length+S1.length:Nat):Int)]∧w=W.set id (bE g (P++S1++x::(S2++Q)))) ?_ (n:=S.length) ⟨S,[],by simp,by simp,rfl,rfl,by rw[List.nil_append,nT h]⟩;rintro z u w ⟨S1,S2,hS,hB,rfl,rfl,rfl⟩;have hlen:P.length+S1.length+1+S2.length+Q.length=N:=by rw[←hN,hS];simp;omega
 simp only[fB];rw[Fl,bS];cases hla:S1.getLast? with
 |none=>rw[List.getLast?_eq_none_iff]at hla;subst hla;rw[dL (by simp)];simp only[AG,bS,C4,dY];exact .inr ⟨_,rfl,by simp,[],S2,_,hS,hB,by simp,rfl⟩
 |some y=>
  obtain⟨nD,rfl⟩:=List.getLast?_eq_some_iff.1 hla;have hU:(P++nD).length=P.length+nD.length:=List.length_append;obtain⟨s1,s2,s3,s4⟩:=E7 (P++nD) [] (S2++Q) y x;have eL:P++(nD++[y])++x::(S2++Q)=(P++nD)++y::([]++x::(S2++Q)):=by simp
  rw[←eL]at s1 s2 s4;rw[hU]at s1 s2 s4;rw[List.length_nil,Nat.add_zero]at s2 s4;have hg:=lM h (P++(nD++[y])++x::(S2++Q));have CP:P.length+(nD++[y]).length=P.length+nD.length+1:=by simp;omega
  have hlen':P.length+nD.length+1+1+S2.length+Q.length=N:=by rw[←hlen];simp;omega
  rw[CP,eY (by omega)];simp only[gT,bS,AT];rw[lp (by omega),bS];simp only[gT,bS];rw[nL hg s2,bS];simp only[gT,bS];rw[E3 (by omega) (by omega),bS,show P.length+nD.length+1-1=P.length+nD.length by omega];simp only[gT,bS];rw[lp (by omega),bS];simp only[gT,bS];rw[nL hg s1,bS];simp only[gT,bS];rw[hc,bS,cmpL,bS];cases hlt:bH x y with
  |false=>rw[dY];exact .inr ⟨_,rfl,by simp,nD++[y],S2,_,hS,hB,λz hz=>by simp at hz;rw[←hz];exact hlt,rfl⟩
  |true=>
   rw[fI,rW,bS,vr y hg (by simp<;>omega),bS,rW,bS,vr x (lM hg _) (by simp<;>omega),bS];refine .inl ⟨nD.length,_,_,by simp,rfl,nD,y::S2,by rw[hS];simp,λb hb=>?_,rfl,rfl,?_⟩
   ·rcases eM.1 hb with rfl|hb
    ·exact hlt
    ·exact hB b hb
   ·rw[List.set_set,List.set_set,s4];simp
theorem Tp{r:AV→AV→AV→AV→Heap→az}{a0 a1 a2 a3:AV}{σ:Heap}{q:AV×Heap}(ha:A.cN [] [a0,a1,a2,a3]=[a0,a1,a2,a3])(h:r a0 a1 a2 a3 σ=some q):A.wrap false [] .k (A.tr r) [a0,a1,a2,a3] σ=some q:=by show((A.tr r) (A.cN [] [a0,a1,a2,a3]) σ).map _=_;rw[ha];show(r a0 a1 a2 a3 σ).map _=_;rw[h];rfl
theorem MJ(hc:qm dyn f){P O Q:List aA}(hN:(P++O++Q).length=N)(hl:N<1000000000000)(h:W[id]? =some (bE g (P++O++Q))):
  ∃Z,dM Z∧cE Z O∧Z.length=O.length∧tK dyn [bC id g N,.int .i64 (P.length:Int),.int .i64 ((P.length+O.length:Nat):Int),f] W=some (.aD [],W.set id (bE g (P++Z++Q))):=by
 have oz:P.length+O.length+Q.length=N:=by rw[←hN];simp;omega
 suffices hq:∃q,A.loop ((λv2 s3=>
   (A.lss (aj v2 0) (AV.int .i64 ((P.length+O.length:Nat):Int))).bind λx5=>
   A.cond x5 (
    (A.loop (λv6 s7=>
      (A.gtr (aj v6 0) (AV.int .i64 (P.length:Int))).bind λx9=>
      (A.guard x9 true (some f) aq).bind λbf=>
      (A.guard x9 true (some (bC id g N)) aq).bind λcK=>
      (A.guard x9 true (some (aj v6 0)) aq).bind λbT=>
      (A.guard x9 true (A.aM 3 cK bT) aq).bind λbJ=>
      (A.guard x9 true ((A.deref bJ s7).bind λiq=>A.aG 0 3 iq) aq).bind λaW=>
      (A.guard x9 true (some (bC id g N)) aq).bind λbK=>
      (A.guard x9 true (some (aj v6 0)) aq).bind λbW=>
      (A.guard x9 true (A.sub bW dH) aq).bind λbN=>
      (A.guard x9 true (A.aM 3 bK bN) aq).bind λcZ=>
      (A.guard x9 true ((A.deref cZ s7).bind λgH=>A.aG 0 3 gH) aq).bind λbX=>
      (A.guard x9 true (A.quiet (A.gZ dyn bf [aW,bX] s7) s7) aq).bind λdc=>
      (A.guard x9 true (A.lss dc fC) aq).bind λdX=>
      (A.pick x9 dX bI).bind λx24=>
      A.cond x24 (
       (A.sub (aj v6 0) dH).bind λx25=>
       (A.sub (aj v6 0) dH).bind λeA=>
       (A.aM 3 (bC id g N) eA).bind λcg=>
       ((A.deref cg s7).bind λmm=>A.aG 0 3 mm).bind λx29=>
       (A.aM 3 (bC id g N) (aj v6 0)).bind λcG=>
       ((A.deref cG s7).bind λnE=>A.aG 0 3 nE).bind λx32=>
       (A.aM 3 (bC id g N) (aj v6 0)).bind λiN=>
       (A.cells 3 x29).bind λpG=>
       (A.storeAt iN pG s7).bind λmo=>
       (A.aM 3 (bC id g N) x25).bind λkZ=>
       (A.cells 3 x32).bind λnF=>
       (A.storeAt kZ nF mo).bind λrz=>
       (A.sub (aj v6 0) dH).bind λi6=>
       some (AX.normal,[i6],rz)) (
       some (AX.exit 2,[(aj v6 0)],s7))) [(aj v2 0)] s3).bind λC5=>
    bif C5.1==AX.exit 2 then(
     (A.add (aj v2 0) dH).bind λiy=>
     some (AX.normal,[iy],C5.2.2))else
    none) (
    some (AX.exit 0,[(aj v2 0)],s3)))) [.int .i64 ((P.length+1:Nat):Int)] W=some q∧∃Z u,dM Z∧cE Z O∧Z.length=O.length∧q=(.exit 0,u,W.set id (bE g (P++Z++Q))) by
  obtain⟨q,e,Z,u,h1,h2,h3,rfl⟩:=hq;refine⟨Z,h1,h2,h3,Tp rfl ?_⟩;unfold Dm;rw[oO (by omega),bS,e,bS];simp only[jF]
 by_cases hO:O=[]
 ·subst hO;refine nN (λz u w=>u=[.int .i64 ((P.length+1:Nat):Int)]∧w=W) ?_ (n:=0) ⟨rfl,rfl⟩;rintro z u w ⟨rfl,rfl⟩;simp only[fB];rw[iH,bS,dL (by simp),dY];exact .inr ⟨_,rfl,by simp,[],_,List.Pairwise.nil,cE.refl _,rfl,by rw[nT h]⟩
 ·refine nN (λz u w=>∃S1 S2 S3:List aA,O=S1++S2∧dM S3∧cE S3 S1∧S3.length=S1.length∧z=S2.length∧u=[.int .i64 ((P.length+S3.length:Nat):Int)]∧w=W.set id (bE g (P++S3++S2++Q))) ?_ (n:=O.length-1) ?_
  ·rintro z u w ⟨S1,S2,S3,rfl,h1,h2,h3,rfl,rfl,rfl⟩;simp only[fB,List.length_append];rw[List.length_append]at oz;rw[iH,bS];cases S2 with
   |nil=>rw[dL (by rw[h3];simp),dY];exact .inr ⟨_,rfl,by simp,S3,_,h1,by simpa using h2,by simpa using h3,by rw[List.append_nil]⟩
   |cons y T=>
    rw[List.length_cons]at oz;rw[eY (by rw[h3,List.length_cons];omega),fI];have hg:=lM h (P++S3++y::T++Q);obtain⟨C,D,e1,e2,e3,u',e4⟩:=aaH (g:=g) (id:=id) (W:=W.set id (bE g (P++S3++y::T++Q))) hc (P:=P) (S:=S3) (x:=y) (Q:=T++Q) (by simp;omega) hl (by rw[hg];simp);rw[e4,bS];simp only[jF];rw[oO (by omega),bS];subst e1;obtain⟨i1,i2⟩:=aaI h1 e2 e3;refine .inl ⟨T.length,_,_,by simp,rfl,S1++[y],T,C++y::D,by simp,i1,i2.trans (h2.app (cE.refl [y])),?_,rfl,?_,?_⟩
    ·simp only[List.length_append,List.length_cons,List.length_nil]at h3 ⊢;omega
    ·simp only[List.length_append,List.length_cons];congr 3
    ·rw[List.set_set];simp
  ·obtain⟨x,T,rfl⟩:=List.exists_cons_of_ne_nil hO;exact⟨[x],T,[x],rfl,List.pairwise_singleton _ _,cE.refl _,rfl,by simp,rfl,by rw[show P++[x]++T++Q=P++x::T++Q by simp,nT h]⟩
end
end
section
set_option maxRecDepth 100000
abbrev nI(n:Nat):AV:=.int .i64 (n:Int)
theorem E1{β:Type}{i j:Nat}(h:i+j<4611686018427387904)(K:AV→Option β):((A.add (.int .i64 (i:Int)) (.int .i64 (j:Int))).bind λx6=>(A.conv .u64 x6).bind λx7=>(A.shr x7 (AV.int .u64 1)).bind λx8=>(A.conv .i64 x8).bind K)=K (.int .i64 (((i+j) / 2:Nat):Int)):=by
 have e1:A.conv .u64 (.int .i64 ((i+j:Nat):Int))=some (.int .u64 ((i+j:Nat):Int)):=by simp only[A.conv];congr 2;unfold IntKind.wrap;simp [IntKind.bits,IntKind.signed];omega
 have e2:A.shr (.int .u64 ((i+j:Nat):Int)) (.int .u64 1)=some (.int .u64 (((i+j) / 2:Nat):Int)):=by simp only[A.shr];rw[aI (by decide)];congr 2;rw[show(2:Int) ^ (min (Int.toNat 1) IntKind.u64.bits)=2 from rfl,Int.fdiv_eq_ediv_of_nonneg _ (by decide)];omega
 have e3:A.conv .i64 (.int .u64 (((i+j) / 2:Nat):Int))=some (.int .i64 (((i+j) / 2:Nat):Int)):=by simp only[A.conv];rw[dK (by unfold aZ;omega)]
 rw[qY h,bS,e1,bS,e2,bS,e3,bS]
theorem Ix{body:an→Heap→Option LS}{W:Heap}{e:Nat}(pr:Nat→Bool){lo hi:Nat}(hlo:lo≤hi)
  (hx:∀i,body [nI i,nI i] W=some (.exit e,[nI i,nI i],W))
  (hs:∀i j,lo≤i→i<j→j≤hi→body [nI i,nI j] W=some (.normal,(bif pr ((i+j) / 2)then[nI ((i+j) / 2+1),nI j]else[nI i,nI ((i+j) / 2)]),W)):
  ∃i,lo≤i∧i≤hi∧(lo<i→pr (i-1)=true)∧(i<hi→pr i=false)∧A.loop body [nI lo,nI hi] W=some (.exit e,[nI i,nI i],W):=by
 suffices hq:∃q,A.loop body [nI lo,nI hi] W=some q∧∃i,lo≤i∧i≤hi∧(lo<i→pr (i-1)=true)∧(i<hi→pr i=false)∧q=(.exit e,[nI i,nI i],W) by obtain⟨q,h0,i,h1,h2,h3,h4,rfl⟩:=hq;exact⟨i,h1,h2,h3,h4,h0⟩
 refine nN (λz u w=>∃i j:Nat,lo≤i∧i≤j∧j≤hi∧(lo<i→pr (i-1)=true)∧(j<hi→pr j=false)∧z=j-i∧u=[nI i,nI j]∧w=W) ?_ (n:=hi-lo) ⟨lo,hi,ay _,hlo,ay _,λh=>by omega,λh=>by omega,rfl,rfl,rfl⟩;rintro z u w ⟨i,j,h1,h2,h3,h4,h5,rfl,rfl,rfl⟩;by_cases hij:i<j
 ·have:=hs i j h1 hij h3;cases hp:pr ((i+j) / 2)with
  |true=>rw[hp]at this;exact .inl ⟨j-((i+j) / 2+1),_,_,by omega,this,(i+j) / 2+1,j,by omega,by omega,h3,λ_=>by rw[Nat.add_sub_cancel];exact hp,h5,rfl,rfl,rfl⟩
  |false=>rw[hp]at this;exact .inl ⟨(i+j) / 2-i,_,_,by omega,this,i,(i+j) / 2,h1,by omega,by omega,h4,λ_=>hp,rfl,rfl,rfl⟩
 ·have:i=j:=by omega
  subst this;exact .inr ⟨_,hx i,by simp,i,h1,h3,h4,h5,rfl⟩
section
variable {dyn : Nat → an → Heap → az} {f : AV} {id g N : Nat} {W : Heap}
theorem Fg{α:Type}{P X Z:List α}{t:Nat}(h:t<X.length):(P++X++Z)[P.length+t]? =some X[t]:=by rw[kP,fV (by omega),show P.length+t-P.length=t by omega,fE h,cI h]
theorem Z8(hc:qm dyn f){P Y Q:List aA}{x:aA}(hN:(P++x::Y++Q).length=N)(hl:N<1000000000000)(h:W[id]? =some (bE g (P++x::Y++Q))):
  ∃Y1 Y2,Y=Y1++Y2∧(∀y,Y1.getLast? =some y→bH y x=true)∧(∀y,Y2.head? =some y→bH y x=false)∧∃i,i=P.length+1+Y1.length∧
  A.loop ((λv3 s4=>
    (A.lss (aj v3 0) (aj v3 1)).bind λx6=>
    A.cond x6 (
     (A.add (aj v3 0) (aj v3 1)).bind λx7=>
     (A.conv .u64 x7).bind λx8=>
     (A.shr x8 (AV.int .u64 1)).bind λx9=>
     (A.conv .i64 x9).bind λbf=>
     (A.aM 3 (bC id g N) bf).bind λcK=>
     ((A.deref cK s4).bind λdG=>A.aG 0 3 dG).bind λbJ=>
     (A.aM 3 (bC id g N) (AV.int .i64 (P.length:Int))).bind λcq=>
     ((A.deref cq s4).bind λgp=>A.aG 0 3 gp).bind λbK=>
     (A.quiet (A.gZ dyn f [bJ,bK] s4) s4).bind λbW=>
     (A.lss bW fC).bind λbN=>
     (A.cond bN (
      (A.add bf dH).bind λdw=>
      some ([dw,(aj v3 1)],s4)) (
      some ([(aj v3 0),bf],s4))).bind λeE=>
     some (AX.normal,[(aj eE.1 0),(aj eE.1 1)],eE.2)) (
     some (AX.exit 0,[(aj v3 0),(aj v3 1)],s4)))) [nI (P.length+1),nI (P.length+1+Y.length)] W=some (.exit 0,[nI i,nI i],W)∧
  ∃u,A.loop ((λv22 jl=>
     (A.sub (nI i) dH).bind λx25=>
     (A.lss (aj v22 0) x25).bind λeA=>
     A.cond eA (
      (A.add (aj v22 0) dH).bind λcg=>
      (A.add (aj v22 0) dH).bind λx28=>
      (A.aM 3 (bC id g N) x28).bind λx29=>
      ((A.deref x29 jl).bind λwF=>A.aG 0 3 wF).bind λx31=>
      (A.aM 3 (bC id g N) (aj v22 0)).bind λx32=>
      ((A.deref x32 jl).bind λuK=>A.aG 0 3 uK).bind λx34=>
      (A.aM 3 (bC id g N) (aj v22 0)).bind λnK=>
      (A.cells 3 x31).bind λuL=>
      (A.storeAt nK uL jl).bind λnF=>
      (A.aM 3 (bC id g N) cg).bind λx38=>
      (A.cells 3 x34).bind λCs=>
      (A.storeAt x38 Cs nF).bind λpH=>
      (A.add (aj v22 0) dH).bind λiy=>
      some (AX.normal,[iy],pH)) (
      some (AX.exit 2,[(aj v22 0)],jl)))) [nI P.length] W=some (.exit 2,u,W.set id (bE g (P++(Y1++x::Y2)++Q))):=by
 have oz:P.length+1+Y.length+Q.length=N:=by rw[←hN];simp;omega
 have eL:P++x::Y++Q=(P++[x])++Y++Q:=by simp
 have cO:(P++x::Y++Q)[P.length]? =some x:=by simp
 obtain⟨i,b1,b2,b3,b4,b5⟩:=Ix (W:=W) (e:=0) (body:=((λv3 s4=>
    (A.lss (aj v3 0) (aj v3 1)).bind λx6=>
    A.cond x6 (
     (A.add (aj v3 0) (aj v3 1)).bind λx7=>
     (A.conv .u64 x7).bind λx8=>
     (A.shr x8 (AV.int .u64 1)).bind λx9=>
     (A.conv .i64 x9).bind λbf=>
     (A.aM 3 (bC id g N) bf).bind λcK=>
     ((A.deref cK s4).bind λdG=>A.aG 0 3 dG).bind λbJ=>
     (A.aM 3 (bC id g N) (AV.int .i64 (P.length:Int))).bind λcq=>
     ((A.deref cq s4).bind λgp=>A.aG 0 3 gp).bind λbK=>
     (A.quiet (A.gZ dyn f [bJ,bK] s4) s4).bind λbW=>
     (A.lss bW fC).bind λbN=>
     (A.cond bN (
      (A.add bf dH).bind λdw=>
      some ([dw,(aj v3 1)],s4)) (
      some ([(aj v3 0),bf],s4))).bind λeE=>
     some (AX.normal,[(aj eE.1 0),(aj eE.1 1)],eE.2)) (
     some (AX.exit 0,[(aj v3 0),(aj v3 1)],s4))))) (λt=>(Y[t-(P.length+1)]?).any λy=>bH y x) (lo:=P.length+1) (hi:=P.length+1+Y.length) (by omega)
  (λi=>by
   simp only[fB,ji]
   rw[iH,bS,dL (by omega),dY])
  (λi j h1 h2 h3=>by
   simp only[fB,ji];rw[iH,bS,eY h2,fI,E1 (by omega)];obtain⟨t,ht,hk⟩:∃t,t<Y.length∧(i+j) / 2=P.length+1+t:=⟨(i+j) / 2-(P.length+1),by omega,by omega⟩
   have hy:(P++x::Y++Q)[(i+j) / 2]? =some Y[t]:=by rw[eL,hk,show P.length+1=(P++[x]).length by simp];exact Fg ht
   rw[lp (by omega),bS,nL h hy,bS,lp (by omega),bS,nL h cO,bS,hc,bS,cmpL,bS];rw[show(i+j) / 2-(P.length+1)=t by omega,cI ht,Option.any_some];cases bH Y[t] x with
   |true=>rw[fI,oO (by omega),bS,bS];rfl
   |false=>rw[dY,bS];rfl)
 obtain⟨t,rfl⟩:∃t,i=P.length+1+t:=⟨i-(P.length+1),by omega⟩
 have ht:t≤Y.length:=by omega
 refine⟨Y.take t,Y.drop t,(List.take_append_drop _ _).symm,λy hy=>?_,λy hy=>?_,P.length+1+t,by rw[gn,Nat.min_eq_left ht],b5,?_⟩
 ·have ht0:0<t:=by
   rcases Nat.eq_zero_or_pos t with rfl|e
   ·simp at hy
   ·exact e
  have:=b3 (by omega);rw[show P.length+1+t-1-(P.length+1)=t-1 by omega]at this;rw[List.getLast?_eq_getElem?,gn,Nat.min_eq_left ht,List.getElem?_take_of_lt (by omega)]at hy;rw[hy]at this;exact this
 ·rw[List.head?_drop]at hy;have:=b4 (by have:=(bU.1 hy).1;omega);rw[show P.length+1+t-(P.length+1)=t by omega,hy]at this;exact this
 ·suffices hq:∃q,A.loop ((λv22 jl=>
     (A.sub (nI (P.length+1+t)) dH).bind λx25=>
     (A.lss (aj v22 0) x25).bind λeA=>
     A.cond eA (
      (A.add (aj v22 0) dH).bind λcg=>
      (A.add (aj v22 0) dH).bind λx28=>
      (A.aM 3 (bC id g N) x28).bind λx29=>
      ((A.deref x29 jl).bind λwF=>A.aG 0 3 wF).bind λx31=>
      (A.aM 3 (bC id g N) (aj v22 0)).bind λx32=>
      ((A.deref x32 jl).bind λuK=>A.aG 0 3 uK).bind λx34=>
      (A.aM 3 (bC id g N) (aj v22 0)).bind λnK=>
      (A.cells 3 x31).bind λuL=>
      (A.storeAt nK uL jl).bind λnF=>
      (A.aM 3 (bC id g N) cg).bind λx38=>
      (A.cells 3 x34).bind λCs=>
      (A.storeAt x38 Cs nF).bind λpH=>
      (A.add (aj v22 0) dH).bind λiy=>
      some (AX.normal,[iy],pH)) (
      some (AX.exit 2,[(aj v22 0)],jl)))) [nI P.length] W=some q∧∃u,q=(.exit 2,u,W.set id (bE g (P++(Y.take t++x::Y.drop t)++Q))) by
   obtain⟨q,e,u,rfl⟩:=hq;exact⟨u,e⟩
  refine nN (λz u w=>∃s,s≤t∧z=t-s∧u=[nI (P.length+s)]∧w=W.set id (bE g (P++(Y.take s++x::Y.drop s)++Q))) ?_ (n:=t) ⟨0,gU _,rfl,rfl,by simp only[List.take_zero,List.drop_zero,List.nil_append];rw[nT h]⟩;rintro z u w ⟨s,hs,rfl,rfl,rfl⟩;simp only[fB];rw[E3 (by omega) (by omega),bS,show P.length+1+t-1=P.length+t by omega,iH,bS];by_cases hst:s<t
  ·have S0:s<Y.length:=by omega
   have ey:Y.drop s=Y[s]::Y.drop (s+1):=List.drop_eq_getElem_cons S0;have ty:Y.take (s+1)=Y.take s++[Y[s]]:=List.take_succ_eq_append_getElem S0;generalize Y[s]=y at ey ty;have hU:(P++Y.take s).length=P.length+s:=by simp;omega
   obtain⟨s1,s2,s3,s4⟩:=E7 (P++Y.take s) [] (Y.drop (s+1)++Q) x y;have eL:P++(Y.take s++x::Y.drop s)++Q=(P++Y.take s)++x::([]++y::(Y.drop (s+1)++Q)):=by rw[ey];simp
   rw[←eL]at s1 s2 s3;rw[hU]at s1 s2 s3;rw[List.length_nil,Nat.add_zero]at s2 s3;have hg:=lM h (P++(Y.take s++x::Y.drop s)++Q);have CP:(P++(Y.take s++x::Y.drop s)++Q).length=N:=by rw[←oz];simp;omega
   rw[eY (by omega),fI,oO (by omega),bS,bS,lp (by omega),bS,nL hg s2,bS,lp (by omega),bS,nL hg s1,bS,bS,rW,bS,vr y hg (by omega),bS,bS,rW,bS,vr x (lM hg _) (by rw[List.length_set];omega),bS,bS];refine .inl ⟨t-(s+1),_,_,by omega,rfl,s+1,hst,rfl,rfl,?_⟩;rw[List.set_set,List.set_set,s3,ty];simp
  ·have:s=t:=by omega
   subst this;rw[dL (by omega),dY];exact .inr ⟨_,rfl,by simp,_,rfl⟩
theorem YP(hc:qm dyn f){P X Q:List aA}{y:aA}(hN:(P++X++y::Q).length=N)(hl:N<1000000000000)(h:W[id]? =some (bE g (P++X++y::Q))):
  ∃X1 X2,X=X1++X2∧(∀x,X1.getLast? =some x→bH y x=false)∧(∀x,X2.head? =some x→bH y x=true)∧∃i,i=P.length+X1.length∧
  A.loop ((λv45 iX=>
     (A.lss (aj v45 0) (aj v45 1)).bind λpP=>
     A.cond pP (
      (A.add (aj v45 0) (aj v45 1)).bind λjM=>
      (A.conv .u64 jM).bind λfc=>
      (A.shr fc (AV.int .u64 1)).bind λfS=>
      (A.conv .i64 fS).bind λgC=>
      (A.aM 3 (bC id g N) (AV.int .i64 ((P.length+X.length:Nat):Int))).bind λpQ=>
      ((A.deref pQ iX).bind λuO=>A.aG 0 3 uO).bind λmA=>
      (A.aM 3 (bC id g N) gC).bind λjN=>
      ((A.deref jN iX).bind λuP=>A.aG 0 3 uP).bind λrU=>
      (A.quiet (A.gZ dyn f [mA,rU] iX) iX).bind λkJ=>
      (A.lss kJ fC).bind λpS=>
      (A.not pS).bind λlR=>
      (A.cond lR (
       (A.add gC dH).bind λmB=>
       some ([mB,(aj v45 1)],iX)) (
       some ([(aj v45 0),gC],iX))).bind λjK=>
      some (AX.normal,[(aj jK.1 0),(aj jK.1 1)],jK.2)) (
      some (AX.exit 4,[(aj v45 0),(aj v45 1)],iX)))) [nI P.length,nI (P.length+X.length)] W=some (.exit 4,[nI i,nI i],W)∧
  ∃u,A.loop ((λiZ oG=>
      (A.gtr (aj iZ 0) (nI i)).bind λyU=>
      A.cond yU (
       (A.sub (aj iZ 0) dH).bind λpU=>
       (A.sub (aj iZ 0) dH).bind λyV=>
       (A.aM 3 (bC id g N) yV).bind λyW=>
       ((A.deref yW oG).bind λCy=>A.aG 0 3 Cy).bind λyX=>
       (A.aM 3 (bC id g N) (aj iZ 0)).bind λyY=>
       ((A.deref yY oG).bind λCz=>A.aG 0 3 Cz).bind λqC=>
       (A.aM 3 (bC id g N) (aj iZ 0)).bind λrV=>
       (A.cells 3 yX).bind λym=>
       (A.storeAt rV ym oG).bind λCA=>
       (A.aM 3 (bC id g N) pU).bind λDh=>
       (A.cells 3 qC).bind λCB=>
       (A.storeAt Dh CB CA).bind λyp=>
       (A.sub (aj iZ 0) dH).bind λvq=>
       some (AX.normal,[vq],yp)) (
       some (AX.exit 6,[(aj iZ 0)],oG)))) [nI (P.length+X.length)] W=some (.exit 6,u,W.set id (bE g (P++(X1++y::X2)++Q))):=by
 have oz:P.length+X.length+1+Q.length=N:=by rw[←hN];simp;omega
 have FQ:(P++X++y::Q)[P.length+X.length]? =some y:=by rw[fV (by simp)];simp
 obtain⟨i,b1,b2,b3,b4,b5⟩:=Ix (W:=W) (e:=4) (body:=((λv45 iX=>
     (A.lss (aj v45 0) (aj v45 1)).bind λpP=>
     A.cond pP (
      (A.add (aj v45 0) (aj v45 1)).bind λjM=>
      (A.conv .u64 jM).bind λfc=>
      (A.shr fc (AV.int .u64 1)).bind λfS=>
      (A.conv .i64 fS).bind λgC=>
      (A.aM 3 (bC id g N) (AV.int .i64 ((P.length+X.length:Nat):Int))).bind λpQ=>
      ((A.deref pQ iX).bind λuO=>A.aG 0 3 uO).bind λmA=>
      (A.aM 3 (bC id g N) gC).bind λjN=>
      ((A.deref jN iX).bind λuP=>A.aG 0 3 uP).bind λrU=>
      (A.quiet (A.gZ dyn f [mA,rU] iX) iX).bind λkJ=>
      (A.lss kJ fC).bind λpS=>
      (A.not pS).bind λlR=>
      (A.cond lR (
       (A.add gC dH).bind λmB=>
       some ([mB,(aj v45 1)],iX)) (
       some ([(aj v45 0),gC],iX))).bind λjK=>
      some (AX.normal,[(aj jK.1 0),(aj jK.1 1)],jK.2)) (
      some (AX.exit 4,[(aj v45 0),(aj v45 1)],iX))))) (λt=>(X[t-P.length]?).any λx=>!bH y x) (lo:=P.length) (hi:=P.length+X.length) (by omega)
  (λi=>by
   simp only[fB,ji]
   rw[iH,bS,dL (by omega),dY])
  (λi j h1 h2 h3=>by
   simp only[fB,ji];rw[iH,bS,eY h2,fI,E1 (by omega)];obtain⟨t,ht,hk⟩:∃t,t<X.length∧(i+j) / 2=P.length+t:=⟨(i+j) / 2-P.length,by omega,by omega⟩
   have hy:(P++X++y::Q)[(i+j) / 2]? =some X[t]:=by rw[hk];exact Fg ht
   rw[lp (by omega),bS,nL h FQ,bS,lp (by omega),bS,nL h hy,bS,hc,bS,cmpL,bS];rw[show(i+j) / 2-P.length=t by omega,cI ht,Option.any_some];cases bH y X[t]with
   |true=>rw[show A.not (.bool true)=some (.bool false)from rfl,bS,dY,bS];rfl
   |false=>rw[show A.not (.bool false)=some (.bool true)from rfl,bS,fI,oO (by omega),bS,bS];rfl)
 obtain⟨t,rfl⟩:∃t,i=P.length+t:=⟨i-P.length,by omega⟩
 have ht:t≤X.length:=by omega
 refine⟨X.take t,X.drop t,(List.take_append_drop _ _).symm,λx hx=>?_,λx hx=>?_,P.length+t,by rw[gn,Nat.min_eq_left ht],b5,?_⟩
 ·have ht0:0<t:=by
   rcases Nat.eq_zero_or_pos t with rfl|e
   ·simp at hx
   ·exact e
  have:=b3 (by omega);rw[show P.length+t-1-P.length=t-1 by omega]at this;rw[List.getLast?_eq_getElem?,gn,Nat.min_eq_left ht,List.getElem?_take_of_lt (by omega)]at hx;rw[hx]at this;simpa using this
 ·rw[List.head?_drop]at hx;have:=b4 (by have:=(bU.1 hx).1;omega);rw[show P.length+t-P.length=t by omega,hx]at this;simpa using this
 ·suffices hq:∃q,A.loop ((λiZ oG=>
      (A.gtr (aj iZ 0) (nI (P.length+t))).bind λyU=>
      A.cond yU (
       (A.sub (aj iZ 0) dH).bind λpU=>
       (A.sub (aj iZ 0) dH).bind λyV=>
       (A.aM 3 (bC id g N) yV).bind λyW=>
       ((A.deref yW oG).bind λCy=>A.aG 0 3 Cy).bind λyX=>
       (A.aM 3 (bC id g N) (aj iZ 0)).bind λyY=>
       ((A.deref yY oG).bind λCz=>A.aG 0 3 Cz).bind λqC=>
       (A.aM 3 (bC id g N) (aj iZ 0)).bind λrV=>
       (A.cells 3 yX).bind λym=>
       (A.storeAt rV ym oG).bind λCA=>
       (A.aM 3 (bC id g N) pU).bind λDh=>
       (A.cells 3 qC).bind λCB=>
       (A.storeAt Dh CB CA).bind λyp=>
       (A.sub (aj iZ 0) dH).bind λvq=>
       some (AX.normal,[vq],yp)) (
       some (AX.exit 6,[(aj iZ 0)],oG)))) [nI (P.length+X.length)] W=some q∧∃u,q=(.exit 6,u,W.set id (bE g (P++(X.take t++y::X.drop t)++Q))) by
   obtain⟨q,e,u,rfl⟩:=hq;exact⟨u,e⟩
  refine nN (λz u w=>∃s,t≤s∧s≤X.length∧z=s-t∧u=[nI (P.length+s)]∧w=W.set id (bE g (P++(X.take s++y::X.drop s)++Q))) ?_ (n:=X.length-t) ⟨X.length,ht,ay _,rfl,rfl,by rw[List.take_length,List.drop_length,show P++(X++[y])++Q=P++X++y::Q by simp,nT h]⟩;rintro z u w ⟨s,hs,iw,rfl,rfl,rfl⟩;simp only[fB];rw[Fl,bS];by_cases hst:t<s
  ·obtain⟨r,rfl⟩:∃r,s=r+1:=⟨s-1,by omega⟩
   have SZ:r<X.length:=by omega
   have ey:X.drop r=X[r]::X.drop (r+1):=List.drop_eq_getElem_cons SZ;have ty:X.take (r+1)=X.take r++[X[r]]:=List.take_succ_eq_append_getElem SZ;generalize X[r]=x at ey ty;have hU:(P++X.take r).length=P.length+r:=by simp;omega
   obtain⟨s1,s2,s3,s4⟩:=E7 (P++X.take r) [] (X.drop (r+1)++Q) x y;have eL:P++(X.take (r+1)++y::X.drop (r+1))++Q=(P++X.take r)++x::([]++y::(X.drop (r+1)++Q)):=by rw[ty];simp
   rw[←eL]at s1 s2 s4;rw[hU]at s1 s2 s4;rw[List.length_nil,show P.length+r+1+0=P.length+(r+1) by omega]at s2 s4;have hg:=lM h (P++(X.take (r+1)++y::X.drop (r+1))++Q);have CP:(P++(X.take (r+1)++y::X.drop (r+1))++Q).length=N:=by rw[←oz];simp;omega
   rw[eY (by omega),fI,E3 (by omega) (by omega),bS,bS,show P.length+(r+1) -1=P.length+r by omega,lp (i:=P.length+r) (by omega),bS,nL hg s1,bS,lp (by omega),bS,nL hg s2,bS,bS,rW,bS,vr x hg (by omega),bS,bS,rW,bS,vr y (lM hg _) (by rw[List.length_set];omega),bS,bS];refine .inl ⟨r-t,_,_,by omega,rfl,r,by omega,by omega,rfl,rfl,?_⟩;rw[List.set_set,List.set_set,s4,ey];simp
  ·have:s=t:=by omega
   subst this;rw[dL (by omega),dY];exact .inr ⟨_,rfl,by simp,_,rfl⟩
theorem aa5(hc:qm dyn f){P X Y Q:List aA}(hN:(P++X++Y++Q).length=N)(hl:N<1000000000000)(h:W[id]? =some (bE g (P++X++Y++Q))){k s0 r:Nat}(h1:P.length≤s0)(h2:s0≤r)(h3:r≤P.length+X.length)(h4:r≤k)(h5:k≤s0+Y.length)(SO:k<1000000000000):
  ∃s,s0≤s∧s≤r∧(s0<s→∀x y,X[s-1-P.length]? =some x→Y[k-s]? =some y→bH y x=false)∧(s<r→∀x y,X[s-P.length]? =some x→Y[k-1-s]? =some y→bH y x=true)∧
  A.loop ((λgX iY=>
     (A.lss (aj gX 0) (aj gX 1)).bind λDi=>
     A.cond Di (
      (A.add (aj gX 0) (aj gX 1)).bind λx98=>
      (A.conv .u64 x98).bind λx99=>
      (A.shr x99 (AV.int .u64 1)).bind λCn=>
      (A.conv .i64 Cn).bind λx101=>
      (A.sub (nI (k+(P.length+X.length) -1)) x101).bind λx102=>
      (A.aM 3 (bC id g N) x102).bind λwA=>
      ((A.deref wA iY).bind λCa=>A.aG 0 3 Ca).bind λtd=>
      (A.aM 3 (bC id g N) x101).bind λxU=>
      ((A.deref xU iY).bind λCb=>A.aG 0 3 Cb).bind λxV=>
      (A.quiet (A.gZ dyn f [td,xV] iY) iY).bind λxW=>
      (A.lss xW fC).bind λnC=>
      (A.not nC).bind λxX=>
      (A.cond xX (
       (A.add x101 dH).bind λx113=>
       some ([x113,(aj gX 1)],iY)) (
       some ([(aj gX 0),x101],iY))).bind λqZ=>
      some (AX.normal,[(aj qZ.1 0),(aj qZ.1 1)],qZ.2)) (
      some (AX.exit 8,[(aj gX 0),(aj gX 1)],iY)))) [nI s0,nI r] W=some (.exit 8,[nI s,nI s],W):=by
 have oz:P.length+X.length+Y.length+Q.length=N:=by rw[←hN];simp;omega
 obtain⟨i,b1,b2,b3,b4,b5⟩:=Ix (W:=W) (e:=8) (body:=((λgX iY=>
     (A.lss (aj gX 0) (aj gX 1)).bind λDi=>
     A.cond Di (
      (A.add (aj gX 0) (aj gX 1)).bind λx98=>
      (A.conv .u64 x98).bind λx99=>
      (A.shr x99 (AV.int .u64 1)).bind λCn=>
      (A.conv .i64 Cn).bind λx101=>
      (A.sub (nI (k+(P.length+X.length) -1)) x101).bind λx102=>
      (A.aM 3 (bC id g N) x102).bind λwA=>
      ((A.deref wA iY).bind λCa=>A.aG 0 3 Ca).bind λtd=>
      (A.aM 3 (bC id g N) x101).bind λxU=>
      ((A.deref xU iY).bind λCb=>A.aG 0 3 Cb).bind λxV=>
      (A.quiet (A.gZ dyn f [td,xV] iY) iY).bind λxW=>
      (A.lss xW fC).bind λnC=>
      (A.not nC).bind λxX=>
      (A.cond xX (
       (A.add x101 dH).bind λx113=>
       some ([x113,(aj gX 1)],iY)) (
       some ([(aj gX 0),x101],iY))).bind λqZ=>
      some (AX.normal,[(aj qZ.1 0),(aj qZ.1 1)],qZ.2)) (
      some (AX.exit 8,[(aj gX 0),(aj gX 1)],iY))))) (λc=>(X[c-P.length]?).any λx=>(Y[k-1-c]?).any λy=>!bH y x) (lo:=s0) (hi:=r) h2
  (λi=>by
   simp only[fB,ji]
   rw[iH,bS,dL (by omega),dY])
  (λi j q1 q2 q3=>by
   simp only[fB,ji];rw[iH,bS,eY q2,fI,E1 (by omega)];obtain⟨c,mU⟩:∃c,c=(i+j) / 2:=⟨_,rfl⟩
   rw[←mU];have c1:i≤c:=by omega
   have c2:c<j:=by omega
   have hx1:c-P.length<X.length:=by omega
   have hy1:k-1-c<Y.length:=by omega
   have hx:(P++X++Y++Q)[c]? =some X[c-P.length]:=by have:=Fg (P:=P) (Z:=Y++Q) hx1;rw[show P.length+(c-P.length)=c by omega]at this;rw[←this];simp
   have hy:(P++X++Y++Q)[k+(P.length+X.length) -1-c]? =some Y[k-1-c]:=by have:=Fg (P:=P++X) (Z:=Q) hy1;rw[List.length_append,show P.length+X.length+(k-1-c)=k+(P.length+X.length) -1-c by omega]at this;exact this
   rw[n9 (by omega) (by omega),bS,lp (by omega),bS,nL h hy,bS,lp (by omega),bS,nL h hx,bS,hc,bS,cmpL,bS];rw[cI hx1,cI hy1,Option.any_some,Option.any_some];cases bH Y[k-1-c] X[c-P.length]with
   |true=>rw[show A.not (.bool true)=some (.bool false)from rfl,bS,dY,bS];rfl
   |false=>rw[show A.not (.bool false)=some (.bool true)from rfl,bS,fI,oO (by omega),bS,bS];rfl)
 refine⟨i,b1,b2,λq x y hx hy=>?_,λq x y hx hy=>?_,b5⟩
 ·have:=b3 q;simp only[hx,show k-1-(i-1)=k-i by omega,hy,Option.any_some]at this;simpa using this
 ·have:=b4 q;simp only[hx,hy,Option.any_some]at this;simpa using this
end
theorem Pw{l:List aA}{x:aA}(hs:dM l)(h:∀y,l.getLast? =some y→bH y x=true):∀y∈l,bH y x=true:=λy hy=>by
 obtain⟨z,hz⟩:∃z,l.getLast? =some z:=by
  cases e:l.getLast? with
  |none=>rw[List.getLast?_eq_none_iff]at e;subst e;simp at hy
  |some z=>exact⟨z,rfl⟩
 have hq:=h z hz;obtain⟨l',rfl⟩:=List.getLast?_eq_some_iff.1 hz;rcases eN.1 hy with e|e
 ·exact abW ((List.pairwise_append.1 hs).2.2 y e z (by simp)) hq
 ·rw[List.mem_singleton.1 e];exact hq
theorem Pv{l:List aA}{x:aA}(hs:dM l)(h:∀y,l.getLast? =some y→bH x y=false):∀y∈l,bH x y=false:=λy hy=>by
 obtain⟨z,hz⟩:∃z,l.getLast? =some z:=by
  cases e:l.getLast? with
  |none=>rw[List.getLast?_eq_none_iff]at e;subst e;simp at hy
  |some z=>exact⟨z,rfl⟩
 have hq:=h z hz;obtain⟨l',rfl⟩:=List.getLast?_eq_some_iff.1 hz;rcases eN.1 hy with e|e
 ·exact BY ((List.pairwise_append.1 hs).2.2 y e z (by simp)) hq
 ·rw[List.mem_singleton.1 e];exact hq
theorem Pm{l:List aA}{x:aA}(hs:dM l)(h:∀y,l.head? =some y→bH y x=false):∀y∈l,bH y x=false:=λy hy=>by
 cases l with
 |nil=>simp at hy
 |cons z l=>
  rcases eM.1 hy with rfl|e
  ·exact h _ rfl
  ·exact BY (h z rfl) ((List.pairwise_cons.1 hs).1 y e)
theorem Pn{l:List aA}{x:aA}(hs:dM l)(h:∀y,l.head? =some y→bH x y=true):∀y∈l,bH x y=true:=λy hy=>by
 cases l with
 |nil=>simp at hy
 |cons z l=>
  rcases eM.1 hy with rfl|e
  ·exact h _ rfl
  ·exact RO (h z rfl) ((List.pairwise_cons.1 hs).1 y e)
theorem Zr{Y X:List aA}(h:∀y∈Y,∀x∈X,bH y x=true):cE (Y++X) (X++Y):=λk=>by
 show(Y++X).filter _=(X++Y).filter _;rw[List.filter_append,List.filter_append];by_cases hY:∃y∈Y,y.key=k
 ·obtain⟨y,hy,rfl⟩:=hY
  have:X.filter (λs=>decide (s.key=y.key))=[]:=by rw[List.filter_eq_nil_iff];intro x hx q;exact tY (h y hy x hx) (of_decide_eq_true q).symm
  rw[this];simp
 ·have:Y.filter (λs=>decide (s.key=k))=[]:=by rw[List.filter_eq_nil_iff];intro y hy q;exact hY ⟨y,hy,of_decide_eq_true q⟩
  rw[this];simp
theorem IE{X1 X2 Y1 Y2 Z1 Z2:List aA}(hX:dM (X1++X2))(hY:dM (Y1++Y2))(ha:∀x∈X1,∀y∈Y2,bH y x=false)(hb:∀y∈Y1,∀x∈X2,bH y x=true)
  (s1:dM Z1) (s2:dM Z2) (t1:cE Z1 (X1++Y1)) (t2:cE Z2 (X2++Y2)):dM (Z1++Z2)∧cE (Z1++Z2) (X1++X2++(Y1++Y2)):=by
 have hX':=List.pairwise_append.1 hX;have hY':=List.pairwise_append.1 hY;refine⟨List.pairwise_append.2 ⟨s1,s2,λu hu v hv=>?_⟩,?_⟩
 ·rcases eN.1 (t1.mem hu)with q|q<;>rcases eN.1 (t2.mem hv)with p|p
  ·exact hX'.2.2 u q v p
  ·exact ha u q v p
  ·exact Sy (hb u q v p)
  ·exact hY'.2.2 u q v p
 ·refine(t1.app t2).trans ?_;have:=Zr hb;have e:=(cE.refl X1).app (this.app (cE.refl Y2));simp only[kP]at e ⊢;exact e
end
section
set_option maxRecDepth 100000
theorem xw5{r:AV→AV→AV→AV→AV→Heap→az}{a0 a1 a2 a3 a4:AV}{σ:Heap}{q:AV×Heap}(ha:A.cN [] [a0,a1,a2,a3,a4]=[a0,a1,a2,a3,a4])(h:r a0 a1 a2 a3 a4 σ=some q):A.wrap false [] .k (A.mg r) [a0,a1,a2,a3,a4] σ=some q:=by show((A.mg r) (A.cN [] [a0,a1,a2,a3,a4]) σ).map _=_;rw[ha];show(r a0 a1 a2 a3 a4 σ).map _=_;rw[h];rfl
theorem RQ(a:Nat):A.eql .i (.int .i64 (a:Int)) (.int .i64 1)=some (.bool (decide (a=1))):=by rw[uH];congr 2;rw[decide_eq_decide];omega
theorem Jb{l:List aA}(k:Nat)(h:k≤l.length):∃a b,l=a++b∧a.length=k:=⟨l.take k,l.drop k,(List.take_append_drop _ _).symm,by simp;omega⟩
theorem IU{α β:Type}(p q:Prop)[Decidable p][Decidable q](u v:AV)(X Y:Option α)(K:α→Option β)(hq:A.lss u v=some (.bool (decide q))):
  ((A.guard (.bool (decide p)) true (some u) aq).bind λx112=>(A.guard (.bool (decide p)) true (some v) aq).bind λx113=>(A.guard (.bool (decide p)) true (A.lss x112 x113) aq).bind λx114=>(A.pick (.bool (decide p)) x114 bI).bind λx115=>(A.cond x115 X Y).bind K)=(bif decide (p∧q)then X else Y).bind K:=by
 by_cases hp:p
 ·rw[eY hp,gT,bS,gT,bS,hq,gT,bS,AT,bS];by_cases h:q
  ·rw[eY h,fI,eY ⟨hp,h⟩];rfl
  ·rw[dL h,dY,dL (λe=>h e.2)];rfl
 ·rw[dL hp,AG,bS,AG,bS,AG,bS,C4,bS,dY,dL (λe=>hp e.1)];rfl
section
variable {dyn : Nat → an → Heap → az} {f : AV} {id g N : Nat}
noncomputable abbrev smR (dyn : Nat → an → Heap → az) (n : Nat) : an → Heap → az := fuel (zc dyn) n 106
theorem aa4(hc:qm dyn f)(hl:N<1000000000000):∀(F:Nat)(P X Y Q:List aA)(W:Heap)(n:Nat),(P++X++Y++Q).length=N→W[id]? =some (bE g (P++X++Y++Q))→dM X→dM Y→X≠[]→Y≠[]→X.length+Y.length≤2 ^ F→
  ∃Z,dM Z∧cE Z (X++Y)∧Z.length=X.length+Y.length∧smR dyn (n+F+1) [bC id g N,nI P.length,nI (P.length+X.length),nI (P.length+X.length+Y.length),f] W=some (.aD [],W.set id (bE g (P++Z++Q))):=by
 intro F;induction F with
 |zero=>intro P X Y Q W n hN h hX hY nX nY hs;have:=List.length_pos_iff.2 nX;have:=List.length_pos_iff.2 nY;omega
 |succ F ih=>
  intro P X Y Q W n hN h hX hY nX nY hs;have lX:=List.length_pos_iff.2 nX;have lY:=List.length_pos_iff.2 nY;have oz:P.length+X.length+Y.length+Q.length=N:=by rw[←hN];simp;omega
  suffices hr:∃Z,dM Z∧cE Z (X++Y)∧Z.length=X.length+Y.length∧Dn (fuel (zc dyn) (n+(F+1))) dyn (bC id g N) (nI P.length) (nI (P.length+X.length)) (nI (P.length+X.length+Y.length)) f W=some (.aD [],W.set id (bE g (P++Z++Q))) by obtain⟨Z,h1,h2,h3,h4⟩:=hr;exact⟨Z,h1,h2,h3,xw5 rfl h4⟩
  unfold Dn;rw[n9 (by omega) (by omega),bS,show P.length+X.length-P.length=X.length by omega,RQ,bS];by_cases x1:X.length=1
  ·obtain⟨x,rfl⟩:∃x,X=[x]:=qR.1 x1;rw[eY x1,fI];rw[show P++[x]++Y++Q=P++x::Y++Q by simp]at h hN;obtain⟨Y1,Y2,rfl,e1,e2,i,hi,e3,u,e4⟩:=Z8 hc hN hl h;obtain⟨CK,CL,hY3⟩:=List.pairwise_append.1 hY;have g1:=Pw CK e1;have g2:=Pm CL e2;obtain⟨m1,m2⟩:=IE (X1:=[]) (X2:=[x]) (Y1:=Y1) (Y2:=Y2) (Z1:=Y1) (Z2:=x::Y2) (by simpa using hX) hY (by simp) (λy hy z hz=>by rw[List.mem_singleton.1 hz];exact g1 y hy) CK (List.pairwise_cons.2 ⟨g2,CL⟩) (cE.refl _) (cE.refl _);refine⟨Y1++x::Y2,m1,m2,by simp;omega,?_⟩;refine(congrArg (Option.bind · _) e3).trans ?_;rw[bS];simp only[jF];refine(congrArg (Option.bind · _) e4).trans ?_;rw[bS];simp only[jF]
  rw[dL x1,dY,n9 (by omega) (by omega),bS,show P.length+X.length+Y.length-(P.length+X.length)=Y.length by omega,RQ,bS];by_cases y1:Y.length=1
  ·obtain⟨y,rfl⟩:∃y,Y=[y]:=qR.1 y1;rw[eY y1,fI];rw[show P++X++[y]++Q=P++X++y::Q by simp]at h hN;obtain⟨X1,X2,rfl,e1,e2,i,hi,e3,u,e4⟩:=YP hc hN hl h;obtain⟨hX1,SE,hX3⟩:=List.pairwise_append.1 hX;have g1:=Pv hX1 e1;have g2:=Pn SE e2;obtain⟨m1,m2⟩:=IE (X1:=X1) (X2:=X2) (Y1:=[y]) (Y2:=[]) (Z1:=X1++[y]) (Z2:=X2) hX (by simpa using hY) (by simp) (λz hz x hx=>by rw[List.mem_singleton.1 hz];exact g2 x hx) (List.pairwise_append.2 ⟨hX1,List.pairwise_singleton _ _,λx hx z hz=>by rw[List.mem_singleton.1 hz];exact g1 x hx⟩) SE (cE.refl _) (by rw[List.append_nil];exact cE.refl _);refine⟨X1++y::X2,by simpa using m1,by simpa using m2,by simp;omega,?_⟩;refine(congrArg (Option.bind · _) e3).trans ?_;rw[bS];simp only[jF];refine(congrArg (Option.bind · _) e4).trans ?_;rw[bS];simp only[jF]
  rw[dL y1,dY,E1 (by omega)];obtain⟨k,hk⟩:∃k,k=(P.length+(P.length+X.length+Y.length)) / 2:=⟨_,rfl⟩
  rw[←hk,qY (by omega),bS,Fl,bS]
  obtain⟨s0,r,q1,q2,q3,q4,q5,q6,q7,q8⟩:∃s0 r,P.length≤s0∧s0≤r∧r≤P.length+X.length∧r≤k∧k≤s0+Y.length∧(s0=P.length∨k=s0+Y.length)∧(r=P.length+X.length∨r=k)∧A.cond (.bool (decide (k<P.length+X.length))) ((A.sub (.int .i64 ((k+(P.length+X.length):Nat):Int)) (nI (P.length+X.length+Y.length))).bind λqD=>some ([qD,nI k],W)) (some ([nI P.length,nI (P.length+X.length)],W))=some ([nI s0,nI r],W):=by
   by_cases hkm:k<P.length+X.length
   ·refine⟨k+(P.length+X.length) -(P.length+X.length+Y.length),k,by omega,by omega,by omega,by omega,by omega,.inr (by omega),.inr rfl,?_⟩;rw[eY hkm,fI,n9 (by omega) (by omega),bS]
   ·refine⟨P.length,P.length+X.length,by omega,by omega,by omega,by omega,by omega,.inl rfl,.inl rfl,?_⟩;rw[dL hkm,dY]
  obtain⟨s,b1,b2,b3,b4,b5⟩:=aa5 hc hN hl h q1 q2 q3 q4 q5 (by omega);obtain⟨X1,X2,rfl,hX1⟩:=Jb (l:=X) (s-P.length) (by omega);obtain⟨Y1,Y2,rfl,CK⟩:=Jb (l:=Y) (k-s) (by omega);simp only[List.length_append]at lX lY hs oz x1 y1 hk q3 q5 q6 q7 q8 b5 ⊢;obtain⟨LG,LH,sX3⟩:=List.pairwise_append.1 hX;obtain⟨LI,LJ,sY3⟩:=List.pairwise_append.1 hY
  have ha:∀x∈X1,∀y∈Y2,bH y x=false:=by
   intro x hx y hy;have p1:=List.length_pos_of_mem hx;have p2:=List.length_pos_of_mem hy;obtain⟨x0,hx0⟩:∃x0,X1[X1.length-1]? =some x0:=⟨_,cI (by omega)⟩
   obtain⟨y0,hy0⟩:∃y0,Y2[0]? =some y0:=⟨_,cI p2⟩
   have hq:=b3 (by omega) x0 y0 (by rw[fE (by omega),show s-1-P.length=X1.length-1 by omega];exact hx0) (by rw[fV (by omega),show k-s-Y1.length=0 by omega];exact hy0);have g1:=Pv (x:=y0) LG (λz hz=>by rw[List.getLast?_eq_getElem?,hx0]at hz;cases hz;exact hq);exact Pm (x:=x) LJ (λz hz=>by rw[List.head?_eq_getElem?,hy0]at hz;cases hz;exact g1 x hx) y hy
  have hb:∀y∈Y1,∀x∈X2,bH y x=true:=by
   intro y hy x hx;have p1:=List.length_pos_of_mem hx;have p2:=List.length_pos_of_mem hy;obtain⟨x0,hx0⟩:∃x0,X2[0]? =some x0:=⟨_,cI p1⟩
   obtain⟨y0,hy0⟩:∃y0,Y1[Y1.length-1]? =some y0:=⟨_,cI (by omega)⟩
   have hq:=b4 (by omega) x0 y0 (by rw[fV (by omega),show s-P.length-X1.length=0 by omega];exact hx0) (by rw[fE (by omega),show k-1-s=Y1.length-1 by omega];exact hy0);have g1:=Pw (x:=x0) LI (λz hz=>by rw[List.getLast?_eq_getElem?,hy0]at hz;cases hz;exact hq);exact Pn (x:=y) LH (λz hz=>by rw[List.head?_eq_getElem?,hx0]at hz;cases hz;exact g1 y hy) x hx
  have hP:P++(X1++X2)++(Y1++Y2)++Q=P++X1++X2++Y1++(Y2++Q):=by simp
  have hs2:P.length+X1.length=s:=by omega
  have hk2:P.length+X1.length+Y1.length=k:=by omega
  obtain⟨W2,FH⟩:∃W2,W2=W.set id (bE g (P++X1++Y1++(X2++Y2++Q))):=⟨_,rfl⟩
  have hg2:W2[id]? =some (bE g (P++X1++Y1++(X2++Y2++Q))):=by rw[FH];exact lM h _
  have acq:(bif decide (s<P.length+(X1.length+X2.length)∧P.length+(X1.length+X2.length)<k+(P.length+(X1.length+X2.length)) -s)then((A1 [bC id g N,nI s,nI (P.length+(X1.length+X2.length)),nI (k+(P.length+(X1.length+X2.length)) -s),f] W).bind λacC=>some (([]:an),acC.2))else some (([]:an),W))=some (([]:an),W2):=by
   by_cases hq:s<P.length+(X1.length+X2.length)∧P.length+(X1.length+X2.length)<k+(P.length+(X1.length+X2.length)) -s
   ·rw[eY hq,bG];have:=YM (id:=id) (g:=g) (W:=W) (P:=P++X1) (X:=X2) (Y:=Y1) (Q:=Y2++Q) (by rw[←hP,hN];exact hl) (by omega) (by omega) (by rw[h,hP]) f;rw[←hP,hN,List.length_append,hs2,show s+X2.length=P.length+(X1.length+X2.length) by omega,show P.length+(X1.length+X2.length)+Y1.length=k+(P.length+(X1.length+X2.length)) -s by omega]at this;rw[this,bS,FH];simp
   ·rw[dL hq,aV,FH]
    have:P++X1++Y1++(X2++Y2++Q)=P++(X1++X2)++(Y1++Y2)++Q:=by
     by_cases c:X2.length=0
     ·rw[List.length_eq_zero_iff.1 c];simp
     ·rw[List.length_eq_zero_iff.1 (show Y1.length=0 by omega)];simp
    rw[this,nT h]
  obtain⟨Z1,z1,z2,z3,fP⟩:∃Z1,dM Z1∧cE Z1 (X1++Y1)∧Z1.length=X1.length+Y1.length∧(bif decide (P.length<s∧s<k)then((fuel (zc dyn) (n+(F+1)) 106 [bC id g N,nI P.length,nI s,nI k,f] W2).bind λwq=>some (([]:an),wq.2))else some (([]:an),W2))=some (([]:an),W2.set id (bE g (P++Z1++(X2++Y2++Q)))):=by
   by_cases hq:P.length<s∧s<k
   ·obtain⟨Z,w1,w2,w3,w4⟩:=ih P X1 Y1 (X2++Y2++Q) W2 n (by rw[←oz];simp;omega) hg2 LG LI (λe=>by rw[e]at hX1;simp at hX1;omega) (λe=>by rw[e]at CK;simp at CK;omega) (by rw[Nat.pow_succ]at hs;omega);rw[hs2,show s+Y1.length=k by omega]at w4;refine⟨Z,w1,w2,w3,?_⟩;rw[eY hq,bG];refine(congrArg (Option.bind · _) w4).trans ?_;rw[bS]
   ·refine⟨X1++Y1,?_,cE.refl _,List.length_append,?_⟩
    ·by_cases c:X1.length=0
     ·rw[List.length_eq_zero_iff.1 c];exact LI
     ·rw[List.length_eq_zero_iff.1 (show Y1.length=0 by omega),List.append_nil];exact LG
    ·rw[dL hq,aV,show P++(X1++Y1)++(X2++Y2++Q)=P++X1++Y1++(X2++Y2++Q) by simp,nT hg2]
  obtain⟨W3,KR⟩:∃W3,W3=W2.set id (bE g (P++Z1++(X2++Y2++Q))):=⟨_,rfl⟩
  have hg3:W3[id]? =some (bE g (P++Z1++X2++Y2++Q)):=by rw[KR,lM hg2];simp
  rw[←KR]at fP
  obtain⟨Z2,v1,v2,v3,pK⟩:∃Z2,dM Z2∧cE Z2 (X2++Y2)∧Z2.length=X2.length+Y2.length∧(bif decide (k<k+(P.length+(X1.length+X2.length)) -s∧k+(P.length+(X1.length+X2.length)) -s<P.length+(X1.length+X2.length)+(Y1.length+Y2.length))then((fuel (zc dyn) (n+(F+1)) 106 [bC id g N,nI k,nI (k+(P.length+(X1.length+X2.length)) -s),nI (P.length+(X1.length+X2.length)+(Y1.length+Y2.length)),f] W3).bind λwq=>some (([]:an),wq.2))else some (([]:an),W3))=some (([]:an),W3.set id (bE g (P++Z1++Z2++Q))):=by
   have hkz:(P++Z1).length=k:=by rw[List.length_append,z3];omega
   by_cases hq:k<k+(P.length+(X1.length+X2.length)) -s∧k+(P.length+(X1.length+X2.length)) -s<P.length+(X1.length+X2.length)+(Y1.length+Y2.length)
   ·obtain⟨Z,w1,w2,w3,w4⟩:=ih (P++Z1) X2 Y2 Q W3 n (by rw[←oz];simp only[List.length_append,z3];omega) hg3 LH LJ (λe=>by rw[e]at hq;simp at hq;omega) (λe=>by rw[e]at hq;simp at hq;omega) (by rw[Nat.pow_succ]at hs;omega);rw[hkz,show k+X2.length=k+(P.length+(X1.length+X2.length)) -s by omega,show k+(P.length+(X1.length+X2.length)) -s+Y2.length=P.length+(X1.length+X2.length)+(Y1.length+Y2.length) by omega]at w4;refine⟨Z,w1,w2,w3,?_⟩;rw[eY hq,bG];refine(congrArg (Option.bind · _) w4).trans ?_;rw[bS]
   ·refine⟨X2++Y2,?_,cE.refl _,List.length_append,?_⟩
    ·by_cases c:X2.length=0
     ·rw[List.length_eq_zero_iff.1 c];exact LJ
     ·rw[List.length_eq_zero_iff.1 (show Y2.length=0 by omega),List.append_nil];exact LH
    ·rw[dL hq,aV,show P++Z1++(X2++Y2)++Q=P++Z1++X2++Y2++Q by simp,nT hg3]
  obtain⟨m1,m2⟩:=IE hX hY ha hb z1 v1 z2 v2;refine⟨Z1++Z2,m1,m2,by rw[List.length_append,z3,v3];omega,?_⟩;refine(congrArg (Option.bind · _) q8).trans ?_;rw[bS];simp only[fB,ji];rw[E3 (by omega) (by omega),bS];refine(congrArg (Option.bind · _) b5).trans ?_;rw[bS];simp only[jF,fB,ji];rw[n9 (by omega) (by omega),bS,iH,bS,IU _ _ _ _ _ _ _ (iH _ _),acq,bS,iH,bS,IU _ _ _ _ _ _ _ (iH _ _),fP,bS,iH,bS,IU _ _ _ _ _ _ _ (iH _ _),pK,bS,KR,FH,List.set_set,List.set_set,kP P]
end
end
section
set_option maxRecDepth 100000
theorem Q7{a:Nat}(h:a<2000000000000):A.mul (.int .i64 2) (.int .i64 (a:Int))=some (.int .i64 ((2*a:Nat):Int)):=by rw[Fe,dK (by unfold aZ;omega)];rfl
theorem aaK{a:Nat}(h:a<2000000000000):A.mul (.int .i64 (a:Int)) (.int .i64 2)=some (.int .i64 ((2*a:Nat):Int)):=by rw[Fe,dK (by unfold aZ;omega),Int.mul_comm];rfl
structure Kp (bs : Nat) (L : List (List aA)) (R : List aA) : Prop where
 b:∀x∈L,x.length=bs∧dM x
 r:R.length<bs∧dM R
theorem Ei{bs:Nat}{L:List (List aA)}(h:∀x∈L,x.length=bs∧dM x):L.flatten.length=L.length*bs:=by
 induction L with
 |nil=>simp
 |cons x L ih=>rw[List.flatten_cons,List.length_append,ih (λy hy=>h y (by simp [hy])),(h x (by simp)).1,List.length_cons,Nat.succ_mul];omega
theorem IY{D:List (List aA)}{Z:List aA}:(D++[Z]).flatten=D.flatten++Z:=by simp
theorem EL{D:List (List aA)}{Z:List aA}{m:Nat}(h:Z.length=m):(D++[Z]).flatten.length=D.flatten.length+m:=by rw[IY,List.length_append,h]
theorem ou{α β:Type}{x y:Option α}(h:x=y)(f:α→Option β):x.bind f=y.bind f:=by rw[h]
section
variable {dyn : Nat → an → Heap → az} {f : AV} {id g N : Nat}
theorem RW(hc:qm dyn f)(hl:N<1000000000000){P X Y Q:List aA}{W:Heap}(hN:(P++X++Y++Q).length=N)(h:W[id]? =some (bE g (P++X++Y++Q)))(hX:dM X)(hY:dM Y)(nX:X≠[])(nY:Y≠[]):
  ∃Z,dM Z∧cE Z (X++Y)∧Z.length=X.length+Y.length∧rX dyn [bC id g N,nI P.length,nI (P.length+X.length),nI (P.length+X.length+Y.length),f] W=some (.aD [],W.set id (bE g (P++Z++Q))):=by
 have hs:X.length+Y.length≤2 ^ 40:=by
  have:P.length+X.length+Y.length+Q.length=N:=by rw[←hN];simp;omega
  have:(1000000000000:Nat)≤2 ^ 40:=by decide
  omega
 obtain⟨Z,h1,h2,h3,h4⟩:=aa4 hc hl 40 P X Y Q W 1999959 hN h hX hY nX nY hs;refine⟨Z,h1,h2,h3,?_⟩;have e:(1999959+40+1:Nat)=2000000:=rfl;rw[e]at h4;exact h4
theorem YS(hc:qm dyn f)(hl:N<1000000000000){O:List aA}{W:Heap}(hN:O.length=N)(h:W[id]? =some (bE g O)):
  ∃D T:List (List aA),∃R:List aA,(∀x∈D,x.length=20∧dM x)∧R.length<20∧cE (D.flatten++R) O∧(D.flatten++R).length=N∧∃b,A.loop ((λv1 s2=>
   (A.leq (aj v1 1) (nI N)).bind λx4=>
   A.cond x4 (
    (tK dyn [(bC id g N),(aj v1 0),(aj v1 1),f] s2).bind λr5=>
    (A.add (aj v1 1) (AV.int .i64 20)).bind λx6=>
    some (AX.normal,[(aj v1 1),x6],r5.2)) (
    some (AX.exit 0,[(aj v1 0),(aj v1 1)],s2)))) [.int .i64 0,.int .i64 20] W=some (.exit 0,[nI D.flatten.length,b],W.set id (bE g (D.flatten++R))):=by
 suffices hq:∃q,A.loop ((λv1 s2=>
   (A.leq (aj v1 1) (nI N)).bind λx4=>
   A.cond x4 (
    (tK dyn [(bC id g N),(aj v1 0),(aj v1 1),f] s2).bind λr5=>
    (A.add (aj v1 1) (AV.int .i64 20)).bind λx6=>
    some (AX.normal,[(aj v1 1),x6],r5.2)) (
    some (AX.exit 0,[(aj v1 0),(aj v1 1)],s2)))) [.int .i64 0,.int .i64 20] W=some q∧∃D:List (List aA),∃R:List aA,(∀x∈D,x.length=20∧dM x)∧R.length<20∧cE (D.flatten++R) O∧(D.flatten++R).length=N∧∃b,q=(.exit 0,[nI D.flatten.length,b],W.set id (bE g (D.flatten++R))) by
  obtain⟨q,e,D,R,h1,h2,h3,h4,b,rfl⟩:=hq;exact⟨D,[],R,h1,h2,h3,h4,b,e⟩
 refine nN (λz u w=>∃D:List (List aA),∃R:List aA,(∀x∈D,x.length=20∧dM x)∧cE (D.flatten++R) O∧(D.flatten++R).length=N∧z=R.length∧u=[nI D.flatten.length,nI (D.flatten.length+20)]∧w=W.set id (bE g (D.flatten++R))) ?_ (n:=O.length) ⟨[],O,by simp,cE.refl _,hN,rfl,rfl,by rw[List.flatten_nil,List.nil_append,nT h]⟩;rintro z u w ⟨D,R,h1,h2,h3,rfl,rfl,rfl⟩;have h3':D.flatten.length+R.length=N:=by rw[←h3,List.length_append]
 simp only[fB,ji];rw[RR,bS];by_cases hq:D.flatten.length+20≤N
 ·obtain⟨R1,R2,rfl,hR1⟩:=Jb (l:=R) 20 (by omega);rw[List.length_append]at h3';rw[eY hq,fI];obtain⟨Z,z1,z2,z3,z4⟩:=MJ (W:=W.set id (bE g (D.flatten++(R1++R2)))) (g:=g) (id:=id) hc (P:=D.flatten) (O:=R1) (Q:=R2) (by rw[kP];exact h3) hl (by rw[lM h];simp);rw[hR1]at z4 z3;rw[z4,bS];simp only;rw[show A.add (nI (D.flatten.length+20)) (.int .i64 20)=some (.int .i64 ((D.flatten.length+20+20:Nat):Int))from qY (b:=20) (by omega),bS];refine .inl ⟨R2.length,_,_,by simp;omega,rfl,D++[Z],R2,λx hx=>?_,?_,?_,rfl,?_,?_⟩
  ·rcases eN.1 hx with e|e
   ·exact h1 x e
   ·rw[List.mem_singleton.1 e];exact⟨z3,z1⟩
  ·refine cE.trans ?_ h2;have:=(cE.refl D.flatten).app (z2.app (cE.refl R2));simpa using this
  ·rw[List.length_append,EL z3];omega
  ·rw[EL z3]
  ·rw[List.set_set,IY]
 ·rw[dL hq,dY];exact .inr ⟨_,rfl,by simp,D,R,h1,by omega,h2,h3,_,rfl⟩
theorem aaa(hc:qm dyn f)(hl:N<1000000000000){bs:Nat}(hb0:0<bs)(hbN:bs<N){L0:List (List aA)}{R O:List aA}{W:Heap}(hB:Kp bs L0 R)(hS:cE (L0.flatten++R) O)(hN:(L0.flatten++R).length=N)(h:W[id]? =some (bE g (L0.flatten++R))):
  ∃D T:List (List aA),(∀x∈D,x.length=2*bs∧dM x)∧(∀x∈T,x.length=bs∧dM x)∧T.length≤1∧cE (D.flatten++T.flatten++R) O∧(D.flatten++T.flatten++R).length=N∧∃b,A.loop ((λe8 rN=>
       (A.leq (aj e8 1) (nI N)).bind λbW=>
       A.cond bW (
        (A.add (aj e8 0) (nI bs)).bind λbN=>
        (rX dyn [(bC id g N),(aj e8 0),bN,(aj e8 1),f] rN).bind λeE=>
        (A.mul (AV.int .i64 2) (nI bs)).bind λdw=>
        (A.add (aj e8 1) dw).bind λbX=>
        some (AX.normal,[(aj e8 1),bX],eE.2)) (
        some (AX.exit 4,[(aj e8 0),(aj e8 1)],rN)))) [.int .i64 0,nI (2*bs)] W=some (.exit 4,[nI D.flatten.length,b],W.set id (bE g (D.flatten++T.flatten++R))):=by
 suffices hq:∃q,A.loop ((λe8 rN=>
       (A.leq (aj e8 1) (nI N)).bind λbW=>
       A.cond bW (
        (A.add (aj e8 0) (nI bs)).bind λbN=>
        (rX dyn [(bC id g N),(aj e8 0),bN,(aj e8 1),f] rN).bind λeE=>
        (A.mul (AV.int .i64 2) (nI bs)).bind λdw=>
        (A.add (aj e8 1) dw).bind λbX=>
        some (AX.normal,[(aj e8 1),bX],eE.2)) (
        some (AX.exit 4,[(aj e8 0),(aj e8 1)],rN)))) [.int .i64 0,nI (2*bs)] W=some q∧∃D T:List (List aA),(∀x∈D,x.length=2*bs∧dM x)∧(∀x∈T,x.length=bs∧dM x)∧T.length≤1∧cE (D.flatten++T.flatten++R) O∧(D.flatten++T.flatten++R).length=N∧∃b,q=(.exit 4,[nI D.flatten.length,b],W.set id (bE g (D.flatten++T.flatten++R))) by
  obtain⟨q,e,D,T,h1,h2,h3,h4,h5,b,rfl⟩:=hq;exact⟨D,T,h1,h2,h3,h4,h5,b,e⟩
 refine nN (λz u w=>∃D T:List (List aA),(∀x∈D,x.length=2*bs∧dM x)∧(∀x∈T,x.length=bs∧dM x)∧cE (D.flatten++T.flatten++R) O∧(D.flatten++T.flatten++R).length=N∧z=T.length∧u=[nI D.flatten.length,nI (D.flatten.length+2*bs)]∧w=W.set id (bE g (D.flatten++T.flatten++R))) ?_ (n:=L0.length) ⟨[],L0,by simp,hB.b,by simpa using hS,by simpa using hN,rfl,by simp,by rw[List.flatten_nil,List.nil_append,nT h]⟩;rintro z u w ⟨D,T,h1,h2,h3,h4,rfl,rfl,rfl⟩;have h4':D.flatten.length+T.length*bs+R.length=N:=by rw[←h4,List.length_append,List.length_append,Ei h2]
 have hr:=hB.r.1;simp only[fB,ji];rw[RR,bS];rcases T with _|⟨x,_|⟨y,T⟩⟩
 ·rw[dL (by simp only[List.length_nil,Nat.zero_mul]at h4';omega),dY];exact .inr ⟨_,rfl,by simp,D,[],h1,by simp,by simp,h3,h4,_,rfl⟩
 ·rw[dL (by simp only[List.length_cons,List.length_nil,Nat.zero_add,Nat.one_mul]at h4';omega),dY];exact .inr ⟨_,rfl,by simp,D,[x],h1,h2,by simp,h3,h4,_,rfl⟩
 ·have hx:=h2 x (by simp);have hy:=h2 y (by simp);have ht:∀z∈T,z.length=bs∧dM z:=λz hz=>h2 z (by simp [hz])
  rw[List.length_cons,List.length_cons,Nat.succ_mul,Nat.succ_mul]at h4';rw[eY (by omega),fI,qY (by omega),bS];have eL:D.flatten++(x::y::T).flatten++R=D.flatten++x++y++(T.flatten++R):=by simp
  obtain⟨Z,z1,z2,z3,z4⟩:=RW (W:=W.set id (bE g (D.flatten++(x::y::T).flatten++R))) (g:=g) (id:=id) hc hl (P:=D.flatten) (X:=x) (Y:=y) (Q:=T.flatten++R) (by rw[←eL];exact h4) (by rw[lM h,eL]) hx.2 hy.2 (λe=>by rw[e]at hx;simp at hx;omega) (λe=>by rw[e]at hy;simp at hy;omega);rw[hx.1,hy.1]at z3 z4;rw[show D.flatten.length+bs+bs=D.flatten.length+2*bs by omega]at z4;rw[z4,bS,Q7 (by omega),bS,qY (by omega),bS];have Tq:Z.length=2*bs:=by omega
  refine .inl ⟨T.length,_,_,by simp only[List.length_cons];omega,rfl,D++[Z],T,λu hu=>?_,ht,?_,?_,rfl,?_,?_⟩
  ·rcases eN.1 hu with e|e
   ·exact h1 u e
   ·rw[List.mem_singleton.1 e];exact⟨by omega,z1⟩
  ·refine cE.trans ?_ h3;have:=(cE.refl D.flatten).app (z2.app (cE.refl (T.flatten++R)));simpa using this
  ·rw[List.length_append,List.length_append,EL Tq,Ei ht];omega
  ·rw[EL Tq]
  ·rw[List.set_set,IY];simp
theorem Z9(hc:qm dyn f)(hl:N<1000000000000){bs:Nat}(hb0:0<bs)(hbN:bs<N){D T:List (List aA)}{R O:List aA}{W:Heap}(h1:∀x∈D,x.length=2*bs∧dM x)(h2:∀x∈T,x.length=bs∧dM x)(h3:T.length≤1)(hR:R.length<bs∧dM R)(hS:cE (D.flatten++T.flatten++R) O)(hN:(D.flatten++T.flatten++R).length=N)(h:W[id]? =some (bE g (D.flatten++T.flatten++R))):
  ∃R2,Kp (2*bs) D R2∧cE (D.flatten++R2) O∧(D.flatten++R2).length=N∧A.cond (.bool (decide (D.flatten.length+bs<N))) ((rX dyn [bC id g N,nI D.flatten.length,nI (D.flatten.length+bs),nI N,f] W).bind λgW=>some (([]:an),gW.2)) (some (([]:an),W))=some (([]:an),W.set id (bE g (D.flatten++R2))):=by
 have h4':D.flatten.length+T.length*bs+R.length=N:=by rw[←hN,List.length_append,List.length_append,Ei h2]
 rcases T with _|⟨x,_|⟨y,T⟩⟩
 ·simp only[List.length_nil,Nat.zero_mul]at h4';refine⟨R,⟨h1,by omega,hR.2⟩,by simpa using hS,by rw[List.length_append];omega,?_⟩;rw[dL (by omega),dY];rw[show D.flatten++([]:List (List aA)).flatten++R=D.flatten++R by simp]at h;rw[nT h]
 ·simp only[List.length_cons,List.length_nil,Nat.zero_add,Nat.one_mul]at h4';have hx:=h2 x (by simp);have eL:D.flatten++[x].flatten++R=D.flatten++x++R++[]:=by simp
  by_cases hr:R=[]
  ·subst hr;refine⟨x,⟨h1,by omega,hx.2⟩,by simpa using hS,by rw[List.length_append,hx.1];simp only[List.length_nil]at h4';omega,?_⟩;simp only[List.length_nil]at h4';rw[dL (by omega),dY];rw[show D.flatten++[x].flatten++([]:List aA)=D.flatten++x by simp]at h;rw[nT h]
  ·have hrl:=List.length_pos_iff.2 hr;obtain⟨Z,z1,z2,z3,z4⟩:=RW hc hl (P:=D.flatten) (X:=x) (Y:=R) (Q:=[]) (by rw[←eL];exact hN) (by rw[h,eL]) hx.2 hR.2 (λe=>by rw[e]at hx;simp at hx;omega) hr;rw[hx.1]at z4 z3;rw[show D.flatten.length+bs+R.length=N by omega]at z4;refine⟨Z,⟨h1,by omega,z1⟩,?_,by rw[List.length_append,z3];omega,?_⟩
   ·refine cE.trans ((cE.refl D.flatten).app z2) ?_;simpa using hS
   ·rw[eY (by omega),fI,z4,bS,List.append_nil]
 ·simp at h3
theorem To{r:AV→AV→AV→Heap→az}{a0 a1 a2:AV}{σ:Heap}{q:AV×Heap}(h:r a0 a1 a2 σ=some q):A.wrap false [] .k (A.oh r) [a0,a1,a2] σ=some q:=by show(r a0 a1 a2 σ).map _=_;rw[h];rfl
theorem Tn{r:AV→AV→Heap→az}{a0 a1:AV}{σ:Heap}{q:AV×Heap}(h:r a0 a1 σ=some q):A.wrap false [] .k (A.dU r) [a0,a1] σ=some q:=by show(r a0 a1 σ).map _=_;rw[h];rfl
theorem YT(hc:qm dyn f)(hl:N<1000000000000){O:List aA}{W:Heap}(hN:O.length=N)(h:W[id]? =some (bE g O)):
  ∃Z,dM Z∧cE Z O∧Z.length=N∧ze dyn [bC id g N,f] W=some (.aD [],W.set id (bE g Z)):=by
 suffices hr:∃Z,dM Z∧cE Z O∧Z.length=N∧A2 dyn [bC id g N,nI N,f] W=some (.aD [],W.set id (bE g Z)) by obtain⟨Z,h1,h2,h3,h4⟩:=hr;refine⟨Z,h1,h2,h3,Tn ?_⟩;unfold Dp;rw[show A.br (bC id g N)=some (nI N)from rfl,bS,h4,bS]
 obtain⟨D,_,R,d1,d2,d3,d4,b,d5⟩:=YS hc hl hN h;have Se:D.flatten.length+R.length=N:=by rw[←d4,List.length_append]
 obtain⟨R2,r1,r2,r3,r4⟩:=MJ (W:=W.set id (bE g (D.flatten++R))) (g:=g) (id:=id) hc (P:=D.flatten) (O:=R) (Q:=[]) (by rw[List.append_nil];exact d4) hl (by rw[lM h,List.append_nil]);rw[Se,List.append_nil,List.set_set]at r4;have r4':tK dyn [bC id g N,nI D.flatten.length,nI N,f] (W.set id (bE g (D.flatten++R)))=some (.aD [],W.set id (bE g (D.flatten++R2))):=r4
 obtain⟨q,hq,Z,u,z1,z2,z3,rfl⟩:∃q,A.loop ((λv9 C9=>
    (A.lss (aj v9 0) (nI N)).bind λbT=>
    A.cond bT (
     (A.mul (AV.int .i64 2) (aj v9 0)).bind λbJ=>
     (A.loop (λe8 rN=>
       (A.leq (aj e8 1) (nI N)).bind λbW=>
       A.cond bW (
        (A.add (aj e8 0) (aj v9 0)).bind λbN=>
        (rX dyn [(bC id g N),(aj e8 0),bN,(aj e8 1),f] rN).bind λeE=>
        (A.mul (AV.int .i64 2) (aj v9 0)).bind λdw=>
        (A.add (aj e8 1) dw).bind λbX=>
        some (AX.normal,[(aj e8 1),bX],eE.2)) (
        some (AX.exit 4,[(aj e8 0),(aj e8 1)],rN))) [fC,bJ] C9).bind λiM=>
     bif iM.1==AX.exit 4 then(
      (A.add (aj iM.2.1 0) (aj v9 0)).bind λdX=>
      (A.lss dX (nI N)).bind λx24=>
      (A.cond x24 (
       (rX dyn [(bC id g N),(aj iM.2.1 0),dX,(nI N),f] iM.2.2).bind λgW=>
       some (([]:an),gW.2)) (
       some (([]:an),iM.2.2))).bind λpM=>
      (A.mul (aj v9 0) (AV.int .i64 2)).bind λcg=>
      some (AX.normal,[cg],pM.2))else
     none) (
     some (AX.exit 2,[(aj v9 0)],C9)))) [.int .i64 20] (W.set id (bE g (D.flatten++R2)))=some q∧∃Z u,dM Z∧cE Z O∧Z.length=N∧q=(.exit 2,u,W.set id (bE g Z)):=by
  refine nN (λz u w=>∃(bs:Nat)(L:List (List aA))(T:List aA),0<bs∧Kp bs L T∧cE (L.flatten++T) O∧(L.flatten++T).length=N∧z=N-bs∧u=[nI bs]∧w=W.set id (bE g (L.flatten++T))) ?_ (n:=N-20) ⟨20,D,R2,by omega,⟨d1,by omega,r1⟩,((cE.refl _).app r2).trans d3,by rw[List.length_append,r3];exact Se,rfl,rfl,rfl⟩;rintro z u w ⟨bs,L,T,hb,hB,hS,hn,rfl,rfl,rfl⟩;have hn':L.length*bs+T.length=N:=by rw[←hn,List.length_append,Ei hB.b]
  simp only[fB];rw[iH,bS];by_cases hlt:bs<N
  ·rw[eY hlt,fI];obtain⟨D',T',p1,p2,p3,p4,p5,b',p6⟩:=aaa (W:=W.set id (bE g (L.flatten++T))) (g:=g) (id:=id) hc hl hb hlt hB hS hn (lM h _);obtain⟨R',q1,q2,q3,q4⟩:=Z9 (W:=W.set id (bE g (D'.flatten++T'.flatten++T))) (g:=g) (id:=id) hc hl hb hlt p1 p2 p3 hB.r p4 p5 (lM h _);rw[List.set_set]at p6 q4;have hd':D'.flatten.length≤N:=by rw[←q3,List.length_append];omega
   refine .inl ⟨N-2*bs,[nI (2*bs)],W.set id (bE g (D'.flatten++R')),by omega,?_,2*bs,D',R',by omega,q1,q2,q3,rfl,rfl,rfl⟩;refine(ou (Q7 (by omega)) _).trans ?_;rw[bS];refine(ou p6 _).trans ?_;rw[bS];simp only[jF,fB];rw[qY (by omega),bS,iH,bS];refine(ou q4 _).trans ?_;rw[bS,aaK (by omega),bS]
  ·rw[dL hlt,dY];refine .inr ⟨_,rfl,by simp,L.flatten++T,_,?_,hS,hn,rfl⟩;have hbT:=hB.r;rcases L with _|⟨x,_|⟨y,L⟩⟩
   ·exact hbT.2
   ·simp only[List.length_cons,List.length_nil,Nat.zero_add,Nat.one_mul]at hn';rw[List.length_eq_zero_iff.1 (show T.length=0 by omega)];simpa using(hB.b x (by simp)).2
   ·rw[List.length_cons,List.length_cons,Nat.succ_mul,Nat.succ_mul]at hn';omega
 refine⟨Z,z1,z2,z3,To ?_⟩;unfold Dq;refine(ou d5 _).trans ?_;rw[bS];simp only[jF,fB];rw[r4',bS];refine(ou hq _).trans ?_;rw[bS];simp only[jF]
end
end
section
set_option maxRecDepth 100000
noncomputable def zk (a0:aS) (a1:aS):Option Int:=
 if ¬(a0.unit=a1.unit)then
  if a0.unit<a1.unit then
   some (-1)
  else
  some 1
 else
 some (Lib.compareBytes a0.param.data.toList a1.param.data.toList)
theorem UO{a0:aS}{a1:aS}{σ:Heap}{r:Int}(h:zk a0 a1=some r):Gz [(AV.agg (cu a0)),(AV.agg (cu a1))] σ=some ((AV.ah r),σ):=by
 refine Eo (f:=GB) (y0:=(AV.agg (cu a0))) (y1:=(AV.agg (cu a1))) (enc:=λr:Int=>(AV.ah r)) (T:=zk a0 a1) rfl rfl ?_ r h;unfold GB zk;refine aF _ rfl<|aF _ rfl<|aF _ rfl<|aF _ rfl<|aF _ (uI _ _ _) ?_;refine oc (p:=¬(a0.unit=a1.unit)) (λc2=>?_) (λc2=>?_)
 ·refine aF _ rfl<|aF _ rfl<|aF _ rfl ?_;refine oc (p:=a0.unit<a1.unit) (λc1=>?_) (λc1=>?_)
  ·exact fu _ (ff _ _) ⟨rfl,rfl⟩
  exact fu _ (ff _ _) ⟨rfl,rfl⟩
 refine aF _ rfl<|aF _ rfl<|aF _ rfl ?_;exact fu _ (ff _ _) ⟨rfl,rfl⟩
noncomputable def DD (a0:aA) (a1:aA):Option Int:=(zk a0.key a1.key).bind λr1=>some r1
theorem Us{a0:aA}{a1:aA}{σ:Heap}{r:Int}(h:DD a0 a1=some r):tM [(AV.agg (aH a0)),(AV.agg (aH a1))] σ=some ((AV.ah r),σ):=by refine Eo (f:=Gu) (y0:=(AV.agg (aH a0))) (y1:=(AV.agg (aH a1))) (enc:=λr:Int=>(AV.ah r)) (T:=DD a0 a1) rfl rfl ?_ r h;unfold Gu DD;refine aF _ rfl<|aF _ rfl<|aF _ rfl<|aF _ rfl ?_;refine ig (λr1:Int=>((AV.ah r1),σ)) (λr1 fP=>UO fP) (λr1 fP=>?_);exact fu _ (ff _ _) ⟨rfl,rfl⟩
end
section
open HP
section
variable {aL σ : Heap} {R : HP}
theorem aav{v v':AV}(H:Hs lJ aL σ R)(h:A.bP σ aL.length 8 v=some v')(hv:σ=aL→v'=v):A.fin aL v σ=some (v',aL):=by
 obtain⟨⟨bs,rfl,_⟩,_⟩:=H;by_cases rB:bs=[]
 ·subst rB;rw[List.append_nil]at h ⊢;rw[ff,hv (by simp)]
 ·unfold A.fin;rw[aI (by simpa using rB),aK (by simp),h];rfl
end
end
section
open HP
def Inv(k:Nat)(l:List uq):Prop:=l.length≤1000∧∀c∈l,RX c.E0∧c.E0.length≤2000+k
section
variable {aL σ : Heap} {R : HP}
end
end
section
open HP
def aaM(n:Int):uq:=⟨n,⟨#[]⟩,0,0,0,0,⟨1,[]⟩,false,-1,[]⟩
def newRow(n:Int):an:=abf (aaM n) .aN .aN
section
variable {aL σ : Heap} {R : HP}
end
end
section
open HP
section
variable {aL σ : Heap} {R : HP}
theorem IX{α:Type}{c:α→an}{sz:Nat}{B:bk→Prop}{v:AV}{l:List α}(hc:∀x,o9 (c x))(H:Hs B aL σ (Sl (fl c) sz v l*R)):∃v',A.fin aL v σ=some (v',aL)∧A.nn (.s sz) v'=sl sz c l:=by
 obtain⟨v',h1,h2,h3⟩:=aa2 H hc (ay _) 7;refine⟨v',aav (aaE H) h1 (λe=>?_),h3⟩;rcases Bz H with⟨rfl,rfl|rfl,_⟩|⟨id,g,rfl,K⟩
 ·simp [A.bP]at h1;rw[h1]
 ·simp [A.bP]at h1;rw[h1]
 ·obtain⟨k1,k2⟩:=sH K;have:=(bU.1 k2).1;subst e;omega
end
end
section
set_option maxRecDepth 100000
open HP
structure jd (l R : List aA) : Prop where
 tJ:R.Pairwise λx y=>bH x y=true
 mem:∀s,s∈R↔(fk s.key l).getLast? =some s
theorem jd.stS{l Z R:List aA}(h:jd Z R)(k:cE Z l):jd l R:=⟨h.tJ,λs=>by rw[h.mem,k]⟩
theorem OW:∀{R S:List aA},R.Pairwise (λx y=>bH x y=true)→S.Pairwise (λx y=>bH x y=true)→(∀s,s∈R↔s∈S)→R=S
 |[],[],_,_,_=>rfl
 |[],y::S,_,_,h=>by have:=(h y).2 (by simp);simp at this
 |x::R,[],_,_,h=>by have:=(h x).1 (by simp);simp at this
 |x::R,y::S,hR,hS,h=>by
  obtain⟨r1,r2⟩:=List.pairwise_cons.1 hR;obtain⟨s1,s2⟩:=List.pairwise_cons.1 hS;have Lg:∀z,bH z z≠true:=λz e=>tY e rfl
  have e:x=y:=by
   rcases eM.1 ((h x).1 (by simp))with e|e
   ·exact e
   ·rcases eM.1 ((h y).2 (by simp))with e'|e'
    ·exact e'.symm
    ·exact absurd (EP (s1 x e) (r1 y e')) (Lg y)
  subst e;rw[OW r2 s2 λs=>⟨λq=>?_,λq=>?_⟩]
  ·rcases eM.1 ((h s).1 (by simp [q]))with e|e
   ·subst e;exact absurd (r1 s q) (Lg s)
   ·exact e
  ·rcases eM.1 ((h s).2 (by simp [q]))with e|e
   ·subst e;exact absurd (s1 s q) (Lg s)
   ·exact e
theorem jd.uniq{l R S:List aA}(h:jd l R)(k:jd l S):R=S:=OW h.tJ k.tJ λs=>by rw[h.mem,k.mem]
def uY(x:aA):List aA→Prop
 |[]=>True
 |y::_=>¬(y.key=x.key)
instance (x : aA) (l : List aA) : Decidable (uY x l) := by cases l <;> unfold uY <;> infer_instance
def kl:List aA→List aA
 |[]=>[]
 |x::t=>(if uY x t then[x]else[])++kl t
theorem Qi:∀{l:List aA}{s},s∈kl l→s∈l
 |x::t,s,h=>by
  unfold kl at h;rcases eN.1 h with e|e
  ·split at e
   ·rw[List.mem_singleton.1 e];simp
   ·simp at e
  ·exact um _ (Qi e)
theorem Pu:∀{Z:List aA},dM Z→jd Z (kl Z)
 |[],_=>⟨List.Pairwise.nil,λs=>by simp [kl]⟩
 |x::t,h=>by
  obtain⟨h1,h2⟩:=List.pairwise_cons.1 h;have ih:=Pu h2;by_cases hk:uY x t
  ·have hlt:∀y∈t,bH x y=true:=by
    cases t with
    |nil=>simp
    |cons y t=>
     have hne:¬(y.key=x.key):=hk
     have hxy:bH x y=true:=by
      cases q:bH x y with
      |true=>rfl
      |false=>exact absurd (I4 (h1 y (by simp)) q) hne
     intro z hz;rcases eM.1 hz with rfl|e
     ·exact hxy
     ·exact RO hxy ((List.pairwise_cons.1 h2).1 z e)
   have e:kl (x::t)=x::kl t:=by show(if uY x t then[x]else[])++kl t=_;rw[aK hk];rfl
   rw[e];refine⟨List.pairwise_cons.2 ⟨λy hy=>hlt y (Qi hy),ih.tJ⟩,λs=>?_⟩
   have hf:fk s.key (x::t)=if x.key=s.key then[x]else fk s.key t:=by
    show(x::t).filter _=_;rw[List.filter_cons];by_cases q:x.key=s.key
    ·rw[aK (by simpa using q),aK q]
     have:t.filter (λz=>decide (z.key=s.key))=[]:=by rw[List.filter_eq_nil_iff];intro y hy e;exact tY (hlt y hy) (by rw[q,of_decide_eq_true e])
     rw[this]
    ·rw[aI (by simpa using q),aI q]
   rw[hf,eM,ih.mem];by_cases q:x.key=s.key
   ·rw[aK q];constructor
    ·rintro(rfl|e)
     ·rfl
     ·have:s∈fk s.key t:=List.mem_of_getLast? e;exact absurd (by rw[q]) (tY (hlt s (List.mem_filter.1 this).1))
    ·intro e;left;simpa using e.symm
   ·rw[aI q];exact⟨λo=>o.resolve_left λe=>q (by rw[e]),.inr⟩
  ·cases t with
   |nil=>exact absurd trivial hk
   |cons y t=>
    have hy:y.key=x.key:=Classical.not_not.1 hk;have e:kl (x::y::t)=kl (y::t):=by show(if uY x (y::t)then[x]else[])++kl (y::t)=_;rw[aI hk];rfl
    rw[e];refine⟨ih.tJ,λs=>?_⟩;rw[ih.mem]
    have:(fk s.key (x::y::t)).getLast? =(fk s.key (y::t)).getLast? :=by
     show((x::y::t).filter _).getLast? =((y::t).filter _).getLast?;by_cases q:x.key=s.key
     ·have q':y.key=s.key:=by rw[hy,q]
      simp [List.filter_cons,q,q']
     ·have q':¬y.key=s.key:=by rw[hy];exact q
      simp [List.filter_cons,q,q']
    rw[this]
noncomputable abbrev Td : Nat → an → Heap → az := A.tab (fun _ _ => none) [(147, tM)]
theorem Yi(a b:aS):zk a b=some (Ac a b):=by
 unfold zk Ac;by_cases h:a.unit=b.unit
 ·simp [h]
 ·by_cases h2:a.unit<b.unit<;>simp [h,h2]
theorem aaT:qm Td (.fn 147 []):=λx y W=>by have:tM [.agg (aH x),.agg (aH y)] W=some (.int .i64 (Ac x.key y.key),W):=Us (by unfold DD;rw[Yi,bS]);have e:A.gZ Td (.fn 147 []) [.agg (aH x),.agg (aH y)] W=tM [.agg (aH x),.agg (aH y)] W:=rfl;rw[e,this];exact D0 _ _
theorem ZI(x:aA)(t:List aA):kl (x::t)=(if uY x t then[x]else[])++kl t:=rfl
theorem abC{aL σ:Heap}{R:HP}{v:AV}{l:List aA}(k:aA)(hl:l.length<1000000000)(H:Hs lJ aL σ (Sl (fl aH) 3 v l*R)):∃v' σ',A.append 3 (140737488355328 / 32) v (.sl 3 [aH k]) σ=some (v',σ')∧Hs lJ aL σ' (Sl (fl aH) 3 v' (l++[k])*R):=
 Qy (ys:=[aH k]) (xs:=[k]) (mF (show pr (aH k=aH k)*(Sl (fl aH) 3 v l*R)=_ by
  rw[show els (fl aH) [aH k] [k]=pr (aH k=aH k)*emp from rfl,Bs,zK];ac_rfl) (xD.2 ⟨rfl,H⟩)) (by simp;omega) (λ_ _ _ _=>trivial)
theorem Xz{id g n:Nat}{Z:List aA}{aL W:Heap}(hn:Z.length=n)(hl:n<1000000000){R:HP}(H:Hs lJ aL W (blk id (bE g Z)*R)):
  ∃v i W',A.loop ((λv4 s5=>
   (A.lss (aj v4 1) (AV.int .i64 (n:Int))).bind λx7=>
   A.cond x7 (
    (A.aM 3 (bC id g n) (aj v4 1)).bind λx8=>
    ((A.deref x8 s5).bind λc9=>A.aG 0 3 c9).bind λbf=>
    (A.cells 3 bf).bind λfW=>
    (A.bh 0 fW [fC,cv,fC]).bind λdG=>
    (A.add (aj v4 1) dH).bind λbJ=>
    (A.br (bC id g n)).bind λcq=>
    (A.eql .i bJ cq).bind λaW=>
    (A.guard aW false (some (bC id g n)) aq).bind λbK=>
    (A.guard aW false (some (aj v4 1)) aq).bind λbW=>
    (A.guard aW false (A.add bW dH) aq).bind λbN=>
    (A.guard aW false (A.aM 3 bK bN) aq).bind λcZ=>
    (A.guard aW false (A.ia 0 cZ) aq).bind λdw=>
    (A.guard aW false ((A.deref dw s5).bind λmj=>A.aG 0 2 mj) aq).bind λdc=>
    (A.guard aW false (A.aG 0 2 dG) aq).bind λdX=>
    (A.guard aW false (A.neq (.s [0,2]) dc dX) aq).bind λx24=>
    (A.pick aW ew x24).bind λx25=>
    (A.cond x25 (
     (A.aG 0 3 dG).bind λcg=>
     (((A.cells 3 cg).bind λmm=>(A.bh 0 mm [fC,cv,fC]).bind λpE=>some pE).bind λcs=>some (AV.sl 3 (je 3 1 cs))).bind λcG=>
     (A.append 3 (140737488355328 / 32) (aj v4 0) cG s5).bind λmX=>
     some ([mX.1],mX.2)) (
     some ([(aj v4 0)],s5))).bind λgW=>
    (A.add (aj v4 1) dH).bind λx32=>
    some (AX.normal,[(aj gW.1 0),x32],gW.2)) (
    some (AX.exit 0,[(aj v4 0),(aj v4 1)],s5)))) [.aN,.int .i64 0] W=some (.exit 0,[v,i],W')∧Hs lJ aL W' (Sl (fl aH) 3 v (kl Z)*(blk id (bE g Z)*R)):=by
 suffices hq:∃q,A.loop ((λv4 s5=>
   (A.lss (aj v4 1) (AV.int .i64 (n:Int))).bind λx7=>
   A.cond x7 (
    (A.aM 3 (bC id g n) (aj v4 1)).bind λx8=>
    ((A.deref x8 s5).bind λc9=>A.aG 0 3 c9).bind λbf=>
    (A.cells 3 bf).bind λfW=>
    (A.bh 0 fW [fC,cv,fC]).bind λdG=>
    (A.add (aj v4 1) dH).bind λbJ=>
    (A.br (bC id g n)).bind λcq=>
    (A.eql .i bJ cq).bind λaW=>
    (A.guard aW false (some (bC id g n)) aq).bind λbK=>
    (A.guard aW false (some (aj v4 1)) aq).bind λbW=>
    (A.guard aW false (A.add bW dH) aq).bind λbN=>
    (A.guard aW false (A.aM 3 bK bN) aq).bind λcZ=>
    (A.guard aW false (A.ia 0 cZ) aq).bind λdw=>
    (A.guard aW false ((A.deref dw s5).bind λmj=>A.aG 0 2 mj) aq).bind λdc=>
    (A.guard aW false (A.aG 0 2 dG) aq).bind λdX=>
    (A.guard aW false (A.neq (.s [0,2]) dc dX) aq).bind λx24=>
    (A.pick aW ew x24).bind λx25=>
    (A.cond x25 (
     (A.aG 0 3 dG).bind λcg=>
     (((A.cells 3 cg).bind λmm=>(A.bh 0 mm [fC,cv,fC]).bind λpE=>some pE).bind λcs=>some (AV.sl 3 (je 3 1 cs))).bind λcG=>
     (A.append 3 (140737488355328 / 32) (aj v4 0) cG s5).bind λmX=>
     some ([mX.1],mX.2)) (
     some ([(aj v4 0)],s5))).bind λgW=>
    (A.add (aj v4 1) dH).bind λx32=>
    some (AX.normal,[(aj gW.1 0),x32],gW.2)) (
    some (AX.exit 0,[(aj v4 0),(aj v4 1)],s5)))) [.aN,.int .i64 0] W=some q∧∃v i W',q=(.exit 0,[v,i],W')∧Hs lJ aL W' (Sl (fl aH) 3 v (kl Z)*(blk id (bE g Z)*R)) by
  obtain⟨q,e,v,i,W',rfl,h⟩:=hq;exact⟨v,i,W',e,h⟩
 refine nN (λz u w=>∃(i:Nat)(v:AV)(T:List aA),i≤n∧z=n-i∧u=[v,.int .i64 (i:Int)]∧T.length≤i∧T++kl (Z.drop i)=kl Z∧Hs lJ aL w (Sl (fl aH) 3 v T*(blk id (bE g Z)*R))) ?_ (n:=n) ⟨0,.aN,[],gU _,rfl,rfl,ay _,rfl,AW H (.inl rfl)⟩;rintro z u w ⟨i,v,T,hi,rfl,rfl,hT,hk,HK⟩;simp only[fB,ji];rw[iH,bS];obtain⟨_,hg⟩:=sH (mF (Q:=blk id (bE g Z)*(Sl (fl aH) 3 v T*R)) (by ac_rfl) HK);by_cases hlt:i<n
 ·have hd:Z.drop i=Z[i]'(by omega)::Z.drop (i+1):=List.drop_eq_getElem_cons (by omega)
  have hx:Z[i]? =some (Z[i]'(by omega)):=cI _
  generalize Z[i]'(by omega)=x at hd hx
  rw[eY hlt,fI,lp hlt,bS,nL hg hx,bS,rW,bS,show A.bh 0 (aH x) [fC,cv,fC]=some (aH x)from rfl,bS,oO (by omega),bS,show A.br (bC id g n)=some (.int .i64 (n:Int))from rfl,bS,uH,bS]
  have Jv:∀K:AV→Option LS,((A.guard (.bool (decide (((i+1:Nat):Int)=(n:Int)))) false (some (bC id g n)) (some (.aD []))).bind λbK=>(A.guard (.bool (decide (((i+1:Nat):Int)=(n:Int)))) false (some (.int .i64 (i:Int))) (some (.aD []))).bind λbW=>(A.guard (.bool (decide (((i+1:Nat):Int)=(n:Int)))) false (A.add bW (.int .i64 1)) (some (.aD []))).bind λbN=>(A.guard (.bool (decide (((i+1:Nat):Int)=(n:Int)))) false (A.aM 3 bK bN) (some (.aD []))).bind λcZ=>(A.guard (.bool (decide (((i+1:Nat):Int)=(n:Int)))) false (A.ia 0 cZ) (some (.aD []))).bind λdw=>(A.guard (.bool (decide (((i+1:Nat):Int)=(n:Int)))) false ((A.deref dw w).bind λmj=>A.aG 0 2 mj) (some (.aD []))).bind λdc=>(A.guard (.bool (decide (((i+1:Nat):Int)=(n:Int)))) false (A.aG 0 2 (aH x)) (some (.aD []))).bind λdX=>(A.guard (.bool (decide (((i+1:Nat):Int)=(n:Int)))) false (A.neq (.s [0,2]) dc dX) (some (.aD []))).bind λx24=>(A.pick (.bool (decide (((i+1:Nat):Int)=(n:Int)))) (.bool true) x24).bind K)=K (.bool (decide (uY x (Z.drop (i+1))))):=by
   intro K;by_cases hl:i+1=n
   ·rw[eY (show((i+1:Nat):Int)=(n:Int) by omega),List.drop_of_length_le (by omega)];simp only[gFx,bS,AT];rfl
   ·have hd2:Z.drop (i+1)=Z[i+1]'(by omega)::Z.drop (i+1+1):=List.drop_eq_getElem_cons (by omega)
    have hy:Z[i+1]? =some (Z[i+1]'(by omega)):=cI _
    generalize Z[i+1]'(by omega)=y at hd2 hy
    rw[dL (show ¬((i+1:Nat):Int)=(n:Int) by omega),hd2];rw[gF,bS,gF,bS,gF,oO (by omega),bS,gF,lp (by omega),bS,gF,show A.ia 0 (.oe id g (i+1) 0)=some (.oe id g (i+1) 0)from rfl,bS,gF]
    have hkr:((A.deref (.oe id g (i+1) 0) w).bind λc=>A.aG 0 2 c)=some (.agg (cu y.key)):=by simp only[A.deref,hg,if_true,Al,hy,eO,List.drop_zero];rfl
    rw[hkr,bS,gF,show A.aG 0 2 (aH x)=some (.agg (cu x.key))from rfl,bS,gF,aaL,bS,C4,bS];rfl
  rw[Jv];have hkc:=ZI x (Z.drop (i+1));rw[←hd]at hkc;by_cases hq:uY x (Z.drop (i+1))
  ·rw[aK hq]at hkc;rw[eY hq,fI,show A.aG 0 3 (aH x)=some (.agg (aH x))from rfl,bS,show(((A.cells 3 (.agg (aH x))).bind λmm=>(A.bh 0 mm [fC,cv,fC]).bind λpE=>some pE).bind λcs=>some (AV.sl 3 (je 3 1 cs)))=some (.sl 3 [aH x])from rfl,bS];obtain⟨v2,W2,f1,f2⟩:=abC x (by omega) HK;rw[f1,bS,bS];refine .inl ⟨n-(i+1),_,_,by omega,rfl,i+1,v2,T++[x],hlt,rfl,rfl,by simp;omega,?_,f2⟩;rw[←hk,hkc];simp
  ·rw[aI hq]at hkc;rw[dL hq,dY,bS];refine .inl ⟨n-(i+1),_,_,by omega,rfl,i+1,v,T,hlt,rfl,rfl,by omega,?_,HK⟩;rw[←hk,hkc];simp
 ·rw[dL hlt,dY];rw[show Z.drop i=[]from List.drop_of_length_le (by omega),show kl []=[]from rfl,List.append_nil]at hk;exact .inr ⟨_,rfl,by simp,v,_,w,rfl,by rw[←hk];exact HK⟩
theorem D5{f:an→Heap→Option LS}{v:an}{σ:Heap}{q:LS}(h:f v σ=some q)(hq:q.1≠.normal):A.loop f v σ=some q:=(vD h hq).elim λ_ h=>Bg h
theorem abQ{aL σ:Heap}{R:HP}{l:List aA}(hl:l.length≤1000000000)(H:Hs lJ aL σ R):∃v σ',Du [sl 3 aH l] σ=some (v,σ')∧A.cell v=some v∧Hs lJ aL σ' (Sl (fl aH) 3 v l*R):=
 Zf (most:=140737488355328 / 32) (r:=λ_ _=>none) rfl (λ_ _=>rfl) (by omega) (λ_ _ _ _=>trivial) H
theorem WV(dyn:Nat→an→Heap→az)(f:AV)(W:Heap){v:AV}(hv:v=.aN∨v=.ez):ze dyn [v,f] W=some (.aD [],W):=by
 refine Tn ?_;unfold Dp;rw[show A.br v=some (.int .i64 0) by rcases hv with rfl|rfl<;>rfl,bS]
 have hi:tK dyn [v,.int .i64 0,.int .i64 0,f] W=some (.aD [],W):=by refine Tp rfl ?_;unfold Dm;rw[show A.add (.int .i64 0) (.int .i64 1)=some (.int .i64 1)from qY (a:=0) (b:=1) (by omega),bS];refine(ou (D5 (q:=(.exit 0,[.int .i64 1],W)) (by rfl) (by simp)) _).trans ?_;rw[bS];simp only[jF]
 have hs:A2 dyn [v,.int .i64 0,f] W=some (.aD [],W):=by refine To ?_;unfold Dq;refine(ou (D5 (q:=(.exit 0,[.int .i64 0,.int .i64 20],W)) (by rfl) (by simp)) _).trans ?_;rw[bS];simp only[jF,fB];rw[hi,bS];refine(ou (D5 (q:=(.exit 2,[.int .i64 20],W)) (by rfl) (by simp)) _).trans ?_;rw[bS];simp only[jF]
 rw[hs,bS]
theorem YQ{l:List aA}(hl:l.length≤900000)(σ:Heap):∃R,jd l R∧DI [sl 3 aH l] σ=some (sl 3 aH R,σ):=by
 suffices hr:∃R v',jd l R∧Be (sl 3 aH l) σ=some (v',σ)∧A.nn (.s 3) v'=sl 3 aH R by obtain⟨R,v',h1,h2,h3⟩:=hr;refine⟨R,h1,?_⟩;show(Be (sl 3 aH l) σ).map _=_;rw[h2,eO];exact congrArg (λz=>some (z,σ)) h3
 unfold Be;obtain⟨v,W1,e1,_,H1⟩:=abQ (aL:=σ) (l:=l) (by omega) (Qh σ);rw[e1,bS];rcases BM H1 with⟨rfl,hv,H2⟩|⟨id,g,seg,rfl,RG,H2⟩
 ·rw[WV _ _ _ hv,bS,show A.br v=some (.int .i64 0) by rcases hv with rfl|rfl<;>rfl,bS];obtain⟨v',f1,f2⟩:=IX (c:=aH) (sz:=3) Bj (AW (v:=.aN) H2 (.inl rfl));refine⟨[],v',⟨List.Pairwise.nil,λs=>by simp⟩,?_,f2⟩;refine(ou (D5 (q:=(.exit 0,[.aN,.int .i64 0],W1)) (by rfl) (by simp)) _).trans ?_;rw[bS];simp only[jF,fB];exact f1
 ·obtain⟨rfl,H3⟩:=BU.1 (mF (Q:=els (fl aH) seg l*(blk id (.arr g 3 seg)*emp)) (by ac_rfl) H2);obtain⟨_,hg⟩:=sH H3;obtain⟨Z,z1,z2,z3,z4⟩:=YT aaT (N:=l.length) (by omega) rfl hg;rw[show ze (A.tab (λ_ _=>none) [(147,tM)]) [.os id g 3 0 l.length,.fn 147 []] W1=some (.aD [],W1.set id (bE g Z))from z4,bS,show A.br (.os id g 3 0 l.length)=some (.int .i64 (l.length:Int))from rfl,bS];obtain⟨w,i,W',k1,k2⟩:=Xz (n:=l.length) z3 (by omega) (EN (b':=bE g Z) H3 trivial);obtain⟨v',f1,f2⟩:=IX (c:=aH) (sz:=3) Bj k2;refine⟨kl Z,v',(Pu z1).stS z2,?_,f2⟩;refine(ou k1 _).trans ?_;rw[bS];simp only[jF,fB];exact f1
end
section
set_option maxRecDepth 100000
open HP
theorem jd.ins{l T1 T2:List aA}{s:aA}(h:jd l (T1++T2))(h1:∀x∈T1,bH x s=true)(h2:∀y,T2.head? =some y→bH y s=false∧¬(y.key=s.key)):jd (l++[s]) (T1++s::T2):=by
 obtain⟨a1,a2,a3⟩:=List.pairwise_append.1 h.tJ
 have h2':∀y∈T2,bH s y=true:=by
  intro y hy;cases T2 with
  |nil=>simp at hy
  |cons z T2=>
   obtain⟨q1,q2⟩:=h2 z rfl
   have hz:bH s z=true:=by
    cases q:bH s z with
    |true=>rfl
    |false=>exact absurd (I4 q1 q) q2
   rcases eM.1 hy with rfl|e
   ·exact hz
   ·exact EP hz ((List.pairwise_cons.1 a2).1 y e)
 refine⟨List.pairwise_append.2 ⟨a1,List.pairwise_cons.2 ⟨h2',a2⟩,λx hx y hy=>?_⟩,λx=>?_⟩
 ·rcases eM.1 hy with rfl|e
  ·exact h1 x hx
  ·exact a3 x hx y e
 ·have hf:fk x.key (l++[s])=fk x.key l++(if s.key=x.key then[s]else[]):=by show(l++[s]).filter _=_;rw[List.filter_append];congr 1;by_cases q:s.key=x.key<;>simp [q]
  rw[hf];by_cases q:s.key=x.key
  ·rw[aK q,List.getLast?_concat];constructor
   ·intro e;rcases eN.1 e with e|e
    ·exact absurd q.symm (tY (h1 x e))
    ·rcases eM.1 e with e|e
     ·rw[e]
     ·exact absurd q (tY (h2' x e))
   ·intro e;cases e;simp
  ·rw[aI q,List.append_nil,←h.mem];have:x≠s:=λe=>q (by rw[e])
   simp [this]
theorem jd.upd{l T1 T2:List aA}{s y:aA}(h:jd l (T1++y::T2))(hk:y.key=s.key):jd (l++[s]) (T1++s::T2):=by
 obtain⟨a1,a2,a3⟩:=List.pairwise_append.1 h.tJ;obtain⟨a4,a5⟩:=List.pairwise_cons.1 a2;have h1:∀x∈T1,bH x s=true:=λx hx=>by have:=a3 x hx y (by simp);unfold bH at this ⊢;rw[←hk];exact this
 have h2':∀z∈T2,bH s z=true:=λz hz=>by have:=a4 z hz;unfold bH at this ⊢;rw[←hk];exact this
 refine⟨List.pairwise_append.2 ⟨a1,List.pairwise_cons.2 ⟨h2',a5⟩,λx hx z hz=>?_⟩,λx=>?_⟩
 ·rcases eM.1 hz with rfl|e
  ·exact h1 x hx
  ·exact a3 x hx z (by simp [e])
 ·have hf:fk x.key (l++[s])=fk x.key l++(if s.key=x.key then[s]else[]):=by show(l++[s]).filter _=_;rw[List.filter_append];congr 1;by_cases q:s.key=x.key<;>simp [q]
  rw[hf];by_cases q:s.key=x.key
  ·rw[aK q,List.getLast?_concat];constructor
   ·intro e;rcases eN.1 e with e|e
    ·exact absurd q.symm (tY (h1 x e))
    ·rcases eM.1 e with e|e
     ·rw[e]
     ·exact absurd q (tY (h2' x e))
   ·intro e;cases e;simp
  ·rw[aI q,List.append_nil,←h.mem];have e1:x≠s:=λe=>q (by rw[e])
   have e2:x≠y:=λe=>q (by rw[e,hk])
   simp [e1,e2]
theorem C3(cs:an):A.lb (.lbx cs)=some cs:=rfl
theorem Y9(a b:aS)(σ:Heap):A.quiet (wV [.agg (cu a),.agg (cu b)] σ) σ=some (.bool (lQ a b)):=by
 refine xh (VL ?_);unfold DT lQ;by_cases h:a.unit=b.unit
 ·simp [h,Et]
 ·by_cases h2:a.unit<b.unit<;>simp [h,h2]
theorem acv{aL σ:Heap}{R:HP}{v:AV}{l:List aA}{m:aA}{i:Nat}(hi:i≤l.length)(hl:l.length<1000000000)(H:Hs lJ aL σ (Sl (fl aH) 3 v l*R)):
  ∃v' σ',zg [v,.int .i64 (i:Int),.sl 3 [aH m]] σ=some (v',σ')∧Hs lJ aL σ' (Sl (fl aH) 3 v' (l.take i++[m]++l.drop i)*R):=by
 obtain⟨v',σ',e,H2⟩:=aa1 (most:=140737488355328 / 32) (zs:=[fC,cv,fC]) (vf:=A3) (B:=lJ) (E:=fl aH) (y:=m) (ye:=aH m)
  (mF (show pr (aH m=aH m)*(Sl (fl aH) 3 v l*R)=_ by rw[show fl aH (aH m) m=pr (aH m=aH m)from rfl];ac_rfl) (xD.2 ⟨rfl,H⟩)) hi (by omega) (by omega) (λ_ _ _ _ _=>trivial)
 refine⟨v',σ',?_,H2⟩;unfold zg A.wrap;rw[Bool.false_and,aV,show A.cN [] [v,.int .i64 (i:Int),.sl 3 [aH m]]=[v,.int .i64 (i:Int),.sl 3 [aH m]] by simp [A.cN]];show(Dt v (.int .i64 (i:Int)) (.sl 3 [aH m]) σ).map _=_;rw[show Dt v (.int .i64 (i:Int)) (.sl 3 [aH m]) σ=some (v',σ')from e];simp [Cj]
theorem Ko{id g i:Nat}{w:Heap}{T:List aA}{x:aA}(hg:w[id]? =some (bE g T))(hx:T[i]? =some x):((A.deref (.oe id g i 0) w).bind λc=>A.aG 0 2 c)=some (.agg (cu x.key)):=by simp only[A.deref,hg,if_true,Al,hx,eO,List.drop_zero];rfl
theorem abA{v:AV}{T:List aA}{s:aA}{aL W:Heap}{R:HP}(hl:T.length<1000000000)(H:Hs lJ aL W (Sl (fl aH) 3 v T*R)):
  ∃T1 T2,T=T1++T2∧(∀x∈T1,bH x s=true)∧(∀y,T2.head? =some y→bH y s=false)∧A.loop ((λv11 fN=>
      (A.br v).bind λcq=>
      (A.lss (aj v11 1) cq).bind λaW=>
      (A.guard aW true (some v) aq).bind λbK=>
      (A.guard aW true (some (aj v11 1)) aq).bind λbW=>
      (A.guard aW true (A.aM 3 bK bW) aq).bind λbN=>
      (A.guard aW true (A.ia 0 bN) aq).bind λcZ=>
      (A.guard aW true ((A.deref cZ fN).bind λgH=>A.aG 0 2 gH) aq).bind λbX=>
      ((A.lb (aj v11 0)).bind λ_=>some (0)).bind λuZ=>
            (A.guard aW true ((A.lb (aj v11 0)).bind λiV=>A.aG uZ 2 iV) aq).bind λx24=>
      (A.guard aW true (A.quiet (wV [bX,x24] fN) fN) aq).bind λx25=>
      (A.pick aW x25 bI).bind λeA=>
      A.cond eA (
       (A.add (aj v11 1) dH).bind λcg=>
       some (AX.normal,[(aj v11 0),cg],fN)) (
       some (AX.exit 2,[(aj v11 0),(aj v11 1)],fN)))) [.lbx (aH s),.int .i64 0] W=some (.exit 2,[.lbx (aH s),nI T1.length],W):=by
 suffices hq:∃q,A.loop ((λv11 fN=>
      (A.br v).bind λcq=>
      (A.lss (aj v11 1) cq).bind λaW=>
      (A.guard aW true (some v) aq).bind λbK=>
      (A.guard aW true (some (aj v11 1)) aq).bind λbW=>
      (A.guard aW true (A.aM 3 bK bW) aq).bind λbN=>
      (A.guard aW true (A.ia 0 bN) aq).bind λcZ=>
      (A.guard aW true ((A.deref cZ fN).bind λgH=>A.aG 0 2 gH) aq).bind λbX=>
      ((A.lb (aj v11 0)).bind λ_=>some (0)).bind λuZ=>
            (A.guard aW true ((A.lb (aj v11 0)).bind λiV=>A.aG uZ 2 iV) aq).bind λx24=>
      (A.guard aW true (A.quiet (wV [bX,x24] fN) fN) aq).bind λx25=>
      (A.pick aW x25 bI).bind λeA=>
      A.cond eA (
       (A.add (aj v11 1) dH).bind λcg=>
       some (AX.normal,[(aj v11 0),cg],fN)) (
       some (AX.exit 2,[(aj v11 0),(aj v11 1)],fN)))) [.lbx (aH s),.int .i64 0] W=some q∧∃T1 T2,T=T1++T2∧(∀x∈T1,bH x s=true)∧(∀y,T2.head? =some y→bH y s=false)∧q=(.exit 2,[.lbx (aH s),nI T1.length],W) by
  obtain⟨q,e,T1,T2,h1,h2,h3,rfl⟩:=hq;exact⟨T1,T2,h1,h2,h3,e⟩
 refine nN (λz u w=>∃T1 T2,T=T1++T2∧(∀x∈T1,bH x s=true)∧z=T2.length∧u=[.lbx (aH s),nI T1.length]∧w=W) ?_ (n:=T.length) ⟨[],T,rfl,by simp,rfl,rfl,rfl⟩;rintro z u w ⟨T1,T2,rfl,h1,rfl,rfl,rfl⟩;simp only[fB,ji];rw[ET H,bS,iH,bS];cases T2 with
 |nil=>rw[dL (by simp)];simp only[AG,C3,bS,C4,dY];exact .inr ⟨_,rfl,by simp,T1,[],rfl,h1,by simp,rfl⟩
 |cons y T2=>
  rcases Bz H with⟨h,_,_⟩|⟨id,g,rfl,K⟩
  ·simp at h
  obtain⟨_,hg⟩:=sH K;have hy:(T1++y::T2)[T1.length]? =some y:=by simp
  rw[eY (by simp)];simp only[gT,C3,bS,AT];rw[lp (by simp),bS];rw[show A.ia 0 (.oe id g T1.length 0)=some (.oe id g T1.length 0)from rfl,bS];rw[Ko hg hy,bS];rw[show A.aG 0 2 (aH s)=some (.agg (cu s.key))from rfl,bS,Y9,bS];cases q:lQ y.key s.key with
  |true=>
   rw[fI,oO (by simp at hl;omega),bS];refine .inl ⟨T2.length,_,_,by simp,rfl,T1++[y],T2,by simp,λx hx=>?_,rfl,by simp,rfl⟩;rcases eN.1 hx with e|e
   ·exact h1 x e
   ·rw[List.mem_singleton.1 e];exact q
  |false=>rw[dY];exact .inr ⟨_,rfl,by simp,T1,y::T2,rfl,h1,λz hz=>by simp at hz;rw[←hz];exact q,rfl⟩
theorem Z5{α:Type}(U V:List α)(x y:α):(U++x::V).set U.length y=U++y::V:=by rw[sS _ _ (ay _),Nat.sub_self];rfl
theorem PO(m:aA):(((A.cells 3 (.agg (aH m))).bind λyj=>(A.bh 0 yj [fC,cv,fC]).bind λiV=>some iV).bind λcs=>some (AV.sl 3 (je 3 1 cs)))=some (.sl 3 [aH m]):=rfl
theorem OU{l:List aA}(hl:l.length≤900000)(σ:Heap):∃R,jd l R∧DP [sl 3 aH l] σ=some (sl 3 aH R,σ):=by
 suffices hr:∃R v',jd l R∧DQ (sl 3 aH l) σ=some (v',σ)∧A.nn (.s 3) v'=sl 3 aH R by obtain⟨R,v',h1,h2,h3⟩:=hr;refine⟨R,h1,?_⟩;show(DQ (sl 3 aH l) σ).map _=_;rw[h2,eO];exact congrArg (λz=>some (z,σ)) h3
 unfold DQ;rw[jc,bS]
 obtain⟨q,hq,T,v,i,W',rfl,hT,HT⟩:∃q,A.loop ((λv2 s3=>
   (A.lss (aj v2 1) (AV.int .i64 (l.length:Int))).bind λx5=>
   A.cond x5 (
    (A.aM 3 (sl 3 aH l) (aj v2 1)).bind λx6=>
    ((A.deref x6 s3).bind λc7=>A.aG 0 3 c7).bind λx8=>
    (A.cells 3 x8).bind λc9=>
    (A.bh 0 c9 [fC,cv,fC]).bind λlN=>
    (A.loop (λv11 fN=>
      (A.br (aj v2 0)).bind λcq=>
      (A.lss (aj v11 1) cq).bind λaW=>
      (A.guard aW true (some (aj v2 0)) aq).bind λbK=>
      (A.guard aW true (some (aj v11 1)) aq).bind λbW=>
      (A.guard aW true (A.aM 3 bK bW) aq).bind λbN=>
      (A.guard aW true (A.ia 0 bN) aq).bind λcZ=>
      (A.guard aW true ((A.deref cZ fN).bind λgH=>A.aG 0 2 gH) aq).bind λbX=>
      ((A.lb (aj v11 0)).bind λ_=>some (0)).bind λuZ=>
            (A.guard aW true ((A.lb (aj v11 0)).bind λiV=>A.aG uZ 2 iV) aq).bind λx24=>
      (A.guard aW true (A.quiet (wV [bX,x24] fN) fN) aq).bind λx25=>
      (A.pick aW x25 bI).bind λeA=>
      A.cond eA (
       (A.add (aj v11 1) dH).bind λcg=>
       some (AX.normal,[(aj v11 0),cg],fN)) (
       some (AX.exit 2,[(aj v11 0),(aj v11 1)],fN))) [(AV.lbx lN),fC] s3).bind λfM=>
    bif fM.1==AX.exit 2 then(
     (A.br (aj v2 0)).bind λx29=>
     (A.lss (aj fM.2.1 1) x29).bind λcG=>
     (A.guard cG true (some (aj v2 0)) aq).bind λx31=>
     (A.guard cG true (some (aj fM.2.1 1)) aq).bind λx32=>
     (A.guard cG true (A.aM 3 x31 x32) aq).bind λiN=>
     (A.guard cG true (A.ia 0 iN) aq).bind λx34=>
     (A.guard cG true ((A.deref x34 fM.2.2).bind λmo=>A.aG 0 2 mo) aq).bind λkZ=>
     ((A.lb (aj fM.2.1 0)).bind λ_=>some (0)).bind λLn=>
          (A.guard cG true ((A.lb (aj fM.2.1 0)).bind λrz=>A.aG Ln 2 rz) aq).bind λi6=>
     (A.guard cG true (A.eql (.s [0,2]) kZ i6) aq).bind λpO=>
     (A.pick cG pO bI).bind λiy=>
     (A.cond iy (
      ((A.lb (aj fM.2.1 0)).bind λuM=>A.aG 0 3 uM).bind λk9=>
      (A.aM 3 (aj v2 0) (aj fM.2.1 1)).bind λlg=>
      (A.cells 3 k9).bind λuN=>
      (A.storeAt lg uN fM.2.2).bind λKz=>
      some ([(aj v2 0)],Kz)) (
      ((A.lb (aj fM.2.1 0)).bind λKA=>A.aG 0 3 KA).bind λjM=>
      (((A.cells 3 jM).bind λKD=>(A.bh 0 KD [fC,cv,fC]).bind λCu=>some Cu).bind λcs=>some (AV.sl 3 (je 3 1 cs))).bind λgC=>
      (zg [(aj v2 0),(aj fM.2.1 1),gC] fM.2.2).bind λkY=>
      some ([kY.1],kY.2))).bind λiW=>
     (A.add (aj v2 1) dH).bind λpR=>
     some (AX.normal,[(aj iW.1 0),pR],iW.2))else
    none) (
    some (AX.exit 0,[(aj v2 0),(aj v2 1)],s3)))) [.aN,.int .i64 0] σ=some q∧∃T v i W',q=(.exit 0,[v,i],W')∧jd l T∧Hs lJ σ W' (Sl (fl aH) 3 v T*emp):=by
  refine nN (λz u w=>∃(i:Nat)(v:AV)(T:List aA),i≤l.length∧z=l.length-i∧u=[v,.int .i64 (i:Int)]∧jd (l.take i) T∧T.length≤i∧Hs lJ σ w (Sl (fl aH) 3 v T*emp)) ?_ (n:=l.length) ⟨0,.aN,[],gU _,rfl,rfl,⟨List.Pairwise.nil,λs=>by simp⟩,ay _,AW (Qh σ) (.inl rfl)⟩;rintro z u w ⟨i,v,T,hi,rfl,rfl,hT,FF,HK⟩;simp only[fB,ji];rw[iH,bS];by_cases hlt:i<l.length
  ·have hx:l[i]? =some l[i]:=cI hlt;have oB:l.take (i+1)=l.take i++[l[i]]:=List.take_succ_eq_append_getElem hlt;generalize l[i]=s at hx oB;rw[eY hlt,fI,show A.aM 3 (sl 3 aH l) (.int .i64 (i:Int))=some (.rp (aH s))from jr 3 aH l hx,bS];rw[show((A.deref (.rp (aH s)) w).bind λc7=>A.aG 0 3 c7)=some (.agg (aH s))from rfl,bS,rW,bS,show A.bh 0 (aH s) [fC,cv,fC]=some (aH s)from rfl,bS];obtain⟨T1,T2,rfl,t1,t2,t3⟩:=abA (s:=s) (by omega) HK;rw[List.length_append]at FF;refine .inl ?_
   have hins:∃v2 w2,zg [v,nI T1.length,.sl 3 [aH s]] w=some (v2,w2)∧Hs lJ σ w2 (Sl (fl aH) 3 v2 (T1++s::T2)*emp):=by obtain⟨v2,w2,g1,g2⟩:=acv (m:=s) (i:=T1.length) (by simp) (by simp;omega) HK;refine⟨v2,w2,g1,?_⟩;rw[show(T1++T2).take T1.length++[s]++(T1++T2).drop T1.length=T1++s::T2 by simp]at g2;exact g2
   cases T2 with
   |nil=>obtain⟨v2,w2,g1,g2⟩:=hins;refine⟨l.length-(i+1),[v2,.int .i64 ((i+1:Nat):Int)],w2,by omega,?_,i+1,v2,_,hlt,rfl,rfl,by rw[oB];exact hT.ins t1 (by simp),by simp;simp at FF;omega,g2⟩;refine(ou t3 _).trans ?_;rw[bS];simp only[jF,fB,ji];rw[ET HK,bS,iH,bS,dL (by simp)];simp only[AG,C3,bS,C4,dY];rw[show A.aG 0 3 (aH s)=some (.agg (aH s))from rfl,bS,PO,bS,g1,bS,bS,oO (by omega),bS];rfl
   |cons y T3=>
    rcases Bz HK with⟨h,_,_⟩|⟨id,g,rfl,K⟩
    ·simp at h
    obtain⟨_,hg⟩:=sH K;have hy:(T1++y::T3)[T1.length]? =some y:=by simp
    by_cases hk:y.key=s.key
    ·have K2:=EN (b':=bE g (T1++s::T3)) K trivial;have g2:Hs lJ σ (w.set id (bE g (T1++s::T3))) (Sl (fl aH) 3 (.os id g 3 0 (T1++y::T3).length) (T1++s::T3)*emp):=Aj (seg:=(T1++s::T3).map aH) (mF (by ac_rfl) (BU.2 ⟨rfl,K2⟩)) (by simp);refine⟨l.length-(i+1),[.os id g 3 0 (T1++y::T3).length,.int .i64 ((i+1:Nat):Int)],w.set id (bE g (T1++s::T3)),by omega,?_,i+1,_,_,hlt,rfl,rfl,by rw[oB];exact hT.upd hk,by simp at FF ⊢;omega,g2⟩;refine(ou t3 _).trans ?_;rw[bS];simp only[jF,fB,ji];rw[ET HK,bS,iH,bS,eY (by simp)];simp only[gT,C3,bS,AT];rw[lp (by simp),bS,show A.ia 0 (.oe id g T1.length 0)=some (.oe id g T1.length 0)from rfl,bS];rw[Ko hg hy,bS];simp only[gT,bS];rw[show A.aG 0 2 (aH s)=some (.agg (cu s.key))from rfl,bS,P6,bS,eY hk,fI,show A.aG 0 3 (aH s)=some (.agg (aH s))from rfl,bS,rW,bS,vr s hg (by simp),bS,bS,oO (by omega),bS,Z5];rfl
    ·obtain⟨v2,w2,g1,g2⟩:=hins;refine⟨l.length-(i+1),[v2,.int .i64 ((i+1:Nat):Int)],w2,by omega,?_,i+1,v2,_,hlt,rfl,rfl,by rw[oB];exact hT.ins t1 (λz hz=>⟨t2 z hz,by simp at hz;rw[←hz];exact hk⟩),by simp at FF ⊢;omega,g2⟩;refine(ou t3 _).trans ?_;rw[bS];simp only[jF,fB,ji];rw[ET HK,bS,iH,bS,eY (by simp)];simp only[gT,C3,bS,AT];rw[lp (by simp),bS,show A.ia 0 (.oe id g T1.length 0)=some (.oe id g T1.length 0)from rfl,bS];rw[Ko hg hy,bS];simp only[gT,bS];rw[show A.aG 0 2 (aH s)=some (.agg (cu s.key))from rfl,bS,P6,bS,dL hk,dY,show A.aG 0 3 (aH s)=some (.agg (aH s))from rfl,bS,PO,bS,g1,bS,bS,oO (by omega),bS];rfl
  ·rw[dL hlt,dY];rw[fF (by omega)]at hT;exact .inr ⟨_,rfl,by simp,T,v,_,w,rfl,hT,HK⟩
 obtain⟨v',f1,f2⟩:=IX (c:=aH) (sz:=3) Bj HT;refine⟨T,v',hT,?_,f2⟩;refine(ou hq _).trans ?_;rw[bS];simp only[jF,fB];exact f1
end
theorem NN{l:List aA}(hl:l.length≤900000):∃R,jd l R:=let⟨R,h,_⟩:=OU hl [];⟨R,h⟩
noncomputable def uE (l:List aA):List aA:=by
 classical
 exact if h:∃R,jd l R then Classical.choose h else[]
theorem Is{l:List aA}(hl:l.length≤900000):jd l (uE l):=by unfold uE;rw[dif_pos (NN hl)];exact Classical.choose_spec (NN hl)
theorem aa7{l:List aA}(hl:l.length≤900000)(σ:Heap):DI [sl 3 aH l] σ=some (sl 3 aH (uE l),σ):=by obtain⟨R,h1,h2⟩:=YQ hl σ;rw[h2,h1.uniq (Is hl)]
theorem aa6{l:List aA}(hl:l.length≤900000)(σ:Heap):DP [sl 3 aH l] σ=some (sl 3 aH (uE l),σ):=by obtain⟨R,h1,h2⟩:=OU hl σ;rw[h2,h1.uniq (Is hl)]
end Go.Proofs.Ytjjjjbgohkklnaa
