/- Parts of the proof of PlayMastersScale, in order. -/
import Derived.Orders
import Derived.Below
import Derived.WalkKit
import Derived.Laws.StructEq
import Derived.Laws.Append
import Derived.Laws.AppendOwn
import Derived.Test.YtooknfkholjpbaaGreatRows
import Derived.KernelRfl
import Derived.Lib.Bytealg
import Derived.Sort.Defs
import Derived.Lib.BitFns
import Derived.Test.YtooknfkholjpbaaGreatShelf
import Derived.Laws.Externs
import Derived.WalkSpells
import Derived.ProofKit
import Derived.OpenShut
import Derived.Deep.QuietTactic
import Derived.BigQuiet
import Derived.Lib.Hide
import Derived.IntWalk
import Derived.Deep.RegionHeld3
import Derived.Deep.Slices
import Derived.OwnWalk
import Derived.Laws.OwnMore
import Derived.Deep.OwnRows
import Derived.Deep.RegionHeld
import Derived.Deep.AppendLies
import Derived.Lib.Overlaps
import Derived.Sort.Statements
import Derived.Shelf.SlSortCmp.WholeK
import Derived.Shelf.SlSortCmp.NoneTotal
import Derived.Sort.AssemblyPlain
import Derived.Lib.Strings
import Derived.Test.YtooknfkholjpbaaGreatKPlayMastersScale3
namespace Go.Proofs.YtooknfkholjpbaaGreat
set_option linter.unusedVariables false
set_option linter.unusedSimpArgs false
set_option linter.unusedSectionVars false
theorem T3(x:nL):lC (jB x):=(dm (fA _ _) (dm (fA _ _) sv))
theorem aaU(x:rM):lC (pI x):=(dm (fA _ _) (dm (fA _ _) (dm (BE _) sv)))
theorem T0(x:fu):lC (eX x):=(dm (BE _) (dm (fA _ _) (dm (fA _ _) (dm (fA _ _) (dm (fA _ _) (dm (Ea _) (dm (sF aaU _) sv)))))))
theorem ajb(x:cG):lC (cI x):=(dm (BE _) (dm (fA _ _) (dm (sF T0 _) sv)))
theorem Uq(x:iG):lC (dg x):=(dm (fA _ _) (dm (BE _) (dm (fA _ _) (dm (fA _ _) sv))))
theorem Cu(x:aG):lC (aX x):=(dm (fA _ _) (dm (BE _) sv))
theorem Zz(x:nK):lC (eo x):=(dm (fA _ _) (dm (BE _) (dm (fA _ _) sv)))
theorem Z3(x:mj):lC (fq x):=(dm (fA _ _) (dm (BE _) (dm (sF Zz _) sv)))
theorem abV(x:gX):lC (gZ x):=(dm (fA _ _) (dm (BE _) (dm (fA _ _) (dm (fA _ _) (dm (Ea _) (dm (Ea _) (dm (fA _ _) (dm (fA _ _) sv))))))))
theorem PK(x:bE):lC (bA x):=(dm (fA _ _) (dm (BE _) (dm (fA _ _) (dm (fA _ _) (dm (fA _ _) (dm (fA _ _) (dm (fA _ _) (dm (sF T3 _) (dm (Ea _) (dm (fA _ _) (dm (sF abV _) sv)))))))))))
theorem aaT(x:bD):lC (dR x):=(dm (fA _ _) (dm (BE _) (dm (fA _ _) (dm (fA _ _) (dm (fA _ _) sv)))))
theorem anl(x:kL):lC (fD x):=(dm (fA _ _) (dm (sF PK _) sv))
theorem SO(x:nY):lC (dI x):=(dm (fA _ _) (dm (fA _ _) (dm (fA _ _) sv)))
theorem Z2(x:fk):lC (bX x):=(dm (fA _ _) (dm (fA _ _) (dm (fA _ _) (dm (fA _ _) (dm (fA _ _) sv)))))
instance : Inhabited ByteArray := ⟨⟨#[]⟩⟩
instance : Inhabited nL := ⟨⟨0, 0⟩⟩
instance : Inhabited sy := ⟨⟨0, []⟩⟩
instance : Inhabited jd := ⟨⟨0, 0, 0, 0, 0, ⟨0, []⟩⟩⟩
instance : Inhabited aoj := ⟨⟨0, 0⟩⟩
instance : Inhabited rM := ⟨⟨0, 0, ⟨#[]⟩⟩⟩
instance : Inhabited fu := ⟨⟨⟨#[]⟩, 0, 0, 0, 0, false, []⟩⟩
instance : Inhabited cG := ⟨⟨⟨#[]⟩, 0, []⟩⟩
instance : Inhabited iG := ⟨⟨0, ⟨#[]⟩, 0, 0⟩⟩
instance : Inhabited gC := ⟨⟨[], []⟩⟩
instance : Inhabited aG := ⟨⟨0, ⟨#[]⟩⟩⟩
theorem tZ(a b:aG):A.fN (.s [0,2]) (.agg (aX a)) (.agg (aX b))=some (decide (a=b)):=by obtain⟨x1,x2⟩:=a;obtain⟨x101,x102⟩:=b;simp only[A.fN,aX,A.iL,A.oS,A.pX,A.zw,A.rV,if_true,aY,cC,bq];congr 1;rw[qq];simp [and_assoc]
theorem adB(a b:aG):A.eql (.s [0,2]) (.agg (aX a)) (.agg (aX b))=some (.bool (decide (a=b))):=by rw[A.eql,tZ];rfl
instance : Inhabited nK := ⟨⟨⟨0, ⟨#[]⟩⟩, 0⟩⟩
theorem ai9(a b:nK):A.fN (.s [0,2,0]) (.agg (eo a)) (.agg (eo b))=some (decide (a=b)):=by obtain⟨⟨x1,x2⟩,x3⟩:=a;obtain⟨⟨x101,x102⟩,zh⟩:=b;simp only[A.fN,eo,A.iL,A.oS,A.pX,A.zw,A.rV,if_true,aY,cC,bq];congr 1;rw[qq];simp [and_assoc]
theorem akm(a b:nK):A.neq (.s [0,2,0]) (.agg (eo a)) (.agg (eo b))=some (.bool (decide (¬(a=b)))):=by rw[A.neq,ai9,cC,decide_not]
instance : Inhabited mj := ⟨⟨0, ⟨#[]⟩, []⟩⟩
instance : Inhabited arI := ⟨⟨[], 0, 0⟩⟩
instance : Inhabited oI := ⟨⟨0, 0⟩⟩
theorem alF(a b:oI):A.fN (.s [0,0]) (.agg (yN a)) (.agg (yN b))=some (decide (a=b)):=by obtain⟨x1,x2⟩:=a;obtain⟨x101,x102⟩:=b;simp only[A.fN,yN,A.iL,A.oS,A.pX,A.zw,A.rV,if_true,aY,cC,bq];congr 1;rw[qq];simp [and_assoc]
theorem anF(a b:oI):A.neq (.s [0,0]) (.agg (yN a)) (.agg (yN b))=some (.bool (decide (¬(a=b)))):=by rw[A.neq,alF,cC,decide_not]
instance : Inhabited gX := ⟨⟨⟨0, ⟨#[]⟩⟩, ⟨0, 0⟩, false, false, 0, 0⟩⟩
instance : Inhabited bE := ⟨⟨0, ⟨#[]⟩, 0, 0, 0, 0, ⟨0, []⟩, false, 0, []⟩⟩
instance : Inhabited bD := ⟨⟨⟨0, ⟨#[]⟩⟩, ⟨0, 0⟩, 0⟩⟩
instance : Inhabited aqV := ⟨⟨0, 0, 0⟩⟩
instance : Inhabited kL := ⟨⟨0, []⟩⟩
instance : Inhabited nY := ⟨⟨0, 0, 0⟩⟩
instance : Inhabited iT := ⟨⟨⟨[], []⟩, [], [], []⟩⟩
instance : Inhabited fk := ⟨⟨0, 0, 0, 0, 0⟩⟩
instance : Inhabited apW := ⟨⟨0, ⟨0, 0, 0, 0, 0⟩⟩⟩
instance : Inhabited apZ := ⟨⟨0, 0, 0, 0⟩⟩
instance : Inhabited aeT := ⟨⟨⟨0, ⟨#[]⟩⟩, ⟨0, 0, 0, 0, 0, ⟨0, []⟩⟩, 0, false⟩⟩
instance : Inhabited ali := ⟨⟨0, 0, 0, false, 0, []⟩⟩
instance : Inhabited Zo := ⟨⟨0, 0, 0⟩⟩
instance : Inhabited acA := ⟨⟨0, 0, 0, 0, 0, 0, false, false, []⟩⟩
instance : Inhabited aek := ⟨⟨0, 0⟩⟩
instance : Inhabited amI := ⟨⟨⟨0, 0, 0, 0, 0, 0, false, false, []⟩, [], 0, [], 0, 0, 0⟩⟩
section
def Rf{β τ:Type}(M:Option β)(T:Option τ)(Q:τ→β→Prop):Prop:=∀t,T=some t→∃b,M=some b∧Q t b
section
variable {α β ω τ ζ : Type}
theorem aB{M0:Option α}{K:α→Option β}{T:Option τ}{Q:τ→β→Prop}(a:α)(h:M0=some a)(k:Rf (K a) T Q):Rf (M0.bind K) T Q:=by intro t ht;obtain⟨b,h1,h2⟩:=k t ht;exact⟨b,by rw[h];exact h1,h2⟩
theorem nS{M0:Option α}{K:α→Option β}{o:Option ω}{K':ω→Option τ}{Q:τ→β→Prop}(e:ω→α)(h:∀t,o=some t→M0=some (e t))(k:∀t,o=some t→Rf (K (e t)) (K' t) Q):Rf (M0.bind K) (o.bind K') Q:=by intro t ht;obtain⟨x,h1,h2⟩:=bN.1 ht;obtain⟨b,h3,h4⟩:=k x h1 t h2;exact⟨b,by rw[h x h1];exact h3,h4⟩
theorem QL{M0:Option α}{K:α→Option β}{o:Option ω}{K':ω→Option τ}{Q:τ→β→Prop}(Q0:ω→α→Prop)(h:Rf M0 o Q0)(k:∀t a,Q0 t a→Rf (K a) (K' t) Q):Rf (M0.bind K) (o.bind K') Q:=by intro t ht;obtain⟨x,h1,h2⟩:=bN.1 ht;obtain⟨a,h3,h4⟩:=h x h1;obtain⟨b,h5,h6⟩:=k x a h4 t h2;exact⟨b,by rw[h3];exact h5,h6⟩
theorem dJ{t:τ}{b:β}{Q:τ→β→Prop}(h:Q t b):Rf (some b) (some t) Q:=by intro u hu;cases hu;exact⟨b,rfl,h⟩
theorem gI{M:Option β}{t:τ}{Q:τ→β→Prop}(b:β)(e:M=some b)(h:Q t b):Rf M (some t) Q:=by rw[e];exact dJ h
theorem apC{M:Option β}{Q:τ→β→Prop}:Rf M (none:Option τ) Q:=by intro u hu;cases hu
theorem arE{M:Option β}{p:Prop}[Decidable p]{T:Option τ}{Q:τ→β→Prop}(h:p→Rf M T Q):Rf M (if p then T else none) Q:=by
 split
 ·exact h ‹_›
 ·exact apC
theorem oc{p:Prop}[Decidable p]{X Y:Option β}{X' Y':Option τ}{Q:τ→β→Prop}(h1:p→Rf X X' Q)(h2:¬p→Rf Y Y' Q):Rf (A.cond (.bool (decide p)) X Y) (if p then X' else Y') Q:=by
 by_cases h:p
 ·simp only[h,decide_true,if_true];exact h1 h
 ·simp only[h,decide_false,if_false];exact h2 h
theorem lg{c:Bool}{X Y:Option β}{X' Y':Option τ}{Q:τ→β→Prop}(h1:c=true→Rf X X' Q)(h2:c=false→Rf Y Y' Q):Rf (A.cond (.bool c) X Y) (if c=true then X' else Y') Q:=by
 cases c
 ·exact h2 rfl
 ·exact h1 rfl
theorem ve{X Y:Option β}{T:Option τ}{Q:τ→β→Prop}(h:Rf X T Q):Rf (A.cond (.bool true) X Y) T Q:=h
theorem u9{X Y:Option β}{T:Option τ}{Q:τ→β→Prop}(h:Rf Y T Q):Rf (A.cond (.bool false) X Y) T Q:=h
theorem mT{c:Bool}{X Y:Option β}{T:Option τ}{Q:τ→β→Prop}(e:c=true)(h:Rf X T Q):Rf (bif c then X else Y) T Q:=by rw[e];exact h
theorem Ah{c:Bool}{X Y:Option β}{T:Option τ}{Q:τ→β→Prop}(e:c=false)(h:Rf Y T Q):Rf (bif c then X else Y) T Q:=by rw[e];exact h
def gv{α:Type}(g:Bool)(e:α→AV)(t:α):AV:=bif g then e t else .aL []
end
inductive Lr (S B R : Type) where
 |go(s:S)
 |brk(b:B)
 |ret(r:R)
def pN{α S B R:Type}(body:Nat→α→S→Option (Lr S B R))(fin:S→Option B):List α→Nat→S→Option (B ⊕ R)
 |[],_,s=>(fin s).map .inl
 |x::l,i,s=>(body i x s).bind λq=>match q with|.go s'=>pN body fin l (i+1) s'|.brk b=>some (.inl b)|.ret r=>some (.inr r)
def oa{α S B R γ:Type}(l:List α)(body:Nat→α→S→Option (Lr S B R))(fin:S→Option B)(s:S)(K1:B→Option γ)(K2:R→Option γ):Option γ:=
 if l.length≤bu then(pN body fin l 0 s).bind λq=>q.elim K1 K2 else none
section
variable {α S B R β τ : Type}
abbrev LS:=AX×aq×Heap
def QV(I:S→aq→Heap→Prop)(QB:B→LS→Prop)(QR:R→LS→Prop)(t:Lr S B R)(q:LS):Prop:=match t with
 |.go s=>q.1=.normal∧I s q.2.1 q.2.2
 |.brk b=>q.1≠.normal∧QB b q
 |.ret r=>q.1≠.normal∧QR r q
theorem uY{I:S→aq→Heap→Prop}{QB:B→LS→Prop}{QR:R→LS→Prop}{s:S}{v:aq}{σ:Heap}(h:I s v σ):QV I QB QR (.go s) (.normal,v,σ):=⟨rfl,h⟩
theorem apD{I:S→aq→Heap→Prop}{QB:B→LS→Prop}{QR:R→LS→Prop}{b:B}{q:LS}(n:q.1≠.normal)(h:QB b q):QV I QB QR (.brk b) q:=⟨n,h⟩
theorem jZ{I:S→aq→Heap→Prop}{QB:B→LS→Prop}{QR:R→LS→Prop}{r:R}{q:LS}(n:q.1≠.normal)(h:QR r q):QV I QB QR (.ret r) q:=⟨n,h⟩
theorem uX{f:aq→Heap→Option LS}{K:LS→Option β}{Q:τ→β→Prop}{l:List α}{body:Nat→α→S→Option (Lr S B R)}{fin:S→Option B}{s0:S}{K1:B→Option τ}{K2:R→Option τ}{v0:aq}{aJ:Heap}
  (I:Nat→S→aq→Heap→Prop) (QB:B→LS→Prop) (QR:R→LS→Prop)
  (hstep:l.length≤bu→∀i x s v σ,l[i]? =some x→I i s v σ→Rf (f v σ) (body i x s) (QV (I (i+1)) QB QR))
  (hend:l.length≤bu→∀s v σ,I l.length s v σ→Rf (f v σ) (fin s) (λb q=>q.1≠.normal∧QB b q))
  (h0:I 0 s0 v0 aJ) (k1:l.length≤bu→∀b q,QB b q→Rf (K q) (K1 b) Q) (k2:l.length≤bu→∀r q,QR r q→Rf (K q) (K2 r) Q):
  Rf ((A.loop f v0 aJ).bind K) (oa l body fin s0 K1 K2) Q:=by
 unfold oa;refine arE λhl=>?_
 have hstep:=hstep hl;have hend:=hend hl
 have key:∀(rest pre:List α)(s:S)(v:aq)(σ:Heap),l=pre++rest→I pre.length s v σ→∀t,pN body fin rest pre.length s=some t→∃q,(∃n,A.iter f n v σ=some q)∧(match t with|.inl b=>QB b q|.inr r=>QR r q):=by
  intro rest;induction rest with
  |nil=>intro pre s v σ hl hI t ht;rw[List.append_nil]at hl;subst hl;simp only[pN]at ht;obtain⟨b,hb,rfl⟩:=eG.1 ht;obtain⟨q,h1,h2,h3⟩:=hend s v σ hI b hb;exact⟨q,yF h1 h2,h3⟩
  |cons x rest ih=>
   intro pre s v σ hl hI t ht;simp only[pN]at ht;obtain⟨y,hy,h2⟩:=bN.1 ht;obtain⟨q,h3,h4⟩:=hstep pre.length x s v σ (by rw[hl];simp) hI y hy;obtain⟨e,v',σ'⟩:=q;cases y with
   |go s'=>obtain⟨rfl,Xw⟩:=h4;obtain⟨q,h5,h6⟩:=ih (pre++[x]) s' v' σ' (by simpa using hl) (by simpa using Xw) t (by simpa using h2);exact⟨q,FL h3 h5,h6⟩
   |brk b=>simp only[Option.some.injEq]at h2;subst h2;exact⟨_,yF h3 h4.1,h4.2⟩
   |ret b=>simp only[Option.some.injEq]at h2;subst h2;exact⟨_,yF h3 h4.1,h4.2⟩
 intro t ht;obtain⟨y,hy,h2⟩:=bN.1 ht;obtain⟨q,⟨n,hn⟩,h3⟩:=key l [] s0 v0 aJ rfl h0 y hy;cases y with
 |inl b=>obtain⟨z,h4,h5⟩:=k1 hl b q h3 t h2;exact⟨z,by rw[Fu hn];exact h4,h5⟩
 |inr b=>obtain⟨z,h4,h5⟩:=k2 hl b q h3 t h2;exact⟨z,by rw[Fu hn];exact h4,h5⟩
theorem lF{l:List α}{i:Nat}{x:α}(h:l[i]? =some x):A.lss (.ah (i:Int)) (.ah (l.length:Int))=some (.bool true):=by have:=(bQ.1 h).1;rw[mU];simp;omega
theorem lR(l:List α):A.lss (.ah (l.length:Int)) (.ah (l.length:Int))=some (.bool false):=by rw[mU];simp
theorem iF{l:List α}{i:Nat}{x:α}(h:l[i]? =some x)(hl:l.length≤bu):A.add (.ah (i:Int)) (.ah 1)=some (.ah ((i+1:Nat):Int)):=by have:=(bQ.1 h).1;rw[nv,cR (by unfold aU;unfold bu at hl;omega)];simp
def zH(l:List α)(i:Int):Option α:=if 0≤i then l[i.toNat]? else none
theorem Gf{sz:Nat}{c:α→aq}{l:List α}{i:Int}{x:α}(h:zH l i=some x):A.bh sz (sl sz c l) (.ah i)=some (.rp (c x)):=by
 unfold zH at h;split at h
 ·exact alQ sz c l ‹_› h
 ·cases h
theorem kK{sz:Nat}{c:α→aq}{l:List α}{i:Nat}{x:α}(h:l[i]? =some x):A.bh sz (sl sz c l) (.ah (i:Int))=some (.rp (c x)):=nj sz c l h
end
theorem fM{M:aH}{v:AV}{σ:Heap}(h:M=some (v,σ)):A.quiet M σ=some v:=by rw[h,TH]
def My(a b:Int):Option Int:=if b=0 then none else some (IntKind.i64.wrap (a.tdiv b))
def Mz(a b:Int):Option Int:=if b=0 then none else some (a.tmod b)
theorem aqB{a b c:Int}(h:My a b=some c):A.quo (.ah a) (.ah b)=some (.ah c):=by
 unfold My at h;split at h
 ·cases h
 ·injection h with h;subst h;exact aeY a b ‹_›
theorem aqD{a b c:Int}(h:Mz a b=some c):A.rem (.ah a) (.ah b)=some (.ah c):=by
 unfold Mz at h;split at h
 ·cases h
 ·injection h with h;subst h;exact arK a b ‹_›
noncomputable def tq {α:Type} (p:Prop) (x:α):Option α:=open Classical in if p then some x else none
theorem yP{α:Type}{p:Prop}{x:α}(h:p):tq p x=some x:=aO h
theorem Aj{α β:Type}{p:Prop}{x r:α}{M:Option β}{e:α→β}(h:p→M=some (e x))(k:tq p x=some r):M=some (e r):=by
 unfold tq at k;split at k
 ·rename_i hp;injection k with k;subst k;exact h hp
 ·cases k
theorem uW(b t:Bool):A.pick (.bool b) (bif b then .bool t else .aL []) (.bool false)=some (.bool (b&&t)):=by cases b<;>rfl
theorem sJ(b t:Bool):A.pick (.bool b) (.bool true) (bif !b then .bool t else .aL [])=some (.bool (b||t)):=by cases b<;>rfl
section
variable {α β ω τ : Type} {G b : Bool} {M0 : Option AV} {K : AV → Option β} {T : Option τ} {K' : ω → Option τ} {o : Option ω} {Q : τ → β → Prop}
theorem fH(a:AV)(h:b=true→M0=some a)(k:Rf (K (bif b then a else .aL [])) T Q):Rf ((A.guard (.bool b) true M0 (some (.aL []))).bind K) T Q:=by refine aB _ ?_ k;cases b<;>simp_all [A.guard]
theorem fU(a:AV)(h:(!b)=true→M0=some a)(k:Rf (K (bif !b then a else .aL [])) T Q):Rf ((A.guard (.bool b) false M0 (some (.aL []))).bind K) T Q:=by refine aB _ ?_ k;cases b<;>simp_all [A.guard]
theorem Jr(a:AV)(h:(G&&b)=true→M0=some a)(k:Rf (K (bif G&&b then a else .aL [])) T Q):Rf ((A.guard (bif G then .bool b else .aL []) true M0 (some (.aL []))).bind K) T Q:=by refine aB _ ?_ k;cases G<;>cases b<;>simp_all [A.guard]
theorem ad7(a:AV)(h:(G&&!b)=true→M0=some a)(k:Rf (K (bif G&&!b then a else .aL [])) T Q):Rf ((A.guard (bif G then .bool b else .aL []) false M0 (some (.aL []))).bind K) T Q:=by refine aB _ ?_ k;cases G<;>cases b<;>simp_all [A.guard]
theorem arD{g:Bool}{M:Option AV}{d:ω}(e:ω→AV)(hM:M=bif g then M0 else some (.aL []))(h:g=true→∀t,o=some t→M0=some (e t))(k:∀t,(g=true→o=some t)→Rf (K (bif g then e t else .aL [])) (K' t) Q):Rf (M.bind K) ((if g=true then o else some d).bind K') Q:=by
 subst hM;cases g
 ·exact k d (by simp)
 ·intro t ht;simp only[if_true]at ht;obtain⟨x,h1,h2⟩:=bN.1 ht;obtain⟨y,h3,h4⟩:=k x (λ_=>h1) t h2;refine⟨y,?_,h4⟩;simp only[cq,h rfl x h1,aY];exact h3
theorem BG{d:ω}(e:ω→AV)(h:b=true→∀t,o=some t→M0=some (e t))(k:∀t,(b=true→o=some t)→Rf (K (bif b then e t else .aL [])) (K' t) Q):Rf ((A.guard (.bool b) true M0 (some (.aL []))).bind K) ((if b=true then o else some d).bind K') Q:=arD e (by cases b<;>rfl) h k
end
theorem U3{ro:Bool}{gD:List Sh}{ig:Sh}{r:aq→Heap→aH}{args args':aq}{σ:Heap}(hn:A.dr gD args=A.dr gD args')(h1:args.any A.own=false)(h2:args'.any A.own=false):A.wrap ro gD ig r args σ=A.wrap ro gD ig r args' σ:=by unfold A.wrap;rw[h1,h2,hn,Bool.and_false,bG,bG]
theorem UZ{τ:Type}{ro:Bool}{gD:List Sh}{ig:Sh}{r:aq→Heap→aH}{args args':aq}{σ:Heap}{T:Option τ}{enc:τ→AV}(hn:A.dr gD args=args')(h:args.any A.own=false)(e:Rf (r args' σ) T (λt b=>A.nn ig b.1=enc t∧b.2=σ)):∀t,T=some t→A.wrap ro gD ig r args σ=some (enc t,σ):=by intro t ht;obtain⟨⟨v,σ'⟩,h1,h2,h3⟩:=e t ht;simp only at h2 h3;subst h3;exact wrap_eq h (by rw[hn];exact h1) h2
theorem Bz{τ:Type}{ro:Bool}{gD:List Sh}{ig:Sh}{f:AV→Heap→aH}{x0 y0:AV}{σ:Heap}{T:Option τ}{enc:τ→AV}(hn:A.dr gD [x0]=[y0])(h:([x0]:aq).any A.own=false)(e:Rf (f y0 σ) T (λt b=>A.nn ig b.1=enc t∧b.2=σ)):∀t,T=some t→A.wrap ro gD ig (A.dP f) [x0] σ=some (enc t,σ):=UZ hn h e
theorem zV{τ:Type}{ro:Bool}{gD:List Sh}{ig:Sh}{f:AV→AV→Heap→aH}{x0 x1 y0 y1:AV}{σ:Heap}{T:Option τ}{enc:τ→AV}(hn:A.dr gD [x0,x1]=[y0,y1])(h:([x0,x1]:aq).any A.own=false)(e:Rf (f y0 y1 σ) T (λt b=>A.nn ig b.1=enc t∧b.2=σ)):∀t,T=some t→A.wrap ro gD ig (A.dL f) [x0,x1] σ=some (enc t,σ):=UZ hn h e
theorem acm{τ:Type}{ro:Bool}{gD:List Sh}{ig:Sh}{f:AV→AV→AV→Heap→aH}{x0 x1 x2 y0 y1 y2:AV}{σ:Heap}{T:Option τ}{enc:τ→AV}(hn:A.dr gD [x0,x1,x2]=[y0,y1,y2])(h:([x0,x1,x2]:aq).any A.own=false)(e:Rf (f y0 y1 y2 σ) T (λt b=>A.nn ig b.1=enc t∧b.2=σ)):∀t,T=some t→A.wrap ro gD ig (A.nE f) [x0,x1,x2] σ=some (enc t,σ):=UZ hn h e
end
section
inductive Ct where
 |s(sz:Nat)(es:List aq)
 |m(es:List (AV×AV))
 |b(cs:aq)
def BV:AV→Option Nat
 |.os id _ _ _ _=>some id
 |.om id=>some id
 |.op id _=>some id
 |_=>none
def Own(n:Nat)(σ:Heap)(p:AV×Ct):Prop:=match p.2 with
 |.s sz es=>(p.1=.az∧es=[])∨∃id g off a,p.1=.os id g sz off es.length∧n≤id∧σ[id]? =some (.arr g sz a)∧off≤a.length∧a.drop off=es
 |.m es=>∃id,p.1=.om id∧n≤id∧σ[id]? =some (.map es)
 |.b cs=>∃id,p.1=.op id 0∧n≤id∧σ[id]? =some (.box cs)
structure Hp (aJ σ : Heap) (L : List (AV × Ct)) : Prop where
 pre:∃bs,σ=aJ++bs
 own:∀(i:Nat)p,L[i]? =some p→Own aJ.length σ p
 sep:∀(i j:Nat)p q a,L[i]? =some p→L[j]? =some q→BV p.1=some a→BV q.1=some a→i=j
section
variable {aJ σ σ' : Heap} {L : List (AV × Ct)} {n : Nat}
theorem Vc(σ:Heap):Hp σ σ []:=⟨⟨[],by simp⟩,by simp,by simp⟩
theorem Vi{p:AV×Ct}{a:Nat}(h:Own n σ p)(e:BV p.1=some a):n≤a∧a<σ.length:=by
 obtain⟨v,c⟩:=p;cases c with
 |s sz es=>
  rcases h with⟨h1,_⟩|⟨id,g,off,x,h1,h2,h3,_⟩
  ·simp only at h1;subst h1;cases e
  ·simp only at h1;subst h1;injection e with e;subst e;exact⟨h2,(bQ.1 h3).1⟩
 |m es=>obtain⟨id,h1,h2,h3⟩:=h;simp only at h1;subst h1;injection e with e;subst e;exact⟨h2,(bQ.1 h3).1⟩
 |b es=>obtain⟨id,h1,h2,h3⟩:=h;simp only at h1;subst h1;injection e with e;subst e;exact⟨h2,(bQ.1 h3).1⟩
theorem ab7{p:AV×Ct}(h:Own n σ p)(k:∀a,BV p.1=some a→σ'[a]? =σ[a]?):Own n σ' p:=by
 obtain⟨v,c⟩:=p;cases c with
 |s sz es=>
  rcases h with h|⟨id,g,off,x,h1,h2,h3,h4⟩
  ·exact .inl h
  ·simp only at h1;subst h1;exact .inr ⟨id,g,off,x,rfl,h2,by rw[k id rfl];exact h3,h4⟩
 |m es=>obtain⟨id,h1,h2,h3⟩:=h;simp only at h1;subst h1;exact⟨id,rfl,h2,by rw[k id rfl];exact h3⟩
 |b es=>obtain⟨id,h1,h2,h3⟩:=h;simp only at h1;subst h1;exact⟨id,rfl,h2,by rw[k id rfl];exact h3⟩
theorem apz(h:∃bs,σ=aJ++bs){id:Nat}(hn:aJ.length≤id)(b:aS):∃bs,σ.set id b=aJ++bs:=by obtain⟨bs,rfl⟩:=h;exact⟨bs.set (id-aJ.length) b,by rw[rR _ _ hn]⟩
theorem adM(H:Hp aJ σ L){k id:Nat}{h h':AV}{c c':Ct}{b:aS}(hk:L[k]? =some (h,c))(hi:BV h=some id)(hi':BV h'=some id)(ho:Own aJ.length (σ.set id b) (h',c')):Hp aJ (σ.set id b) (L.set k (h',c')):=by
 have hid:=Vi (H.own k _ hk) hi;have wR:=(bQ.1 hk).1;refine⟨apz H.pre hid.1 b,λi p hp=>?_,λi j p q a hp hq e1 e2=>?_⟩
 ·rw[lp]at hp;split at hp
  ·rename_i e;subst e;simp [wR]at hp;subst hp;exact ho
  ·rename_i e;refine ab7 (H.own i p hp) λa ha=>?_
   rw[lp];split
   ·rename_i e';subst e';exact absurd (H.sep k i _ _ id hk hp hi ha) e
   ·rfl
 ·have key:∀(i:Nat)(p:AV×Ct),(L.set k (h',c'))[i]? =some p→BV p.1=some a→∃p',L[i]? =some p'∧BV p'.1=some a:=by
   intro i p hp e;rw[lp]at hp;split at hp
   ·rename_i e';subst e';simp [wR]at hp;subst hp;exact⟨_,hk,by rw[hi];rw[hi']at e;exact e⟩
   ·exact⟨p,hp,e⟩
  obtain⟨p',hp',e1'⟩:=key i p hp e1;obtain⟨q',Dy,MM⟩:=key j q hq e2;exact H.sep i j p' q' a hp' Dy e1' MM
theorem ao5(H:Hp aJ σ L){h':AV}{c':Ct}{b:aS}(hi':BV h'=some σ.length)(ho:Own aJ.length (σ++[b]) (h',c')):Hp aJ (σ++[b]) (L++[(h',c')]):=by
 refine⟨?_,λi p hp=>?_,λi j p q a hp hq e1 e2=>?_⟩
 ·obtain⟨bs,rfl⟩:=H.pre;exact⟨bs++[b],by simp⟩
 ·rw[List.getElem?_append]at hp;split at hp
  ·refine ab7 (H.own i p hp) λa ha=>?_
   have:=(Vi (H.own i p hp) ha).2;rw[jk this]
  ·have hp':=(bQ.1 hp).2;simp at hp';subst hp';exact ho
 ·have key:∀(i:Nat)(p:AV×Ct),(L++[(h',c')])[i]? =some p→BV p.1=some a→(i=L.length∧a=σ.length)∨(L[i]? =some p∧a<σ.length):=by
   intro i p hp e;rw[List.getElem?_append]at hp;split at hp
   ·exact .inr ⟨hp,(Vi (H.own i p hp) e).2⟩
   ·obtain⟨h1,h2⟩:=bQ.1 hp;simp at h1 h2;subst h2;rw[hi']at e;injection e with e;exact .inl ⟨by omega,e.symm⟩
  rcases key i p hp e1 with⟨a1,a2⟩|⟨a1,a2⟩<;>rcases key j q hq e2 with⟨b1,b2⟩|⟨b1,b2⟩
  ·omega
  ·omega
  ·omega
  ·exact H.sep i j p q a a1 b1 e1 e2
theorem Vw(H:Hp aJ σ L):Hp aJ (σ++[.map []]) (L++[(.om σ.length,.m [])]):=by
 have hl:aJ.length≤σ.length:=by obtain⟨bs,rfl⟩:=H.pre;simp
 exact ao5 H rfl ⟨σ.length,rfl,hl,by simp⟩
theorem UQ(H:Hp aJ σ L):Hp aJ σ []:=⟨H.pre,by simp,by simp⟩
theorem ao4(H:Hp aJ σ L){k:Nat}{h key v:AV}{ek:A.EK}{es es':List (AV×AV)}(hk:L[k]? =some (h,.m es))(hok:A.lG ek key=true)(he:A.upd ek key v es=some es'):∃σ',A.fS ek h key v σ=some σ'∧Hp aJ σ' (L.set k (h,.m es')):=by obtain⟨id,h1,h2,h3⟩:=H.own k _ hk;simp only at h1 h3;subst h1;have hid:=(bQ.1 h3).1;exact⟨σ.set id (.map es'),by simp [A.fS,hok,h3,he],adM H hk rfl rfl ⟨id,rfl,h2,by simp [hid]⟩⟩
theorem ao3(H:Hp aJ σ L){k:Nat}{h key:AV}{ek:A.EK}{es es':List (AV×AV)}(hk:L[k]? =some (h,.m es))(hok:A.lG ek key=true)(he:A.del ek key es=some es'):∃σ',A.GG ek h key σ=some σ'∧Hp aJ σ' (L.set k (h,.m es')):=by obtain⟨id,h1,h2,h3⟩:=H.own k _ hk;simp only at h1 h3;subst h1;have hid:=(bQ.1 h3).1;exact⟨σ.set id (.map es'),by simp [A.GG,hok,h3,he],adM H hk rfl rfl ⟨id,rfl,h2,by simp [hid]⟩⟩
theorem ao2(H:Hp aJ σ L){k:Nat}{h key z:AV}{ek:A.EK}{es:List (AV×AV)}{r:Option AV}(hk:L[k]? =some (h,.m es))(hok:A.lG ek key=true)(he:A.find ek key es=some r):A.look ek h key z σ=some (r.getD z):=by obtain⟨id,h1,h2,h3⟩:=H.own k _ hk;simp only at h1 h3;subst h1;rw[Ec ek hok h3,he];rfl
def Xh(aJ σ:Heap)(r r':AV):Prop:=(∀d,A.bM σ aJ.length (d+1) r=some r')∧(σ=aJ→r'=r)
theorem adG{r:AV}(h:Fz r):Xh aJ σ r r:=⟨λd=>h σ _ (d+1),λ_=>rfl⟩
theorem kM{s1:Sh}{v1 w1:AV}{ss:List Sh}{vs ws:aq}(h1:A.nn s1 v1=w1)(h2:A.dr ss vs=ws):A.dr (s1::ss) (v1::vs)=w1::ws:=by simp only[A.dr,h1,h2]
theorem Jz:A.dr [] []=[]:=by simp [A.dr]
theorem uv{ss:List Sh}{vs ws:aq}(h:A.dr ss vs=ws):A.nn (.a ss) (.agg vs)=.agg ws:=by simp only[A.nn,h]
theorem afr{ss:List Sh}{vs ws:aq}(h:A.dr ss vs=ws):A.nn (.t ss) (.aL vs)=.aL ws:=by simp only[A.nn,h]
theorem PJ(d:Nat):∀{es:List (AV×AV)},(∀p∈es,Fz p.1∧Fz p.2)→A.Et σ n d es=some es
 |[],_=>by simp [A.Et]
 |(k,v)::es,h=>by have h1:=h (k,v) (by simp);simp only[A.Et,h1.1 σ n d,h1.2 σ n d,aY,PJ d (es:=es) (λp hp=>h p (by simp [hp])),cC]
theorem adH(H:Hp aJ σ L){k:Nat}{h:AV}{es:List (AV×AV)}(hk:L[k]? =some (h,.m es))(hc:∀p∈es,Fz p.1∧Fz p.2):Xh aJ σ h (.fm es):=by
 obtain⟨id,h1,h2,h3⟩:=H.own k _ hk;simp only at h1 h3;subst h1;refine⟨λd=>?_,λe=>?_⟩
 ·simp only[A.bM,Nat.not_lt.2 h2,if_false,h3,PJ d hc,cC]
 ·subst e;have:=(bQ.1 h3).1;omega
theorem P8(H:Hp aJ σ L){r r':AV}(h:Xh aJ σ r r'):A.fin aJ r σ=some (r',aJ):=by
 obtain⟨bs,hb⟩:=H.pre;subst hb;by_cases vN:bs=[]
 ·subst vN;rw[List.append_nil]at h ⊢;rw[cg,h.2 rfl]
 ·unfold A.fin;rw[aK (by simpa using vN),aO (by simp),h.1 7];rfl
end
section
variable {κ ν : Type} [DecidableEq κ]
def dh(k:κ):List (κ×ν)→Option ν
 |[]=>none
 |(k',v)::r=>if k=k' then some v else dh k r
def eH(k:κ)(v:ν):List (κ×ν)→List (κ×ν)
 |[]=>[(k,v)]
 |(k',v')::r=>if k=k' then(k,v)::r else(k',v')::eH k v r
def sZ(k:κ):List (κ×ν)→List (κ×ν)
 |[]=>[]
 |(k',v')::r=>if k=k' then r else(k',v')::sZ k r
variable {ek : A.EK} {eK : κ → AV} {eV : ν → AV} (hq : ∀ a b, A.fN ek (eK a) (eK b) = some (decide (a = b)))
include hq
theorem Ek(k:κ):∀l:List (κ×ν),A.find ek (eK k) (l.map λp=>(eK p.1,eV p.2))=some ((dh k l).map eV)
 |[]=>rfl
 |(k',v)::r=>by
  simp only[eY,A.find,hq,aY,dh];by_cases h:k=k'
  ·simp [h]
  ·simp [h,Ek k r]
theorem Gg(k:κ)(v:ν):∀l:List (κ×ν),A.upd ek (eK k) (eV v) (l.map λp=>(eK p.1,eV p.2))=some ((eH k v l).map λp=>(eK p.1,eV p.2))
 |[]=>rfl
 |(k',v')::r=>by
  simp only[eY,A.upd,hq,aY,eH];by_cases h:k=k'
  ·simp [h]
  ·simp [h,Gg k v r]
theorem aez(k:κ):∀l:List (κ×ν),A.del ek (eK k) (l.map λp=>(eK p.1,eV p.2))=some ((sZ k l).map λp=>(eK p.1,eV p.2))
 |[]=>rfl
 |(k',v')::r=>by
  simp only[eY,A.del,hq,aY,sZ];by_cases h:k=k'
  ·simp [h]
  ·simp [h,aez k r]
end
theorem acJ(a b:ByteArray):A.fN .z (.str a) (.str b)=some (decide (a=b)):=by simp only[A.fN,A.rV,bq]
theorem getD_map{α:Type}(o:Option α)(f:α→AV)(d:α):(o.map f).getD (f d)=f (o.getD d):=by cases o<;>rfl
theorem isSome_map{α:Type}(o:Option α)(f:α→AV):(o.map f).isSome=o.isSome:=by cases o<;>rfl
def yg{κ ν:Type}(eK:κ→AV)(eV:ν→AV)(l:List (κ×ν)):AV:=.fm (l.map λp=>(eK p.1,eV p.2))
section
variable {κ ν : Type} [DecidableEq κ] {ek : A.EK} {eK : κ → AV} {eV : ν → AV} {aJ σ : Heap} {L : List (AV × Ct)} {h : AV} {l : List (κ × ν)}
theorem UP(H:Hp aJ σ L)(k:Nat)(hk:L[k]? =some (h,.m (l.map λp=>(eK p.1,eV p.2)))) (hq:∀a b,A.fN ek (eK a) (eK b)=some (decide (a=b))) (x:κ) (v:ν) (hok:A.lG ek (eK x)=true):∃σ',A.fS ek h (eK x) (eV v) σ=some σ'∧Hp aJ σ' (L.set k (h,.m ((eH x v l).map λp=>(eK p.1,eV p.2)))):=ao4 H hk hok (Gg hq x v l)
theorem ao1(H:Hp aJ σ L)(k:Nat)(hk:L[k]? =some (h,.m (l.map λp=>(eK p.1,eV p.2)))) (hq:∀a b,A.fN ek (eK a) (eK b)=some (decide (a=b))) (x:κ) (hok:A.lG ek (eK x)=true):∃σ',A.GG ek h (eK x) σ=some σ'∧Hp aJ σ' (L.set k (h,.m ((sZ x l).map λp=>(eK p.1,eV p.2)))):=ao3 H hk hok (aez hq x l)
theorem anm(H:Hp aJ σ L)(k:Nat)(hk:L[k]? =some (h,.m (l.map λp=>(eK p.1,eV p.2)))) (hq:∀a b,A.fN ek (eK a) (eK b)=some (decide (a=b))) (x:κ) (z:ν) (hok:A.lG ek (eK x)=true):A.look ek h (eK x) (eV z) σ=some (eV ((dh x l).getD z)):=by rw[ao2 H hk hok (Ek hq x l),getD_map]
theorem anf(hq:∀a b,A.fN ek (eK a) (eK b)=some (decide (a=b)))(x:κ)(z:ν)(hok:A.lG ek (eK x)=true):A.look ek (yg eK eV l) (eK x) (eV z) σ=some (eV ((dh x l).getD z)):=by simp only[A.look,yg,hok,cq,A.entries,aY,Ek hq,cC,getD_map]
end
section
variable {α : Type} {c : α → aq} {l ys : List α} {aJ σ : Heap} {L : List (AV × Ct)} {h : AV} {sz : Nat}
end
end
section
def j0{α:Type}(f:Nat→α→Int):List α→Nat→Int
 |[],_=>0
 |x::l,i=>if f i x=0 then j0 f l (i+1)else f i x
section
variable {α β γ S B R : Type}
theorem Bv{f:Nat→α→Int}:∀(l:List α)(i:Nat),j0 f l i=0↔∀j x,l[j]? =some x→f (i+j) x=0
 |[],i=>by simp [j0]
 |y::l,i=>by
  rw[j0];by_cases h:f i y=0
  ·rw[aO h,Bv l (i+1)];constructor
   ·intro k j x hx;cases j with
    |zero=>simp at hx;subst hx;exact h
    |succ j=>have:=k j x (by simpa using hx);rwa[show i+1+j=i+(j+1) by omega]at this
   ·intro k j x hx;have:=k (j+1) x (by simpa using hx);rwa[show i+(j+1)=i+1+j by omega]at this
  ·rw[aK h];exact⟨λe=>absurd e h,λk=>absurd (k 0 y rfl) h⟩
theorem Lo{l:List α}{body:Nat→α→S→Option (Lr S B R)}{fin:S→Option B}{s:S}{K1:B→Option γ}{K2:R→Option γ}(hl:l.length≤bu):oa l body fin s K1 K2=(pN body fin l 0 s).bind λq=>q.elim K1 K2:=aO hl
theorem D3{f:Nat→α→Int}{l:List α}{body:Nat→α→Unit→Option (Lr Unit Unit Int)}{fin:Unit→Option Unit}{s:Unit}{K1:Unit→Option γ}{K2:Int→Option γ}(hl:l.length≤bu)(hb:∀i x,l[i]? =some x→body i x ()=some (if f i x=0 then .go ()else .ret (f i x)))(hf:fin ()=some ():=by rfl):oa l body fin s K1 K2=if j0 f l 0=0 then K1 ()else K2 (j0 f l 0):=by
 rw[Lo hl]
 have key:∀(rest pre:List α),l=pre++rest→pN body fin rest pre.length ()=some (if j0 f rest pre.length=0 then .inl ()else .inr (j0 f rest pre.length)):=by
  intro rest;induction rest with
  |nil=>intro pre _;simp [pN,hf,j0]
  |cons x rest ih=>
   intro pre hp;rw[pN,hb pre.length x (by rw[hp];simp),aY,j0];by_cases h:f pre.length x=0
   ·simp only[h,if_true];have:=ih (pre++[x]) (by simpa using hp);simpa using this
   ·simp only[h,if_false]
 have k:=key l [] rfl;rw[List.length_nil]at k;rw[show s=()from rfl,k,aY];split<;>rfl
theorem Je{p:Prop}[Decidable p]{k f:Int}{Y:Option (Lr Unit Unit Int)}(hk:k≠0)(h:Y=some (if f=0 then .go ()else .ret f)):(if p then some (.ret k)else Y)=some (if(if p then k else f)=0 then .go ()else .ret (if p then k else f)):=by
 by_cases hp:p
 ·simp [hp,hk]
 ·simp [hp,h]
theorem go_ret:(some (.go ()):Option (Lr Unit Unit Int))=some (if(0:Int)=0 then .go ()else .ret 0):=rfl
theorem abJ(k:Int):(if k=0 then some (.go ())else some (.ret k):Option (Lr Unit Unit Int))=some (if k=0 then .go ()else .ret k):=by split<;>rfl
theorem alJ{p:α→Bool}{l:List α}{body:Nat→α→Unit→Option (Lr Unit Unit R)}{r:α→R}{fin:Unit→Option Unit}{s:Unit}{K1:Unit→Option γ}{K2:R→Option γ}(hl:l.length≤bu)(hb:∀i x,l[i]? =some x→body i x ()=some (if p x=true then .ret (r x)else .go ()))(hf:fin ()=some ():=by rfl):oa l body fin s K1 K2=match l.find? p with|some x=>K2 (r x)|none=>K1 ():=by
 rw[Lo hl]
 have key:∀(rest pre:List α),l=pre++rest→pN body fin rest pre.length ()=some (match rest.find? p with|some x=>.inr (r x)|none=>.inl ()):=by
  intro rest;induction rest with
  |nil=>intro pre _;simp [pN,hf]
  |cons x rest ih=>
   intro pre hp;rw[pN,hb pre.length x (by rw[hp];simp),aY,List.find?_cons];cases h:p x
   ·simp only[Bool.false_eq_true,if_false];have:=ih (pre++[x]) (by simpa using hp);simpa using this
   ·simp only[if_true]
 have k:=key l [] rfl;rw[List.length_nil]at k;rw[show s=()from rfl,k,aY];cases l.find? p<;>rfl
theorem OV{l:List α}{body:Nat→α→S→Option (Lr S B R)}{fin:S→Option B}{s:S}{K1:B→Option γ}{K2:R→Option γ}(g:S→α→S)(P:Nat→S→Prop)(hl:l.length≤bu)(h0:P 0 s)(hP:∀i x s,l[i]? =some x→P i s→P (i+1) (g s x))(hb:∀i x s,l[i]? =some x→P i s→body i x s=some (.go (g s x))):oa l body fin s K1 K2=(fin (l.foldl g s)).bind K1:=by
 rw[Lo hl]
 have key:∀(rest pre:List α)(s:S),l=pre++rest→P pre.length s→pN body fin rest pre.length s=(fin (rest.foldl g s)).map .inl:=by
  intro rest;induction rest with
  |nil=>intro pre s _ _;simp [pN]
  |cons x rest ih=>
   intro pre s hp hq;have hx:l[pre.length]? =some x:=by rw[hp];simp
   rw[pN,hb pre.length x s hx hq,aY,List.foldl_cons];have:=ih (pre++[x]) (g s x) (by simpa using hp) (by simpa using hP _ _ _ hx hq);simpa using this
 have k:=key l [] s rfl h0;rw[List.length_nil]at k;rw[k];cases fin (l.foldl g s)<;>rfl
def pv [Inhabited α](l:List α)(i:Nat):α:=if 0<i then l.getD (i-1) default else default
theorem adj{l:List α}{i:Int}{x:α}(h0:0≤i)(h:l[i.toNat]? =some x):zH l i=some x:=by rw[zH,aO h0,h]
theorem Jg [Inhabited α]{l:List α}{i:Nat}{x:α}(h:l[i]? =some x)(hl:l.length≤bu):(if decide (0<(i:Int))=true then zH l (IntKind.i64.wrap ((i:Int) -1))else some default)=some (pv l i):=by
 have hi:=(bQ.1 h).1;unfold pv;by_cases h0:0<i
 ·rw[aO (by simpa using h0),aO h0,cR (by unfold aU;unfold bu at hl;omega)];refine adj (by omega) ?_;have:((i:Int) -1).toNat=i-1:=by omega
  rw[this,List.getD,bR (by omega)];rfl
 ·rw[aK (by simpa using h0),aK h0]
theorem Vs{a b:Int}:(([a,b]:List Int).find? λn=>decide (¬n=0)).getD 0=if ¬(a=0)then a else b:=by
 by_cases ha:a=0
 ·by_cases hb:b=0<;>simp [ha,hb,List.find?]
 ·simp [ha,List.find?]
end
theorem Pw(s:ByteArray):s.toList=s.data.toList:=ByteArray.toList_eq s
theorem UJ:∀(a b:List UInt8),Lib.compareBytes a b<0↔Op.bytesLess a b=true
 |[],[]=>by simp [Lib.compareBytes,Op.bytesLess]
 |[],_::_=>by simp [Lib.compareBytes,Op.bytesLess]
 |_::_,[]=>by simp [Lib.compareBytes,Op.bytesLess]
 |a::x,b::y=>by
  rw[Lib.compareBytes,Op.bytesLess];by_cases h1:a<b
  ·simp [h1]
  ·by_cases h2:b<a
   ·have:a≠b:=by rintro rfl;exact h1 h2
    simp [h1,h2,this]
   ·have:a=b:=UInt8.le_antisymm (UInt8.not_lt.1 h2) (UInt8.not_lt.1 h1);subst this;simp [UInt8.lt_irrefl,UJ x y]
theorem UI:∀(a b:List UInt8),Lib.compareBytes a b=0↔a=b
 |[],[]=>by simp [Lib.compareBytes]
 |[],_::_=>by simp [Lib.compareBytes]
 |_::_,[]=>by simp [Lib.compareBytes]
 |a::x,b::y=>by
  rw[Lib.compareBytes];by_cases h1:a<b
  ·have:a≠b:=by rintro rfl;exact UInt8.lt_irrefl _ h1
   simp [h1,this]
  ·by_cases h2:b<a
   ·have:a≠b:=by rintro rfl;exact UInt8.lt_irrefl _ h2
    simp [h1,h2,this]
   ·have:a=b:=UInt8.le_antisymm (UInt8.not_lt.1 h2) (UInt8.not_lt.1 h1);subst this;simp [UInt8.lt_irrefl,UI x y]
def gQ(a b:aG):Bool:=decide (a.unit<b.unit)||(decide (a.unit=b.unit)&&Op.bytesLess a.param.toList b.param.toList)
def za(a b:aG):Int:=if ¬(a.unit=b.unit)then(if a.unit<b.unit then -1 else 1)else Lib.compareBytes a.param.data.toList b.param.data.toList
theorem UK(a b:aG):za a b<0↔gQ a b=true:=by
 unfold za gQ;by_cases h:a.unit=b.unit
 ·simp [h,Pw,UJ]
 ·by_cases h2:a.unit<b.unit<;>simp [h,h2]
theorem aoz(a b:aG):decide (0≤za a b)=!gQ a b:=by
 have:=UK a b;cases h:gQ a b
 ·rw[h]at this;simp at this;simp [this]
 ·rw[h]at this;simp at this;simp [this]
theorem aoy(a b:aG):za a b=0↔a=b:=by
 obtain⟨u,p⟩:=a;obtain⟨v,q⟩:=b;unfold za;by_cases h:u=v
 ·subst h;simp only[not_true_eq_false,if_false,UI,aG.mk.injEq,true_and];exact⟨λe=>by obtain⟨⟨p⟩⟩:=p;obtain⟨⟨q⟩⟩:=q;simp at e;subst e;rfl,λe=>by rw[e]⟩
 ·by_cases h2:u<v<;>simp [h,h2]
end
section
open Go.Sort
theorem adw:∀a:List UInt8,Op.bytesLess a a=false
 |[]=>rfl
 |x::l=>by simp [Op.bytesLess,UInt8.lt_irrefl,adw l]
theorem abC:∀a b c:List UInt8,Op.bytesLess a b=true→Op.bytesLess b c=true→Op.bytesLess a c=true
 |[],[],c,h,_=>by simp [Op.bytesLess]at h
 |[],_::_,[],_,k=>by simp [Op.bytesLess]at k
 |[],_::_,_::_,_,_=>rfl
 |_::_,[],c,h,_=>by simp [Op.bytesLess]at h
 |_::_,_::_,[],_,k=>by simp [Op.bytesLess]at k
 |x::a,y::b,z::c,h,k=>by
  rw[Op.bytesLess]at h k ⊢;simp only[Bool.or_eq_true,jC,decide_eq_true_eq,beq_iff_eq]at h k ⊢;rcases h with h|⟨rfl,h⟩<;>rcases k with k|⟨rfl,k⟩
  ·exact .inl (UInt8.lt_trans h k)
  ·exact .inl h
  ·exact .inl k
  ·exact .inr ⟨rfl,abC a b c h k⟩
theorem Ed(a:aG):gQ a a=false:=by simp [gQ,adw]
theorem IU{a b c:aG}(h:gQ a b=true)(k:gQ b c=true):gQ a c=true:=by
 simp only[gQ,Bool.or_eq_true,jC,decide_eq_true_eq]at h k ⊢;rcases h with h|⟨h1,h2⟩<;>rcases k with k|⟨k1,k2⟩
 ·left;omega
 ·left;omega
 ·left;omega
 ·right;exact⟨by omega,abC _ _ _ h2 k2⟩
theorem UT{a b:aG}(h:gQ a b=false)(k:gQ b a=false):a=b:=by
 rw[←aoy];have h1:¬za a b<0:=λe=>by rw[(UK a b).1 e]at h;cases h
 have hba:za b a=-za a b∨True:=.inr trivial
 -- what is neither smaller nor greater is the same
 unfold za at h1 ⊢;simp only[gQ,pK,Bool.and_eq_false_iff,decide_eq_false_iff_not]at h k;have hu:a.unit=b.unit:=by omega
 simp only[hu,not_true_eq_false,if_false]at h1 ⊢
 have e1:Op.bytesLess a.param.data.toList b.param.data.toList=false:=by
  rcases h.2 with q|q
  ·exact absurd hu q
  ·simpa [Pw]using q
 have e2:Op.bytesLess b.param.data.toList a.param.data.toList=false:=by
  rcases k.2 with q|q
  ·exact absurd hu.symm q
  ·simpa [Pw]using q
 rw[UI]
 have tri:∀x y:List UInt8,Op.bytesLess x y=false→Op.bytesLess y x=false→x=y:=by
  intro x;induction x with
  |nil=>intro y p q;cases y with|nil=>rfl|cons y l=>simp [Op.bytesLess]at p
  |cons x xs ih=>
   intro y p q;cases y with
   |nil=>simp [Op.bytesLess]at q
   |cons y ys=>
    rw[Op.bytesLess]at p q;by_cases h1:x<y
    ·simp [h1]at p
    ·by_cases h2:y<x
     ·simp [h2]at q
     ·have:x=y:=UInt8.le_antisymm (UInt8.not_lt.1 h2) (UInt8.not_lt.1 h1);subst this;simp [h1]at p q;rw[ih ys p q]
 exact tri _ _ e1 e2
theorem DZ(a b:aG):ud a b<0↔gQ a b=true:=UK a b
theorem Jh{α:Type}(f:α→aG):SWO (λx y=>decide (ud (f x) (f y)<0)):=by
 refine⟨λx=>?_,λx y z h k=>?_,λx y z h k=>?_⟩
 ·exact bZ λh=>by rw[DZ,Ed]at h;cases h
 ·have h:=(DZ _ _).1 (of_decide_eq_true h);have k:=(DZ _ _).1 (of_decide_eq_true k);exact ct ((DZ _ _).2 (IU h k))
 ·have h:gQ (f x) (f y)=false:=by
   cases q:gQ (f x) (f y)
   ·rfl
   ·exact absurd ((DZ _ _).2 q) (of_decide_eq_false h)
  have k:gQ (f y) (f z)=false:=by
   cases q:gQ (f y) (f z)
   ·rfl
   ·exact absurd ((DZ _ _).2 q) (of_decide_eq_false k)
  refine bZ λq=>?_
  have q:=(DZ _ _).1 q;cases e:gQ (f y) (f x)
  ·have:=UT h e;rw[this,k]at q;cases q
  ·have:=IU e q;rw[k]at this;cases this
theorem ZT(x y:bD)(h:dR x=dR y):x=y:=by obtain⟨⟨a,b⟩,⟨p,q⟩,r⟩:=x;obtain⟨⟨a',b'⟩,⟨p',q'⟩,r'⟩:=y;simp [dR]at h;obtain⟨rfl,rfl,rfl,rfl,rfl⟩:=h;rfl
end
section
open Go.RowKit Go.Sort
set_option maxRecDepth 100000
theorem aiS{α:Type}[Inhabited α]{enc:α→List Value}{k:Nat}(hk:∀x,(enc x).length=k){w:World}{b off n:Nat}{d d':Array α}{os:Array Obj}{arr:Array Value}{bt:TypeId}(hs:d'.size=d.size)
  (hb:w.heap[b]? =some (.cells arr bt (0,0))) (hfit:off+d.size*k≤arr.size):
  Below w.heap.size (w.fI b (.cells (iQ arr off (d'.toList.flatMap enc)) bt (0,0))) (sortWorldK enc k w b off n d' os):=by
 have hlt:b<w.heap.size:=(xF.1 hb).1
 have hfl:(d'.toList.flatMap enc).length=d'.size*k:=by
  have:∀l:List α,(l.flatMap enc).length=l.length*k:=by
   intro l;induction l with
   |nil=>simp
   |cons x l ih=>simp [hk,ih,gJ];omega
  rw[this,Array.length_toList]
 have mu:∀(l:List α)(t:Nat),t<l.length*k→(l.flatMap enc)[t]? =some ((enc l.toArray[t / k]!)[t % k]!):=by
  intro l;induction l with
  |nil=>intro t ht;simp at ht
  |cons x l ih=>
   intro t ht;have hk0:0<k:=Nat.pos_of_ne_zero λe=>by subst e;simp at ht
   rw[List.flatMap_cons];by_cases h:t<k
   ·rw[jk (by rw[hk];exact h),Nat.div_eq_of_lt h,Nat.mod_eq_of_lt h];simp [hk,h]
   ·rw[jj (by rw[hk];omega),hk,ih (t-k) (by simp [gJ]at ht;omega)];have e1:t / k=(t-k) / k+1:=by rw[Nat.div_eq_sub_div hk0 (by omega)]
    have e2:t % k=(t-k) % k:=by rw[Nat.mod_eq_sub_mod (by omega)]
    rw[e1,e2];simp
 have hcells:putCells id off (flatK enc k d') arr=iQ arr off (d'.toList.flatMap enc):=by
  apply Array.ext_getElem?;intro j;rw[F0 _ _ _ (by rw[hfl,hs];omega)];simp only[putCells,Array.getElem?_mapIdx,size_flatK];by_cases hj:off≤j∧j<off+d'.size*k
  ·rw[aO (by rw[hfl];exact hj)];have hja:j<arr.size:=by rw[hs]at hj;omega
   rw[xG hja,cC,aO hj];have:=mu d'.toList (j-off) (by rw[Array.length_toList];omega);rw[this];simp only[id];rw[get_flatK _ _ _ _ (by omega)]
  ·rw[aK (by rw[hfl];exact hj)];by_cases hja:j<arr.size
   ·rw[xG hja,cC,aK hj]
   ·rw[Array.getElem?_eq_none (by omega),Option.map_none]
 refine⟨rfl,rfl,rfl,?_,λi hi=>?_⟩
 ·rw[Ck];simp [sortWorldK,grow,putRowK,putRow,mapBlock,Sort.ahead]
 ·have hi':i<(putRowK enc k (Sort.ahead w n) b off d').heap.size:=by simp [putRowK,putRow,mapBlock,Sort.ahead];exact hi
  show(grow (putRowK enc k (Sort.ahead w n) b off d') os).heap[i]? =_;unfold grow;simp only;rw[Array.getElem?_append_left hi'];simp only[putRowK,putRow,mapBlock,Sort.ahead];rw[Array.getElem?_modify];by_cases h:b=i
  ·subst h;rw[aO rfl,yB _ hlt,hb];simp only[cC,onCells,hcells]
  ·rw[aK h,Bo _ h]
theorem ak4{P:Program}{nm:List Nat}{f g:FuncId}{α:Type}[Inhabited α]{sz:Nat}{c:α→aq}{enc:α→List Value}{cf:α→α→Int}(hsz:0<sz)(hinj:∀x y,c x=c y→x=y)(iq:∀x,(c x).length=sz)
  (EJ:∀cc x,aP cc (c x) (enc x)) (arx:∀cc x vs,aP cc (c x) vs→vs=enc x) (hone:∀x,∀v∈enc x,ff v=true)
  (hf:∀us w,(callFunc f us).run P w=.ok (.enter f us) w) (hnone:∀w,Calls P f #[.slice none 0 0,.func (.func g) #[] #[]] w λe w'=>e=.returned (.tuple #[])∧Below w.heap.size w w')
  (arp:∀(blk off cap:Nat)(d:Array α)(w:World),HoldsK enc sz w blk off d→blk<w.heap.size→d.size<4611686018427387904→Calls P f #[.slice (some ⟨blk,off,none⟩) d.size cap,.func (.func g) #[] #[]] w λe w'=>
   e=.returned (.tuple #[])∧∃n os,w'=sortWorldK enc sz w blk off n (pdq (λx y=>decide (cf x y<0)) d 0 d.size (Lib.bitLen d.size) true true) os)
  (hsize:∀d:Array α,(pdq (λx y=>decide (cf x y<0)) d 0 d.size (Lib.bitLen d.size) true true).size=d.size)
  {x:AV} {σ:Heap} {r:AV} {σ':Heap} (hm:A.LN sz c cf x σ=some (r,σ')) {n:Nat} (hn:∀f,nm.getD f 0=n→f=g):pH P nm f [x,.fn n []] σ r σ':=by
 refine .inl ⟨f,hf,λz vs e1 e2 hh ha=>?_⟩;obtain⟨v,u,rfl,r1,r2⟩:=Qr ha;simp only[an]at r2;obtain⟨f',us,rfl,k1,k2⟩:=r2;have hf':f'=g:=hn f' (by rw[←e1];exact k1);have XO:us=#[]:=by simp only[aP]at k2;exact pL.1 k2
 subst hf' XO;have hout:Out z z.w z.E:=⟨rfl,rfl,rfl,aQ _,λ_ _ _=>rfl,λi p hp=>.inr ⟨p,hp,rfl⟩,λi p hp=>⟨p,hp,.inl rfl⟩,e2,λp hp=>hh.lt hp⟩
 unfold A.LN at hm;cases x<;>simp only at hm<;>first|(cases hm;done)|skip
 case az=>
  simp only[Option.some.injEq,Prod.mk.injEq]at hm;obtain⟨rfl,rfl⟩:=hm;simp only[an]at r1;subst r1;refine(hnone z.w).mono ?_;rintro e w' ⟨rfl,hb⟩;exact⟨_,z.E,rfl,hout.grow hb,hh.mono (zT hb) rfl (λp hp=>hb.block _ (hh.lt hp)),by simp [an,aP]⟩
 case os=>
  rename_i id gg iD off len;simp only[an]at r1;obtain⟨hg,p,k3,k4,qa,cap,rfl,hcap,rx⟩:=r1;split at hm
  ·rename_i g' sz' es hs;split at hm
   ·rename_i hc;obtain⟨⟨c1,c2,c3,c4,c5,c6⟩,c7⟩:=hc;subst c1;subst c2;subst c3;simp only[Option.some.injEq,Prod.mk.injEq]at hm;obtain⟨rfl,rfl⟩:=hm;have hl:=Classical.choose_spec c7;generalize Classical.choose c7=l at hl ⊢;obtain⟨j1,j2,j3,j4,⟨arr,bt,j5,j6⟩,j7,j8,j9⟩:=hh.blk id p _ k3 hs;obtain⟨q1,q2,q3⟩:=rx j1.symm;have A8:qa=⟨p.b,p.base+off*p.sz,none⟩:=q2.resolve_left (by omega)
    have Dx:l.length=len:=by have:=congrArg List.length hl;simp at this;omega
    have hmul:(off+len)*iD≤es.length*iD:=qp _ c4;rw[gJ]at hmul;have B8:z.w.heap[p.b]? =some (.cells arr bt (0,0)):=j5;have hlt:p.b<z.w.heap.size:=(xF.1 B8).1;have atj:p.sz=iD:=q1
    have aql:HoldsK enc iD z.w p.b (p.base+off*iD) l.toArray:=by
     intro t ht;simp only[size_flatK,List.size_toArray]at ht;rw[get_flatK _ _ _ _ (by simpa using ht)];have uG:t / iD<l.length:=by rw[Nat.div_lt_iff_lt_mul hsz];exact ht
     have A7:es[off+t / iD]? =some (c l[t / iD]):=by
      have h1:((es.drop off).take len)[t / iD]? =(l.map c)[t / iD]? :=by rw[hl]
      rw[List.getElem?_take_of_lt (by omega),List.getElem?_drop,qH,bR uG]at h1;exact h1
     obtain⟨_,m2⟩:=bP.nth j8 A7;obtain⟨vs,m3,m4,m5⟩:=m2.Nx;have m6:=arx _ _ _ m3;subst m6;have hmod:t % iD<(enc l[t / iD]).length:=by rw[←(EJ (ctx z z.w z.E dS) _).length,iq];exact Nat.mod_lt _ hsz
     have m7:=m5 (t % iD) _ (bR hmod)
     have e:p.base+(off+t / iD)*iD+t % iD=p.base+off*iD+t:=by have:=Nat.div_add_mod t iD;rw[gJ,Nat.mul_comm (t / iD)];omega
     rw[e]at m7;refine⟨?_,by simp [World.frozen?,B8]⟩;rw[show z.w.cell? ⟨p.b,p.base+off*iD+t,none⟩=_ from m7];simp [uG,hmod]
    have GA:=arp p.b (p.base+off*iD) cap l.toArray z.w aql hlt (by simpa [Dx]using c6);rw[A8,atj];simp only[List.size_toArray,Dx]at GA;refine GA.mono ?_;rintro e w' ⟨rfl,nn,os,rfl⟩;have hd':=hsize l.toArray;simp only[List.size_toArray,Dx]at hd';generalize tK:pdq (λx y=>decide (cf x y<0)) l.toArray 0 len (Lib.bitLen len) true true=d' at hd' ⊢;have hsw:=aiS (enc:=enc) (k:=iD) (λx=>by rw[←(EJ (ctx z z.w z.E dS) x).length,iq]) (w:=z.w) (b:=p.b) (off:=p.base+off*iD) (n:=nn) (d:=l.toArray) (d':=d') (os:=os) (by rw[hd'];simp [Dx]) B8 (by simp [Dx];rw[j6];omega)
    have ato:St ⟨P,nm,λ_ _ _=>none,λ_ _ _=>none,[],[],0,[]⟩ z ⟨[],λ_=>none,σ⟩ {tmps:=#[],defers:=[]} z.w z.E dS:=
     ⟨rfl,rfl,λi av hi=>by simp at hi,λi cs hi=>by simp at hi,λt p hp=>(by cases hp),λi b hb=>(by cases hb),λi j b hb=>(by cases hb),hh,rfl,hout,e1.symm⟩
    have hnl:(d'.toList.map c).length=len:=by rw[List.length_map,Array.length_toList,hd']
    obtain⟨_,hst⟩:=O6 ato (i:=off) (ys:=d'.toList.map c) (news:=d'.toList.flatMap enc) k3 hs j5 (by rw[hnl];exact c4) (by
      generalize d'.toList=l';induction l' with
      |nil=>simp [aP]
      |cons x l' ih=>simp only[eY,List.flatten_cons,List.flatMap_cons];exact(EJ _ x).append ih)
     (λx hx=>by obtain⟨y,_,hy⟩:=List.mem_flatMap.1 hx;exact hone y x hy) (λy hy=>by obtain⟨x,_,rfl⟩:=ia.1 hy;exact iq x)
     (by
      have:∀l:List α,(l.flatMap enc).length=l.length*iD:=by
       intro l;induction l with
       |nil=>simp
       |cons x l ih=>simp only[List.flatMap_cons,List.length_append,ih,←(EJ (ctx z z.w z.E dS) x).length,iq,List.length_cons,gJ];omega
      rw[this,List.length_map])
    have AJ:=hst.grow (w':=sortWorldK enc iD z.w p.b (p.base+off*iD) nn d' os) (by rw[Ck];exact hsw);refine⟨_,z.E,rfl,AJ.out,?_,by simp [an,aP]⟩;have hpd:xP cf l=d'.toList:=by unfold xP;rw[Dx,tK]
    rw[hnl]at AJ;rw[hpd];exact AJ.heap
   ·cases hm
  ·cases hm
def zS(x:bD):List Value:=[.int .i64 x.key.unit,.string x.key.param,.int .i64 x.value.level,.int .i64 x.value.iV,.int .i64 x.cZ]
theorem Ur{W:World}{o1 o2:Obj}:∃q os',(W.alloc o1).alloc o2=grow (W.drewN q) os':=⟨0,_,by rw[alloc_eq_grow,alloc_eq_grow,grow_grow];rfl⟩
theorem alO{W:World}{o1 o2:Obj}{q:Nat}{os:Array Obj}:∃q' os',grow (((W.alloc o1).alloc o2).drewN q) os=grow (W.drewN q') os':=⟨q,_,by rw[alloc_eq_grow,alloc_eq_grow,grow_grow];show grow (grow (W.drewN q) _) os=_;rw[grow_grow]⟩
theorem aip(a b:aG)(W:World):Calls Tryz.prog 203 #[.agg #[.int .i64 a.unit,.string a.param],.agg #[.int .i64 b.unit,.string b.param]] W λe w'=>e=.returned (.int .i64 (ud a b))∧∃q os',w'=grow (W.drewN q) os':=by
 have GA:=λ(x y:ByteArray)W'=>Tryz.strings_Compare x y W'
 go_enter Tryz.func203,Tryz.ntmps203
 go_wp2_with (go_at_call 61;refine(GA _ _ _).mono ?_;rintro e w' ⟨rfl,rfl⟩)
 ·go_ret
  have h1:a.unit≠b.unit:=by omega
  exact⟨by rw[ud,aO h1,aO (by omega)];rfl,Ur⟩
 ·go_ret
  have h1:a.unit≠b.unit:=by simpa using ‹(a.unit !=b.unit)=true›
  exact⟨by rw[ud,aO h1,aK (by omega)];rfl,Ur⟩
 ·go_ret
  have h1:a.unit=b.unit:=by first|simpa using ‹(a.unit !=b.unit)=false›|simpa using ‹¬(a.unit !=b.unit)=true›|omega
  exact⟨by rw[ud,aK (by simpa using h1)];rfl,Ur⟩
theorem amp(cc:RC)(x:bD):aP cc (dR x) (zS x):=by obtain⟨⟨a,b⟩,⟨p,q⟩,r⟩:=x;simp [dR,zS,aP,an]
theorem ala(cc:RC)(x:bD)(vs:List Value)(e:aP cc (dR x) vs):vs=zS x:=by obtain⟨⟨a,b⟩,⟨p,q⟩,r⟩:=x;simpa [dR,zS,aP,an]using e
theorem aa5(x:bD)(v:Value)(h:v∈zS x):ff v=true∧v.oneCell'=true:=by simp [zS]at h;rcases h with rfl|rfl|rfl|rfl|rfl<;>exact⟨rfl,rfl⟩
theorem anO{α:Type}[Inhabited α]{cf:α→α→Int}(hS:SWO (λx y=>decide (cf x y<0))) (d:Array α):(pdq (λx y=>decide (cf x y<0)) d 0 d.size (Lib.bitLen d.size) true true).size=d.size:=
 (pdq_sorts (λx y=>decide (cf x y<0)) hS d 0 d.size (Lib.bitLen d.size) true true (jQ _) (aQ _) (Or.inl rfl)).1.1
theorem aih(a b:bD)(W:World):Calls Tryz.prog 202 #[.agg (zS a).toArray,.agg (zS b).toArray] W λe w'=>e=.returned (.int .i64 (ud a.key b.key))∧∃q os',w'=grow (W.drewN q) os':=by
 have GA:=λW'=>aip a.key b.key W'
 unfold zS;generalize ud a.key b.key=r at GA ⊢
 go_enter Tryz.func202,Tryz.ntmps202
 go_wp2_with (go_at_call 203;refine(GA _).mono ?_;rintro e w' ⟨rfl,q,os',rfl⟩)
 go_ret
 exact⟨rfl,alO⟩
theorem afA:Sound Tryz.prog aN 201 Kp:=by
 intro args σ r σ' h;unfold Kp A.dL at h;split at h
 ·rename_i x f aJ;simp only at h;split at h
  ·have eg:∀args w,(callFunc 202 args).run Tryz.prog w=.ok (.enter 202 args) w:=Tryz.call202;refine @ak4 Tryz.prog aN 201 202 bD ⟨⟨⟨0,⟨#[]⟩⟩,⟨0,0⟩,0⟩⟩ 5 dR zS (λa b=>ud a.key b.key) (by decide) (λx y e=>?_) (λ_=>rfl) (λcc x=>?_) (λcc x vs e=>?_) (λx v hv=>?_) Tryz.call201 (λw=>?_) (λblk off cap d w hH hb hd=>?_) (λd=>?_) _ _ _ _ h _ (λf hf=>adU (by kernel_rfl) rfl hf)
   ·exact ZT x y e
   ·exact amp cc x
   ·exact ala cc x vs e
   ·exact(aa5 x v hv).1
   ·exact(AnyF.slices_SortFunc_none (P:=Tryz.prog) {Tryz.sort201 with} none 0 _ w).mono λe w'⟨h1,h2⟩=>⟨h1,h2▸Below.refl _ _⟩
   ·exact AnyQ.slices_SortFunc_eq Tryz.sort201 5 Tryz.isAgg221 Tryz.sizeOf221 zS (λ_=>rfl) (λx v hv=>(aa5 x v hv).2) (λa b=>ud a.key b.key) (Jh λe:bD=>e.key) 202 #[] blk off cap d w eg (λ_ _ _ _ x y=>aih x y _) hH hb hd
   ·exact anO (Jh λe:bD=>e.key) d
  ·cases h
 ·cases h
end
section
set_option maxRecDepth 100000
theorem akV:Sound Tryz.prog aN 260 TC:=q1 [] 35 (.s .n (.s (.s .n (.b (.l [2,7] [.exit 0,.ret] (.s .n (.s eS (.s (.b (.s .n (.s .n bH))) .n)))))) bk)) aI.nil Tryz.func260 Tryz.call260 (λa0 σ=>by kernel_rfl) rfl rfl
theorem Tn:Sound Tryz.prog aN 240 II:=q1 [] 20 (.s .n bk) (aI.cons akV aI.nil) Tryz.func240 Tryz.call240 (λa0 σ=>by kernel_rfl) rfl rfl
theorem uQ:Sound Tryz.prog aN 89 lQ:=q3 [] 15 (.s .n bk) aI.nil Tryz.func89 Tryz.call89 (λa0 a1 a2 σ=>by kernel_rfl) rfl rfl
theorem YC:Sound Tryz.prog aN 241 Ku:=q1 [] 5 (.s .n bk) (aI.cons uQ aI.nil) Tryz.func241 Tryz.call241 (λa0 σ=>by kernel_rfl) rfl rfl
theorem agH:Sound Tryz.prog aN 242 RS:=q1 [5] 63 (.s .n (.s bH (.s .n (.s (.s .n (.b (.l [2,12] [.exit 0,.ret] (.s .n (.s eS (.s (.b (.s .n (.s (.b (.s .n (.j bk (.s .n (.j bk (.s .n (.j bk bH))))))) .n))) .n)))))) bk)))) (aI.cons YC (aI.cons Tn aI.nil)) Tryz.func242 Tryz.call242 (λa0 σ=>by kernel_rfl) rfl rfl
theorem agA:Sound Tryz.prog aN 198 RM:=q1 [1,6] 115 (.s .n (.s (.b (.s .n (.j bk (.s .n (.j bk (.s .n (.j bk bH))))))) (.s .n (.s (.s .n (.b (.l [1,2,33] [.exit 1,.ret] (.s .n (.s eS (.s (.b (.s .n (.s (.b (.s .n (.j bk (.s .n (.j bk (.s .n (.j bk (.s .n (.j bk bH))))))))) (.s (.s .n bH) (.s .n (.s .n (.c [1] .n .n))))))) .n)))))) bk)))) (aI.cons Tn (aI.cons uQ (aI.cons YC (aI.cons agH aI.nil)))) Tryz.func198 Tryz.call198 (λa0 σ=>by kernel_rfl) rfl rfl
theorem agz:Sound Tryz.prog aN 153 RL:=q1 [5] 30 (.s .n (.s bH (.s .n (.s (.s .n (.b (.l [2,13] [.exit 0,.ret] (.s .n (.s eS (.s (.b (.s .n (.s (.s .n bH) (.s bH .n)))) .n)))))) bk)))) (aI.cons agA aI.nil) Tryz.func153 Tryz.call153 (λa0 σ=>by kernel_rfl) rfl rfl
noncomputable def afS (dyn:Nat→aq→Heap→aH):Fx:=⟨Tryz.prog,aN,A.tab (λ_ _=>none) [],dyn,[],[],19,[]⟩
theorem afR(dyn:Nat→aq→Heap→aH)(hd:∀f,Sound Tryz.prog aN f (dyn (aN.getD f 0))):Sound Tryz.prog aN 156 (A.wrap true [(.s 3)] .k (A.dL (NR dyn))):=
 Sound.wrap (Sound.ux (X:=afS dyn) (fn:=Tryz.f156) (cL:=(.s .n (.s (.s .n (.b (.l [4,8] [.exit 0,.ret] (.s .n (.s eS (.s (.b (.s .n bH)) .n)))))) bk))) .F trivial (eZ.of rfl aI.nil (hd)) Tryz.func156 Tryz.call156 (λa0 a1 σ=>by kernel_rfl)) _ _ _ rfl rfl
theorem afQ(dyn:Nat→aq→Heap→aH)(hd:∀f,Sound Tryz.prog aN f (dyn (aN.getD f 0))):Sound Tryz.prog aN 156 (NQ dyn):=afR dyn hd
theorem Yn:Sound Tryz.prog aN 157 Kr:=q2 [2] 8 (.s .n bk) aI.nil Tryz.func157 Tryz.call157 (λa0 a1 σ=>by kernel_rfl) rfl rfl
noncomputable def ag9:Fx:=⟨Tryz.prog,aN,A.tab (λ_ _=>none) [(156,NQ (A.tab (λ_ _=>none) [(64,Kr)]))],(A.tab (λ_ _=>none) [(64,Kr)]),[4],[],17,[]⟩
theorem ag7:Sound Tryz.prog aN 99 (A.wrap true [(.s 3)] (.t [(.a [.k,.k,(.e 7 vD)]),.k]) (A.dL (Oa))):=
 Sound.wrap (Sound.ux (X:=ag9) (fn:=Tryz.f99) (cL:=(.s .n (.s .n (.s bH bk)))) .F trivial (eZ.of rfl (aI.cons (afQ _ (wm (lu.cons (sk Yn (by kernel_rfl) rfl) lu.nil))) aI.nil) (wm (lu.cons (sk Yn (by kernel_rfl) rfl) lu.nil))) Tryz.func99 Tryz.call99 (λa0 a1 σ=>by kernel_rfl)) _ _ _ rfl rfl
theorem YD:Sound Tryz.prog aN 99 N6:=ag7
theorem agK:Sound Tryz.prog aN 154 Im:=q3 [] 32 (.s .n (.s bH (.s (.s .n (.b (.l [6,7] [.exit 0,.ret] (.s (.s .n eS) (.s (.b bH) .n))))) bk))) aI.nil Tryz.func154 Tryz.call154 (λa0 a1 a2 σ=>by kernel_rfl) rfl rfl
noncomputable def ahV:Fx:=⟨Tryz.prog,aN,A.tab (λ_ _=>none) [],(λ_ _ _=>none),[4],[15],33,[]⟩
theorem ahT:Sound Tryz.prog aN 155 (A.wrap false [] .k (A.nE (KD))):=
 Sound.wrap (Sound.Mw (X:=ahV) (fn:=Tryz.f155) (cL:=(.s .n (.s (.s .n (.c [4] .n .n)) (.s .n (.b (.l [4,6] [.exit 0] (.s (.s .n eS) (.s (.b .n) .n)))))))) .K trivial (eZ.of rfl aI.nil (λ_=>Sound.none)) Tryz.func155 Tryz.call155 (λa0 a1 a2 σ=>by kernel_rfl)) _ _ _ rfl rfl
theorem ahP:Sound Tryz.prog aN 155 Od:=ahT
theorem Yw:Sound Tryz.prog aN 98 N0:=q1 [1,6,7] 91 (.s .n (.s (.s .n bH) (.s bH (.s .n (.s (.s .n (.b (.l [1,2,23] [.exit 0,.ret] (.s .n (.s eS (.s (.b (.s .n (.s bH (.s bH (.s .n (.s bH (.s bH (.s bH .n)))))))) .n)))))) bk))))) (aI.cons agz (aI.cons uQ (aI.cons YD (aI.cons agK (aI.cons ahP aI.nil))))) Tryz.func98 Tryz.call98 (λa0 σ=>by kernel_rfl) rfl rfl
theorem DX:Sound Tryz.prog aN 41 uR:=q2 [] 7 (.s .n (.s bH bk)) aI.nil Tryz.func41 Tryz.call41 (λa0 a1 σ=>by kernel_rfl) rfl rfl
theorem IC:Sound Tryz.prog aN 40 Bq:=q1 [] 15 (.s .n (.s (.s .n (.b (.l [2,7] [.exit 0,.ret] (.s .n (.s eS (.s (.b (.s .n bH)) .n)))))) bk)) aI.nil Tryz.func40 Tryz.call40 (λa0 σ=>by kernel_rfl) rfl rfl
theorem SG:Sound Tryz.prog aN 38 Iw:=q1 [1,7,8,11] 50 (.s .n (.s (.s .n bH) (.s .n (.s (.s .n (.b (.l [1,5,20] [.exit 0] (.s .n (.s eS (.s (.b (.s .n (.s .n (.s .n (.b (.l [1,5,7,35] [.exit 2] (.s .n (.s eS (.s (.b bk) .n))))))))) .n)))))) bk)))) (aI.cons Yw (aI.cons YD aI.nil)) Tryz.func38 Tryz.call38 (λa0 σ=>by kernel_rfl) rfl rfl
theorem ajF:Sound Tryz.prog aN 147 Tf:=q1 [1,7] 24 (.s .n (.s .n (.s .n (.s (.s .n (.b (.l [16] [.exit 0] (.s .n (.s eS (.s (.b bk) .n)))))) bk)))) (aI.cons SG aI.nil) Tryz.func147 Tryz.call147 (λa0 σ=>by kernel_rfl) rfl rfl
theorem Zk:Sound Tryz.prog aN 194 Oq:=q1 [] 40 (.s .n (.s (.s .n (.b (.l [2,6] [.exit 0,.ret] (.s .n (.s eS (.s (.b (.s .n bH)) .n)))))) bk)) aI.nil Tryz.func194 Tryz.call194 (λa0 σ=>by kernel_rfl) rfl rfl
theorem aiN:Sound Tryz.prog aN 148 SQ:=q1 [] 9 (.s .n bk) (aI.cons Zk aI.nil) Tryz.func148 Tryz.call148 (λa0 σ=>by kernel_rfl) rfl rfl
theorem YX:Sound Tryz.prog aN 149 Of:=q1 [] 5 (.s .n bk) (aI.cons uQ aI.nil) Tryz.func149 Tryz.call149 (λa0 σ=>by kernel_rfl) rfl rfl
theorem aie:Sound Tryz.prog aN 150 SH:=q2 [2,3] 21 (.s .n (.s bH bk)) (aI.cons YF aI.nil) Tryz.func150 Tryz.call150 (λa0 a1 σ=>by kernel_rfl) rfl rfl
theorem Yu:Sound Tryz.prog aN 88 NY:=q2 [2,8,10] 97 (.s .n (.s (.s .n bH) (.s .n (.s (.s .n (.b (.l [4,26] [.exit 0,.ret] (.s .n (.s eS (.s (.b (.s .n (.s (.b (.s .n (.j bk (.s .n (.j bk (.s .n (.j bk bH))))))) (.s .n (.b (.l [4,8,63] [.exit 3,.ret] (.s .n (.s eS (.s (.b (.s .n (.b (.s .n (.j bk (.s .n (.j bk bH))))))) .n))))))))) .n)))))) bk)))) (aI.cons Yw (aI.cons DX (aI.cons IC (aI.cons ajF (aI.cons uQ (aI.cons aiN (aI.cons YX (aI.cons aie aI.nil)))))))) Tryz.func88 Tryz.call88 (λa0 a1 σ=>by kernel_rfl) rfl rfl
theorem Zi:Sound Tryz.prog aN 195 DR:=q1 [] 5 (.s .n bk) (aI.cons uQ aI.nil) Tryz.func195 Tryz.call195 (λa0 σ=>by kernel_rfl) rfl rfl
theorem Yx:Sound Tryz.prog aN 196 N1:=q1 [1,5] 90 (.s .n (.s bH (.s .n (.s bH (.s bH (.s bH (.s (.s .n (.b (.l [2,28] [.exit 0,.ret] (.s .n (.s eS (.s (.b (.s .n bH)) .n)))))) (.s bH (.s (.s .n (.b (.l [2,6] [.exit 2,.ret] (.s (.s .n eS) (.s (.b bH) .n))))) bk))))))))) (aI.cons uQ (aI.cons DX aI.nil)) Tryz.func196 Tryz.call196 (λa0 σ=>by kernel_rfl) rfl rfl
theorem Y3:Sound Tryz.prog aN 203 Oj:=q2 [2,3] 20 (.s .n (.s (.s .n (.j (.s bH bk) .n)) bk)) (aI.cons YF aI.nil) Tryz.func203 Tryz.call203 (λa0 a1 σ=>by kernel_rfl) rfl rfl
theorem ahc:Sound Tryz.prog aN 197 Se:=q1 [4] 99 (.s .n (.s (.s .n (.b (.l [2,7] [.exit 0,.ret] (.s .n (.s eS (.s (.b (.s .n (.b (.s .n (.j bk (.s .n (.j bk (.s .n (.j bk (.s .n (.j bk (.s .n (.j bk (.s .n (.j bk bH))))))))))))))) .n)))))) bk)) (aI.cons uQ (aI.cons Tn (aI.cons Zi (aI.cons Y3 aI.nil)))) Tryz.func197 Tryz.call197 (λa0 σ=>by kernel_rfl) rfl rfl
theorem aam:Sound Tryz.prog aN 151 KS:=q1 [5] 101 (.s .n (.s bH (.s .n (.s (.s .n (.b (.l [2,3,13] [.exit 0,.ret] (.s .n (.s eS (.s (.b (.s .n (.s (.b (.s .n (.j bk (.s .n (.j bk (.s .n (.j bk bH))))))) (.s (.s .n bH) (.s bH (.s (.s .n bH) .n)))))) .n)))))) bk)))) (aI.cons uQ (aI.cons Zk (aI.cons Zi (aI.cons Yx (aI.cons ahc (aI.cons DX aI.nil)))))) Tryz.func151 Tryz.call151 (λa0 σ=>by kernel_rfl) rfl rfl
theorem Zj:Sound Tryz.prog aN 152 Fv:=q3 [4,5,9,11] 55 (.s .n (.s bH (.s bH (.s bH (.s (.s .n (.b (.l [4,5,6,7,31] [.exit 0,.ret] (.s .n (.s eS (.s (.b (.s .n (.s (.s .n eS) (.s (.s .n (.b (.l [4,6,7,43] [.exit 2,.ret] (.s .n (.s eS (.s (.b (.s .n bH)) .n)))))) .n)))) .n)))))) bk))))) (aI.cons YX aI.nil) Tryz.func152 Tryz.call152 (λa0 a1 a2 σ=>by kernel_rfl) rfl rfl
theorem aht:Sound Tryz.prog aN 90 Sm:=q3 [3,12,14,16] 76 (.s .n (.s (.s .n bH) (.s .n (.s .n (.s (.s .n (.b (.l [37] [.exit 0] (.s .n (.s eS (.s (.b bk) .n)))))) (.s (.s .n (.b (.l [6,46] [.exit 2,.ret] (.s .n (.s eS (.s (.b (.s .n (.s .n (.b (.l [6,53] [.exit 4,.ret] (.s .n (.s eS (.s (.b (.s .n (.s bH (.s .n bH)))) .n)))))))) .n)))))) bk)))))) (aI.cons Yu (aI.cons aam (aI.cons IC (aI.cons SG (aI.cons Zj aI.nil))))) Tryz.func90 Tryz.call90 (λa0 a1 a2 σ=>by kernel_rfl) rfl rfl
noncomputable def af4 (dyn:Nat→aq→Heap→aH):Fx:=⟨Tryz.prog,aN,A.tab (λ_ _=>none) [],dyn,[],[],19,[]⟩
theorem af1(dyn:Nat→aq→Heap→aH)(hd:∀f,Sound Tryz.prog aN f (dyn (aN.getD f 0))):Sound Tryz.prog aN 100 (A.wrap true [(.s 2)] .k (A.dL (NU dyn))):=
 Sound.wrap (Sound.ux (X:=af4 dyn) (fn:=Tryz.f100) (cL:=(.s .n (.s (.s .n (.b (.l [4,8] [.exit 0,.ret] (.s .n (.s eS (.s (.b (.s .n bH)) .n)))))) bk))) .F trivial (eZ.of rfl aI.nil (hd)) Tryz.func100 Tryz.call100 (λa0 a1 σ=>by kernel_rfl)) _ _ _ rfl rfl
theorem afY(dyn:Nat→aq→Heap→aH)(hd:∀f,Sound Tryz.prog aN f (dyn (aN.getD f 0))):Sound Tryz.prog aN 100 (NT dyn):=af1 dyn hd
theorem YQ:Sound Tryz.prog aN 101 Kz:=q2 [2] 8 (.s .n bk) aI.nil Tryz.func101 Tryz.call101 (λa0 a1 σ=>by kernel_rfl) rfl rfl
noncomputable def ajS:Fx:=⟨Tryz.prog,aN,A.tab (λ_ _=>none) [(100,NT (A.tab (λ_ _=>none) [(127,Kz)]))],(A.tab (λ_ _=>none) [(127,Kz)]),[2,4],[],19,[]⟩
theorem ajO:Sound Tryz.prog aN 39 (A.wrap true [BO] (.t [(.a [.k,(.e 11 xW)]),.k]) (A.dL (OF))):=
 Sound.wrap (Sound.ux (X:=ajS) (fn:=Tryz.f39) (cL:=(.s .n (.s .n (.s bH bk)))) .F trivial (eZ.of rfl (aI.cons (afY _ (wm (lu.cons (sk YQ (by kernel_rfl) rfl) lu.nil))) aI.nil) (wm (lu.cons (sk YQ (by kernel_rfl) rfl) lu.nil))) Tryz.func39 Tryz.call39 (λa0 a1 σ=>by kernel_rfl)) _ _ _ rfl rfl
theorem ZK:Sound Tryz.prog aN 39 DU:=ajO
theorem ag5:Sound Tryz.prog aN 36 N8:=q1 [1,5,8,9] 107 (.s .n (.s (.s .n bH) (.s (.s .n (.b (.l [1,2,29] [.exit 0,.ret] (.s .n (.s eS (.s (.b (.s .n (.s bH (.s bH (.s .n bH))))) .n)))))) (.s bH (.s (.s .n (.b (.l [1,2,70] [.exit 2,.ret] (.s .n (.s eS (.s (.b (.s .n (.s bH (.s bH (.s (.s .n bH) bH))))) .n)))))) bk))))) (aI.cons Yu (aI.cons DX (aI.cons IC (aI.cons uQ (aI.cons aht (aI.cons ZK aI.nil)))))) Tryz.func36 Tryz.call36 (λa0 σ=>by kernel_rfl) rfl rfl
noncomputable def af3:Fx:=⟨Tryz.prog,aN,A.tab (λ_ _=>none) [],(λ_ _ _=>none),[],[],8,[]⟩
theorem af0:Sound Tryz.prog aN 91 (A.wrap true [(.s 3)] .k (A.dP (RA))):=
 Sound.wrap (Sound.xQ (X:=af3) (fn:=Tryz.f91) (cL:=(.s .n (.s bH bk))) .K trivial (eZ.of rfl aI.nil (λ_=>Sound.none)) Tryz.func91 Tryz.call91 (λa0 σ=>by kernel_rfl)) _ _ _ rfl rfl
theorem afX:Sound Tryz.prog aN 91 Rz:=Br af0 Tryz.call91 ai1
noncomputable def agx:Fx:=⟨Tryz.prog,aN,A.tab (λ_ _=>none) [],(λ_ _ _=>none),[],[],8,[]⟩
theorem agv:Sound Tryz.prog aN 92 (A.wrap true [(.s 4)] .k (A.dP (RJ))):=
 Sound.wrap (Sound.xQ (X:=agx) (fn:=Tryz.f92) (cL:=(.s .n (.s bH bk))) .K trivial (eZ.of rfl aI.nil (λ_=>Sound.none)) Tryz.func92 Tryz.call92 (λa0 σ=>by kernel_rfl)) _ _ _ rfl rfl
theorem agt:Sound Tryz.prog aN 92 RG:=Br agv Tryz.call92 aoF
noncomputable def agp:Fx:=⟨Tryz.prog,aN,A.tab (λ_ _=>none) [],(λ_ _ _=>none),[],[],8,[]⟩
theorem agm:Sound Tryz.prog aN 93 (A.wrap true [(.s 7)] .k (A.dP (Yj))):=
 Sound.wrap (Sound.xQ (X:=agp) (fn:=Tryz.f93) (cL:=(.s .n (.s bH bk))) .K trivial (eZ.of rfl aI.nil (λ_=>Sound.none)) Tryz.func93 Tryz.call93 (λa0 σ=>by kernel_rfl)) _ _ _ rfl rfl
theorem agj:Sound Tryz.prog aN 93 Il:=Br agm Tryz.call93 amW
noncomputable def agr:Fx:=⟨Tryz.prog,aN,A.tab (λ_ _=>none) [],(λ_ _ _=>none),[],[],8,[]⟩
theorem ago:Sound Tryz.prog aN 94 (A.wrap true [(.s 3)] .k (A.dP (RF))):=
 Sound.wrap (Sound.xQ (X:=agr) (fn:=Tryz.f94) (cL:=(.s .n (.s bH bk))) .K trivial (eZ.of rfl aI.nil (λ_=>Sound.none)) Tryz.func94 Tryz.call94 (λa0 σ=>by kernel_rfl)) _ _ _ rfl rfl
theorem agl:Sound Tryz.prog aN 94 Ff:=Br ago Tryz.call94 amY
noncomputable def aga:Fx:=⟨Tryz.prog,aN,A.tab (λ_ _=>none) [],(λ_ _ _=>none),[],[],8,[]⟩
theorem af8:Sound Tryz.prog aN 95 (A.wrap true [(.s 3)] .k (A.dP (RB))):=
 Sound.wrap (Sound.xQ (X:=aga) (fn:=Tryz.f95) (cL:=(.s .n (.s bH bk))) .K trivial (eZ.of rfl aI.nil (λ_=>Sound.none)) Tryz.func95 Tryz.call95 (λa0 σ=>by kernel_rfl)) _ _ _ rfl rfl
theorem af6:Sound Tryz.prog aN 95 Ii:=Br af8 Tryz.call95 aj4
noncomputable def agD:Fx:=⟨Tryz.prog,aN,A.tab (λ_ _=>none) [],(λ_ _ _=>none),[],[],8,[]⟩
theorem agC:Sound Tryz.prog aN 96 (A.wrap true [(.s 11)] .k (A.dP (Yk))):=
 Sound.wrap (Sound.xQ (X:=agD) (fn:=Tryz.f96) (cL:=(.s .n (.s bH bk))) .K trivial (eZ.of rfl aI.nil (λ_=>Sound.none)) Tryz.func96 Tryz.call96 (λa0 σ=>by kernel_rfl)) _ _ _ rfl rfl
theorem agB:Sound Tryz.prog aN 96 Fh:=Br agC Tryz.call96 aqb
noncomputable def agw:Fx:=⟨Tryz.prog,aN,A.tab (λ_ _=>none) [],(λ_ _ _=>none),[],[],8,[]⟩
theorem agu:Sound Tryz.prog aN 97 (A.wrap true [(.s 8)] .k (A.dP (RH))):=
 Sound.wrap (Sound.xQ (X:=agw) (fn:=Tryz.f97) (cL:=(.s .n (.s bH bk))) .K trivial (eZ.of rfl aI.nil (λ_=>Sound.none)) Tryz.func97 Tryz.call97 (λa0 σ=>by kernel_rfl)) _ _ _ rfl rfl
theorem ags:Sound Tryz.prog aN 97 Fg:=Br agu Tryz.call97 aoE
end
section
set_option maxRecDepth 100000
noncomputable def agq:Fx:=⟨Tryz.prog,aN,A.tab (λ_ _=>none) [],(λ_ _ _=>none),[],[],8,[]⟩
theorem agn:Sound Tryz.prog aN 64 (A.wrap true [(.s 2)] .k (A.dP (RE))):=
 Sound.wrap (Sound.xQ (X:=agq) (fn:=Tryz.f64) (cL:=(.s .n (.s bH bk))) .K trivial (eZ.of rfl aI.nil (λ_=>Sound.none)) Tryz.func64 Tryz.call64 (λa0 σ=>by kernel_rfl)) _ _ _ rfl rfl
theorem agk:Sound Tryz.prog aN 64 Fe:=Br agn Tryz.call64 amX
theorem aif:Sound Tryz.prog aN 37 Ol:=q1 [1,2,3,5,8,10] 129 (.s .n (.s .n (.s .n (.s (.s .n (.b (.l [1,2,3,27] [.exit 0] (.s .n (.s eS (.s (.b (.s .n (.s .n (.s (.s .n (.b (.l [1,2,3,5,38] [.exit 2] (.s .n (.s eS (.s (.b bk) .n)))))) .n)))) .n)))))) (.s (.s .n (.b (.l [1,2,3,66] [.exit 4] (.s .n (.s eS (.s (.b (.s .n bk)) .n)))))) (.s (.s .n (.b (.l [2,3,84] [.exit 6] (.s .n (.s eS (.s (.b (.s .n (.s .n (.s (.s .n (.b (.l [2,3,10,95] [.exit 8] (.s .n (.s eS (.s (.b (.s .n bk)) .n)))))) .n)))) .n)))))) bk)))))) (aI.cons (Sound.lz afX (.s 3) rfl) (aI.cons (Sound.lz agt (.s 4) rfl) (aI.cons agj (aI.cons (Sound.lz agl (.s 3) rfl) (aI.cons (Sound.lz af6 (.s 3) rfl) (aI.cons agB (aI.cons (Sound.lz ags (.s 8) rfl) (aI.cons (Sound.lz agk (.s 2) rfl) aI.nil)))))))) Tryz.func37 Tryz.call37 (λa0 σ=>by kernel_rfl) rfl rfl
noncomputable def alf:Fx:=⟨Tryz.prog,aN,A.tab (λ_ _=>none) [(36,N8),(37,Ol),(38,Iw),(39,DU)],(λ_ _ _=>none),[1,8,10,12,14,15],[27],119,[]⟩
theorem ald:Sound Tryz.prog aN 10 (A.wrap true [BO] .k (A.dP (KW))):=
 Sound.wrap (Sound.xQ (X:=alf) (fn:=Tryz.f10) (cL:=(.s .n (.s (.s .n bH) (.s .n (.s .n (.s .n (.s .n (.s .n (.s (.s .n (.b (.l [1,46] [.exit 0] (.s .n (.s eS (.s (.b bk) .n)))))) (.s (.s .n (.b (.l [1,59] [.exit 2] (.s .n (.s eS (.s (.b (.s .n (.s .n (.b (.l [1,10,69] [.exit 4] (.s .n (.s eS (.s (.b bk) .n)))))))) .n)))))) (.s (.s .n (.b (.l [1,88] [.exit 6] (.s .n (.s eS (.s (.b (.s .n bk)) .n)))))) bk))))))))))) .K trivial (eZ.of rfl (aI.cons ag5 (aI.cons aif (aI.cons SG (aI.cons ZK aI.nil)))) (λ_=>Sound.none)) Tryz.func10 Tryz.call10 (λa0 σ=>by kernel_rfl)) _ _ _ rfl rfl
theorem akU:Sound Tryz.prog aN 10 KT:=ald
theorem agT:Sound Tryz.prog aN 42 N2:=q1 [1] 53 (.s .n (.s bH (.s .n (.s .n (.s bH bk))))) (aI.cons uQ aI.nil) Tryz.func42 Tryz.call42 (λa0 σ=>by kernel_rfl) rfl rfl
theorem Y5:Sound Tryz.prog aN 43 KE:=q1 [] 5 (.s .n bk) (aI.cons uQ aI.nil) Tryz.func43 Tryz.call43 (λa0 σ=>by kernel_rfl) rfl rfl
theorem Sj:Sound Tryz.prog aN 12 Ch:=q1 [] 22 (.s .n (.s bH bk)) aI.nil Tryz.func12 Tryz.call12 (λa0 σ=>by kernel_rfl) rfl rfl
noncomputable def afN (dyn:Nat→aq→Heap→aH):Fx:=⟨Tryz.prog,aN,A.tab (λ_ _=>none) [],dyn,[],[],19,[]⟩
theorem afM(dyn:Nat→aq→Heap→aH)(hd:∀f,Sound Tryz.prog aN f (dyn (aN.getD f 0))):Sound Tryz.prog aN 158 (A.wrap true [(.s 3)] .k (A.dL (NP dyn))):=
 Sound.wrap (Sound.ux (X:=afN dyn) (fn:=Tryz.f158) (cL:=(.s .n (.s (.s .n (.b (.l [4,8] [.exit 0,.ret] (.s .n (.s eS (.s (.b (.s .n bH)) .n)))))) bk))) .F trivial (eZ.of rfl aI.nil (hd)) Tryz.func158 Tryz.call158 (λa0 a1 σ=>by kernel_rfl)) _ _ _ rfl rfl
theorem afL(dyn:Nat→aq→Heap→aH)(hd:∀f,Sound Tryz.prog aN f (dyn (aN.getD f 0))):Sound Tryz.prog aN 158 (NO dyn):=afM dyn hd
noncomputable def afI (dyn:Nat→aq→Heap→aH):Fx:=⟨Tryz.prog,aN,A.tab (λ_ _=>none) [(158,NO dyn)],dyn,[],[],9,[]⟩
theorem afH(dyn:Nat→aq→Heap→aH)(hd:∀f,Sound Tryz.prog aN f (dyn (aN.getD f 0))):Sound Tryz.prog aN 102 (A.wrap true [(.s 3)] .k (A.dL (NN dyn))):=
 Sound.wrap (Sound.ux (X:=afI dyn) (fn:=Tryz.f102) (cL:=(.s .n bk)) .F trivial (eZ.of rfl (aI.cons (afL dyn hd) aI.nil) (hd)) Tryz.func102 Tryz.call102 (λa0 a1 σ=>by kernel_rfl)) _ _ _ rfl rfl
theorem afG(dyn:Nat→aq→Heap→aH)(hd:∀f,Sound Tryz.prog aN f (dyn (aN.getD f 0))):Sound Tryz.prog aN 102 (NM dyn):=afH dyn hd
theorem Yl:Sound Tryz.prog aN 103 Kq:=q2 [2] 9 (.s .n bk) aI.nil Tryz.func103 Tryz.call103 (λa0 a1 σ=>by kernel_rfl) rfl rfl
noncomputable def agY:Fx:=⟨Tryz.prog,aN,A.tab (λ_ _=>none) [(102,NM (A.tab (λ_ _=>none) [(152,Kq)])),(89,lQ),(41,uR)],(A.tab (λ_ _=>none) [(152,Kq)]),[2],[],36,[]⟩
theorem agW:Sound Tryz.prog aN 44 (A.wrap true [BO] .k (A.dL (N4))):=
 Sound.wrap (Sound.ux (X:=agY) (fn:=Tryz.f44) (cL:=(.s .n (.s .n (.s bH (.s .n (.s (.s .n (.b (.s .n (.c [6] .n (.s .n (.c [6] .n .n)))))) bk)))))) .F trivial (eZ.of rfl (aI.cons (afG _ (wm (lu.cons (sk Yl (by kernel_rfl) rfl) lu.nil))) (aI.cons uQ (aI.cons DX aI.nil))) (wm (lu.cons (sk Yl (by kernel_rfl) rfl) lu.nil))) Tryz.func44 Tryz.call44 (λa0 a1 σ=>by kernel_rfl)) _ _ _ rfl rfl
theorem agU:Sound Tryz.prog aN 44 N3:=agW
noncomputable def agi:Fx:=⟨Tryz.prog,aN,A.tab (λ_ _=>none) [],(λ_ _ _=>none),[],[],8,[]⟩
theorem agf:Sound Tryz.prog aN 104 (A.wrap false [] .k (A.dP (Ik))):=
 Sound.wrap (Sound.xQ (X:=agi) (fn:=Tryz.f104) (cL:=(.s .n (.s bH bk))) .K trivial (eZ.of rfl aI.nil (λ_=>Sound.none)) Tryz.func104 Tryz.call104 (λa0 σ=>by kernel_rfl)) _ _ _ rfl rfl
theorem agd:Sound Tryz.prog aN 104 Ij:=Br agf Tryz.call104 amZ
theorem ahf:Sound Tryz.prog aN 57 DQ:=q1 [] 31 (.s .n (.s bH bk)) aI.nil Tryz.func57 Tryz.call57 (λa0 σ=>by kernel_rfl) rfl rfl
theorem Oc:Sound Tryz.prog aN 63 zK:=q2 [2] 16 (.s .n (.s bH bk)) aI.nil Tryz.func63 Tryz.call63 (λa0 a1 σ=>by kernel_rfl) rfl rfl
noncomputable def afE (dyn:Nat→aq→Heap→aH):Fx:=⟨Tryz.prog,aN,A.tab (λ_ _=>none) [],dyn,[],[],49,[]⟩
theorem afD(dyn:Nat→aq→Heap→aH)(hd:∀f,Sound Tryz.prog aN f (dyn (aN.getD f 0))):Sound Tryz.prog aN 243 (A.wrap true [(.s 11)] .k (A.nE (Ih dyn))):=
 Sound.wrap (Sound.Mw (X:=afE dyn) (fn:=Tryz.f243) (cL:=(.s .n (.s .n (.s .n (.s (.b (.l [9,10] [.exit 0] (.s (.s .n eS) (.b (.s .n (.s .n (.c [9,10] .n .n))))))) bk))))) .F trivial (eZ.of rfl aI.nil (hd)) Tryz.func243 Tryz.call243 (λa0 a1 a2 σ=>by kernel_rfl)) _ _ _ rfl rfl
theorem afC(dyn:Nat→aq→Heap→aH)(hd:∀f,Sound Tryz.prog aN f (dyn (aN.getD f 0))):Sound Tryz.prog aN 243 (Ig dyn):=afD dyn hd
theorem YP:Sound Tryz.prog aN 244 Fk:=q2 [2] 9 (.s .n bk) aI.nil Tryz.func244 Tryz.call244 (λa0 a1 σ=>by kernel_rfl) rfl rfl
noncomputable def ajR:Fx:=⟨Tryz.prog,aN,A.tab (λ_ _=>none) [(243,Ig (A.tab (λ_ _=>none) [(177,Fk)]))],(A.tab (λ_ _=>none) [(177,Fk)]),[],[],11,[]⟩
theorem ajN:Sound Tryz.prog aN 199 (A.wrap true [(.e 11 xW)] .k (A.dL (OD))):=
 Sound.wrap (Sound.ux (X:=ajR) (fn:=Tryz.f199) (cL:=(.s .n bk)) .F trivial (eZ.of rfl (aI.cons (afC _ (wm (lu.cons (sk YP (by kernel_rfl) rfl) lu.nil))) aI.nil) (wm (lu.cons (sk YP (by kernel_rfl) rfl) lu.nil))) Tryz.func199 Tryz.call199 (λa0 a1 σ=>by kernel_rfl)) _ _ _ rfl rfl
theorem ajC:Sound Tryz.prog aN 199 IG:=ajN
theorem ajD:Sound Tryz.prog aN 200 KL:=q1 [5,7] 40 (.s .n (.s .n (.s (.s .n (.b (.l [11] [.exit 0] (.s .n (.s eS (.s (.b (.s .n (.s .n (.b (.l [5,18] [.exit 2] (.s .n (.s eS (.s (.b (.s .n (.s .n (.c [5] .n .n)))) .n)))))))) .n)))))) bk))) aI.nil Tryz.func200 Tryz.call200 (λa0 σ=>by kernel_rfl) rfl rfl
theorem ahu:Sound Tryz.prog aN 202 YL:=q2 [2,3] 10 (.s .n bk) (aI.cons Y3 aI.nil) Tryz.func202 Tryz.call202 (λa0 a1 σ=>by kernel_rfl) rfl rfl
noncomputable def ajQ:Fx:=⟨Tryz.prog,aN,A.tab (λ_ _=>none) [(151,KS),(199,IG),(200,KL),(201,Kp)],(A.tab (λ_ _=>none) [(297,YL)]),[11],[],42,[]⟩
theorem ajM:Sound Tryz.prog aN 159 (A.wrap true [(.e 11 xW)] (.t [(.s 5),.k]) (A.dL (OC))):=
 Sound.wrap (Sound.ux (X:=ajQ) (fn:=Tryz.f159) (cL:=(.s .n (.s (.s .n bH) (.s .n (.s bH (.s .n (.s (.s .n (.b (.lc [9] [.exit 0] (.s .n (.s eS (.b bk)))))) (.s .n bk)))))))) (.N (A.nn (.t [(.s 5),.k]))) (λ_ _ _ h=>Ga _ _ _ rfl h) (eZ.of rfl (aI.cons aam (aI.cons ajC (aI.cons ajD (aI.cons afA aI.nil)))) (wm (lu.cons (sk ahu (by kernel_rfl) rfl) lu.nil))) Tryz.func159 Tryz.call159 (λa0 a1 σ=>by kernel_rfl)) _ _ _ rfl rfl
theorem ajB:Sound Tryz.prog aN 159 Ox:=ajM
theorem ahS:Sound Tryz.prog aN 121 Sy:=q1 [1] 14 (.s .n bk) aI.nil Tryz.func121 Tryz.call121 (λa0 σ=>by kernel_rfl) rfl rfl
theorem R3:Sound Tryz.prog aN 62 tV:=q3 [4,6,8] 32 (.s .n (.s .n bk)) (aI.cons ahS aI.nil) Tryz.func62 Tryz.call62 (λa0 a1 a2 σ=>by kernel_rfl) rfl rfl
theorem ahv:Sound Tryz.prog aN 206 Sn:=q1 [] 5 (.s .n bk) (aI.cons uQ aI.nil) Tryz.func206 Tryz.call206 (λa0 σ=>by kernel_rfl) rfl rfl
theorem YW:Sound Tryz.prog aN 162 Oe:=q1 [] 15 (.s .n (.s (.s .n (.b (.l [2,7] [.exit 0,.ret] (.s .n (.s eS (.s (.b (.s .n bH)) .n)))))) bk)) (aI.cons ahv aI.nil) Tryz.func162 Tryz.call162 (λa0 σ=>by kernel_rfl) rfl rfl
theorem YV:Sound Tryz.prog aN 237 Fl:=q1 [] 5 (.s .n bk) (aI.cons uQ aI.nil) Tryz.func237 Tryz.call237 (λa0 σ=>by kernel_rfl) rfl rfl
theorem ag2:Sound Tryz.prog aN 236 R8:=q1 [1] 44 (.s .n (.s (.s .n bH) (.s bH bk))) (aI.cons YW (aI.cons YV (aI.cons Yx aI.nil))) Tryz.func236 Tryz.call236 (λa0 σ=>by kernel_rfl) rfl rfl
theorem akT:Sound Tryz.prog aN 273 rA:=q1 [2] 6 (.s .n bk) aI.nil Tryz.func273 Tryz.call273 (λa0 σ=>by kernel_rfl) rfl rfl
theorem Yy:Sound Tryz.prog aN 274 tW:=q2 [2,4] 24 (.s .n (.s .n bk)) (aI.cons aiM aI.nil) Tryz.func274 Tryz.call274 (λa0 a1 σ=>by kernel_rfl) rfl rfl
theorem ajE:Sound Tryz.prog aN 258 Oy:=q3 [3,6,7,8,11,12] 131 (.s .n (.s .n (.s (.s .n (.b (.s .n (.j bk (.s .n (.j bk (.s .n (.j bk (.s .n (.j (.s bH bk) (.s .n (.j (.s .n (.s .n (.s (.b (.l [6,7,10] [.exit 1] (.s (.s .n eS) (.b .n)))) (.s .n (.s .n (.s .n bk)))))) .n)))))))))))) bk))) (aI.cons akT (aI.cons Yy aI.nil)) Tryz.func258 Tryz.call258 (λa0 a1 a2 σ=>by kernel_rfl) rfl rfl
theorem ag4:Sound Tryz.prog aN 275 N7:=q2 [2,3,4] 29 (.s .n (.s .n (.s .n bk))) (aI.cons aiL aI.nil) Tryz.func275 Tryz.call275 (λa0 a1 σ=>by kernel_rfl) rfl rfl
theorem ag3:Sound Tryz.prog aN 276 Ir:=q2 [2,3] 24 (.s .n bk) aI.nil Tryz.func276 Tryz.call276 (λa0 a1 σ=>by kernel_rfl) rfl rfl
theorem ahQ:Sound Tryz.prog aN 259 Sw:=q4 [6,7,10,15] 80 (.s .n (.s (.s .n (.j (.s .n (.s .n (.s .n (.s (.b (.l [7,10,11,12] [.exit 0] (.s (.s .n eS) (.b (.s .n (.s .n (.c [7,10,11,12] .n .n))))))) bk)))) .n)) (.s .n (.s .n (.s .n (.s (.b (.l [7,15,16,17] [.exit 2] (.s (.s .n eS) (.b (.s .n (.s .n (.c [7,15,16,17] .n .n))))))) bk)))))) (aI.cons Yy (aI.cons ag4 (aI.cons ag3 aI.nil))) Tryz.func259 Tryz.call259 (λa0 a1 a2 a3 σ=>by kernel_rfl) rfl rfl
theorem akS:Sound Tryz.prog aN 238 TB:=q2 [2,6,7] 46 (.s .n (.s .n (.s (.b (.s .n (.j bk bH))) (.s .n bk)))) (aI.cons ajE (aI.cons ahQ aI.nil)) Tryz.func238 Tryz.call238 (λa0 a1 σ=>by kernel_rfl) rfl rfl
theorem akR:Sound Tryz.prog aN 191 TA:=q2 [2] 21 (.s .n (.s (.s .n bH) bk)) (aI.cons ag2 (aI.cons YV (aI.cons DX (aI.cons IC (aI.cons akS aI.nil))))) Tryz.func191 Tryz.call191 (λa0 a1 σ=>by kernel_rfl) rfl rfl
theorem Sk:Sound Tryz.prog aN 142 yA:=q2 [2] 16 (.s .n (.s .n bk)) (aI.cons akR aI.nil) Tryz.func142 Tryz.call142 (λa0 a1 σ=>by kernel_rfl) rfl rfl
theorem aiO:Sound Tryz.prog aN 207 SR:=q2 [] 16 (.s .n (.s .n (.s (.s .n (.c [5] .n .n)) bk))) aI.nil Tryz.func207 Tryz.call207 (λa0 a1 σ=>by kernel_rfl) rfl rfl
theorem aiP:Sound Tryz.prog aN 163 SS:=q2 [] 12 (.s .n bk) (aI.cons aiO aI.nil) Tryz.func163 Tryz.call163 (λa0 a1 σ=>by kernel_rfl) rfl rfl
theorem Y4:Sound Tryz.prog aN 111 Fp:=q2 [] 18 (.s .n (.s (.s .n bH) bk)) (aI.cons YW (aI.cons aiP aI.nil)) Tryz.func111 Tryz.call111 (λa0 a1 σ=>by kernel_rfl) rfl rfl
theorem Yz:Sound Tryz.prog aN 82 DM:=q4 [6,10,18] 124 (.s .n (.s .n (.s .n (.s (.s .n (.b (.l [6,10,11,12,13,14,35] [.exit 0] (.s .n (.s eS (.s (.b (.s .n (.s .n (.s .n (.s .n (.s (.s .n eS) (.s .n (.s (.s .n (.c [6,10,18,20] .n .n)) (.s .n (.s .n (.c [6,10,11,12,13,14] .n .n))))))))))) .n)))))) bk)))) (aI.cons Oc (aI.cons R3 (aI.cons Sk (aI.cons Y4 aI.nil)))) Tryz.func82 Tryz.call82 (λa0 a1 a2 a3 σ=>by kernel_rfl) rfl rfl
noncomputable def af5 (dyn:Nat→aq→Heap→aH):Fx:=⟨Tryz.prog,aN,A.tab (λ_ _=>none) [],dyn,[],[],19,[]⟩
theorem af2(dyn:Nat→aq→Heap→aH)(hd:∀f,Sound Tryz.prog aN f (dyn (aN.getD f 0))):Sound Tryz.prog aN 204 (A.wrap true [(.s 8)] .k (A.dL (NV dyn))):=
 Sound.wrap (Sound.ux (X:=af5 dyn) (fn:=Tryz.f204) (cL:=(.s .n (.s (.s .n (.b (.l [4,8] [.exit 0,.ret] (.s .n (.s eS (.s (.b (.s .n bH)) .n)))))) bk))) .F trivial (eZ.of rfl aI.nil (hd)) Tryz.func204 Tryz.call204 (λa0 a1 σ=>by kernel_rfl)) _ _ _ rfl rfl
theorem afZ(dyn:Nat→aq→Heap→aH)(hd:∀f,Sound Tryz.prog aN f (dyn (aN.getD f 0))):Sound Tryz.prog aN 204 (Kn dyn):=af2 dyn hd
theorem TN:Sound Tryz.prog aN 161 yD:=q1 [1,2] 25 (.s .n (.s .n (.s .n (.s .n bk)))) aI.nil Tryz.func161 Tryz.call161 (λa0 σ=>by kernel_rfl) rfl rfl
end
section
set_option maxRecDepth 100000
theorem Yp:Sound Tryz.prog aN 205 Io:=q2 [2] 8 (.s .n bk) aI.nil Tryz.func205 Tryz.call205 (λa0 a1 σ=>by kernel_rfl) rfl rfl
noncomputable def ahi:Fx:=⟨Tryz.prog,aN,A.tab (λ_ _=>none) [(204,Kn (A.tab (λ_ _=>none) [(349,Io)])),(161,yD)],(A.tab (λ_ _=>none) [(349,Io)]),[7,12,13,14],[],77,[]⟩
theorem ahg:Sound Tryz.prog aN 160 (A.wrap false [] Gi (A.GU (Sg))):=
 Sound.wrap (Sound.afz (X:=ahi) (fn:=Tryz.f160) (cL:=(.s .n (.s .n (.s .n (.s (.s .n (.c [7,12,13,14] (.s .n (.s .n (.c [7,12,13,14] .n .n))) .n)) (.s .n (.s (.s .n (.c [12,13,14] .n .n)) (.s (.s .n (.c [12,13] .n .n)) bk)))))))) .F trivial (eZ.of rfl (aI.cons (afZ _ (wm (lu.cons (sk Yp (by kernel_rfl) rfl) lu.nil))) (aI.cons TN aI.nil)) (wm (lu.cons (sk Yp (by kernel_rfl) rfl) lu.nil))) Tryz.func160 Tryz.call160 (λa0 a1 a2 a3 a4 a5 σ=>by kernel_rfl)) _ _ _ rfl rfl
theorem ahd:Sound Tryz.prog aN 160 DP:=ahg
noncomputable def ahj:Fx:=⟨Tryz.prog,aN,A.tab (λ_ _=>none) [(63,zK),(159,Ox),(152,Fv),(62,tV),(142,yA),(82,DM),(160,DP),(161,yD)],(λ_ _ _=>none),[11,18,21,24,25,27],[],239,[]⟩
theorem ahh:Sound Tryz.prog aN 105 (A.wrap false [] .k (A.GS (Si))):=
 Sound.wrap (Sound.afy (X:=ahj) (fn:=Tryz.f105) (cL:=(.s .n (.s .n (.s .n (.s .n (.s .n (.s .n (.s (.s .n (.b (.l [11,61] [.exit 0] (.s .n (.s eS (.s (.b (.s .n (.s .n (.s .n (.s .n (.s bH (.s .n (.s (.s .n (.c [11,18,23] .n (.s .n (.c [11,18,23] .n .n)))) .n)))))))) .n)))))) (.s (.s .n (.b (.lc [11] [.exit 2] (.s .n (.s eS (.b (.s .n (.s .n (.s (.s .n eS) (.s (.s .n (.c [11,24,25] bk .n)) .n)))))))))) (.s .n (.s .n (.c [] .n .n)))))))))))) .G trivial (eZ.of rfl (aI.cons Oc (aI.cons ajB (aI.cons Zj (aI.cons R3 (aI.cons Sk (aI.cons Yz (aI.cons ahd (aI.cons TN aI.nil)))))))) (λ_=>Sound.none)) Tryz.func105 Tryz.call105 (λa0 a1 a2 a3 a4 σ=>by kernel_rfl)) _ _ _ rfl rfl
theorem YK:Sound Tryz.prog aN 105 vZ:=ahh
noncomputable def aha:Fx:=⟨Tryz.prog,aN,A.tab (λ_ _=>none) [(104,Ij),(57,DQ),(105,vZ)],(λ_ _ _=>none),[4],[5],66,[]⟩
theorem ag8:Sound Tryz.prog aN 45 (A.wrap false [] .k (A.dL (Ob))):=
 Sound.wrap (Sound.ux (X:=aha) (fn:=Tryz.f45) (cL:=(.s .n (.s .n (.s .n (.b (.l [4] [.ret] (.b (.s .n (.s (.s .n (.b (.l [4,6,7,21] [.exit 2] (.s .n (.s eS (.s (.b (.s .n (.s .n (.s .n (.c [4,6,7] .n .n))))) .n)))))) (.s bH bk)))))))))) .K trivial (eZ.of rfl (aI.cons agd (aI.cons ahf (aI.cons YK aI.nil))) (λ_=>Sound.none)) Tryz.func45 Tryz.call45 (λa0 a1 σ=>by kernel_rfl)) _ _ _ rfl rfl
theorem YE:Sound Tryz.prog aN 45 Is:=ag8
noncomputable def afW (dyn:Nat→aq→Heap→aH):Fx:=⟨Tryz.prog,aN,A.tab (λ_ _=>none) [],dyn,[],[],19,[]⟩
theorem afV(dyn:Nat→aq→Heap→aH)(hd:∀f,Sound Tryz.prog aN f (dyn (aN.getD f 0))):Sound Tryz.prog aN 106 (A.wrap true [(.s 10)] .k (A.dL (NS dyn))):=
 Sound.wrap (Sound.ux (X:=afW dyn) (fn:=Tryz.f106) (cL:=(.s .n (.s (.s .n (.b (.l [4,8] [.exit 0,.ret] (.s .n (.s eS (.s (.b (.s .n bH)) .n)))))) bk))) .F trivial (eZ.of rfl aI.nil (hd)) Tryz.func106 Tryz.call106 (λa0 a1 σ=>by kernel_rfl)) _ _ _ rfl rfl
theorem afU(dyn:Nat→aq→Heap→aH)(hd:∀f,Sound Tryz.prog aN f (dyn (aN.getD f 0))):Sound Tryz.prog aN 106 (Km dyn):=afV dyn hd
noncomputable def agb (dyn:Nat→aq→Heap→aH):Fx:=⟨Tryz.prog,aN,A.tab (λ_ _=>none) [],dyn,[],[],19,[]⟩
theorem af9(dyn:Nat→aq→Heap→aH)(hd:∀f,Sound Tryz.prog aN f (dyn (aN.getD f 0))):Sound Tryz.prog aN 108 (A.wrap true [(.s 11)] .k (A.dL (NW dyn))):=
 Sound.wrap (Sound.ux (X:=agb dyn) (fn:=Tryz.f108) (cL:=(.s .n (.s (.s .n (.b (.l [4,8] [.exit 0,.ret] (.s .n (.s eS (.s (.b (.s .n bH)) .n)))))) bk))) .F trivial (eZ.of rfl aI.nil (hd)) Tryz.func108 Tryz.call108 (λa0 a1 σ=>by kernel_rfl)) _ _ _ rfl rfl
theorem af7(dyn:Nat→aq→Heap→aH)(hd:∀f,Sound Tryz.prog aN f (dyn (aN.getD f 0))):Sound Tryz.prog aN 108 (Ko dyn):=af9 dyn hd
noncomputable def agQ:Fx:=⟨Tryz.prog,aN,A.tab (λ_ _=>none) [(63,zK),(62,tV),(142,yA),(161,yD)],(λ_ _ _=>none),[7,10,11],[],82,[]⟩
theorem agO:Sound Tryz.prog aN 110 (A.wrap false [] .k (A.zi (RX))):=
 Sound.wrap (Sound.afx (X:=agQ) (fn:=Tryz.f110) (cL:=(.s .n (.s .n (.s .n (.s (.s .n (.b (.lc [7] [.exit 0] (.s .n (.s eS (.b (.s .n (.s .n (.s (.s .n eS) .n))))))))) .n))))) .G trivial (eZ.of rfl (aI.cons Oc (aI.cons R3 (aI.cons Sk (aI.cons TN aI.nil)))) (λ_=>Sound.none)) Tryz.func110 Tryz.call110 (λa0 a1 a2 a3 σ=>by kernel_rfl)) _ _ _ rfl rfl
theorem agM:Sound Tryz.prog aN 110 Kt:=agO
theorem RZ:Sound Tryz.prog aN 107 DK:=q2 [2] 9 (.s .n bk) aI.nil Tryz.func107 Tryz.call107 (λa0 a1 σ=>by kernel_rfl) rfl rfl
theorem R1:Sound Tryz.prog aN 109 DL:=q2 [2] 9 (.s .n bk) aI.nil Tryz.func109 Tryz.call109 (λa0 a1 σ=>by kernel_rfl) rfl rfl
noncomputable def ahy:Fx:=⟨Tryz.prog,aN,A.tab (λ_ _=>none) [(106,Km (A.tab (λ_ _=>none) [(352,DK),(354,DL)])),(105,vZ),(108,Ko (A.tab (λ_ _=>none) [(352,DK),(354,DL)])),(63,zK),(110,Kt)],(A.tab (λ_ _=>none) [(352,DK),(354,DL)]),[],[],176,[]⟩
theorem ahx:Sound Tryz.prog aN 46 (A.wrap false [] .k (A.nE (Iu))):=
 Sound.wrap (Sound.Mw (X:=ahy) (fn:=Tryz.f46) (cL:=(.s .n (.s (.s .n (.b (.s .n (.j (.s .n (.s .n bk)) (.s .n (.j (.s .n (.s .n bk)) .n)))))) (.s .n (.s .n (.s .n (.s (.s .n (.b (.s .n (.j (.s .n bH) (.s .n (.j (.s .n bH) (.s .n (.j (.s .n bH) (.s .n (.j (.s bH .n) (.s .n (.j (.s bH .n) (.s .n (.j (.s bH (.s .n (.s .n bk))) (.s .n (.c [] .n .n)))))))))))))))) (.s .n (.s (.s .n (.c [] .n .n)) bk))))))))) .K trivial (eZ.of rfl (aI.cons (afU _ (wm (lu.cons (sk RZ (by kernel_rfl) rfl) (lu.cons (sk R1 (by kernel_rfl) rfl) lu.nil)))) (aI.cons YK (aI.cons (af7 _ (wm (lu.cons (sk RZ (by kernel_rfl) rfl) (lu.cons (sk R1 (by kernel_rfl) rfl) lu.nil)))) (aI.cons Oc (aI.cons agM aI.nil))))) (wm (lu.cons (sk RZ (by kernel_rfl) rfl) (lu.cons (sk R1 (by kernel_rfl) rfl) lu.nil)))) Tryz.func46 Tryz.call46 (λa0 a1 a2 σ=>by kernel_rfl)) _ _ _ rfl rfl
theorem ahw:Sound Tryz.prog aN 46 Ky:=ahx
noncomputable def ahX:Fx:=⟨Tryz.prog,aN,A.tab (λ_ _=>none) [(41,uR),(42,N2),(43,KE),(12,Ch),(40,Bq),(44,N3),(45,Is),(46,Ky)],(λ_ _ _=>none),[3],[6],66,[]⟩
theorem ahU:Sound Tryz.prog aN 11 (A.wrap false [] .k (A.dL (Og))):=
 Sound.wrap (Sound.ux (X:=ahX) (fn:=Tryz.f11) (cL:=(.s .n (.s .n (.s (.s .n bH) (.s .n (.s (.s .n bH) (.s .n (.s .n bk)))))))) .K trivial (eZ.of rfl (aI.cons DX (aI.cons agT (aI.cons Y5 (aI.cons Sj (aI.cons IC (aI.cons agU (aI.cons YE (aI.cons ahw aI.nil)))))))) (λ_=>Sound.none)) Tryz.func11 Tryz.call11 (λa0 a1 σ=>by kernel_rfl)) _ _ _ rfl rfl
theorem ahR:Sound Tryz.prog aN 11 Fm:=ahU
theorem ahe:Sound Tryz.prog aN 47 Kx:=q2 [] 16 (.s .n bk) (aI.cons Y5 (aI.cons DX (aI.cons Sj (aI.cons IC aI.nil)))) Tryz.func47 Tryz.call47 (λa0 a1 σ=>by kernel_rfl) rfl rfl
theorem ag6:Sound Tryz.prog aN 48 Fj:=q4 [6] 42 (.s .n (.s .n (.s bH (.s bH (.s .n bk))))) (aI.cons Yz (aI.cons Y4 aI.nil)) Tryz.func48 Tryz.call48 (λa0 a1 a2 a3 σ=>by kernel_rfl) rfl rfl
noncomputable def agZ:Fx:=⟨Tryz.prog,aN,A.tab (λ_ _=>none) [(47,Kx),(45,Is),(48,Fj)],(λ_ _ _=>none),[10],[7],40,[]⟩
theorem agX:Sound Tryz.prog aN 13 (A.wrap false [] .k (A.dL (N5))):=
 Sound.wrap (Sound.ux (X:=agZ) (fn:=Tryz.f13) (cL:=(.s .n (.s (.s .n bH) (.s .n (.s .n (.s (.s .n (.b (.l [8,25] [.exit 0] (.s .n (.s eS (.s (.b bk) .n)))))) bk)))))) .K trivial (eZ.of rfl (aI.cons ahe (aI.cons YE (aI.cons ag6 aI.nil))) (λ_=>Sound.none)) Tryz.func13 Tryz.call13 (λa0 a1 σ=>by kernel_rfl)) _ _ _ rfl rfl
theorem agV:Sound Tryz.prog aN 13 Iq:=agX
noncomputable def agh:Fx:=⟨Tryz.prog,aN,A.tab (λ_ _=>none) [],(λ_ _ _=>none),[],[],8,[]⟩
theorem age:Sound Tryz.prog aN 49 (A.wrap false [] .k (A.dP (RD))):=
 Sound.wrap (Sound.xQ (X:=agh) (fn:=Tryz.f49) (cL:=(.s .n (.s bH bk))) .K trivial (eZ.of rfl aI.nil (λ_=>Sound.none)) Tryz.func49 Tryz.call49 (λa0 σ=>by kernel_rfl)) _ _ _ rfl rfl
theorem agc:Sound Tryz.prog aN 49 NX:=Br age Tryz.call49 alB
noncomputable def agP:Fx:=⟨Tryz.prog,aN,A.tab (λ_ _=>none) [(49,NX)],(λ_ _ _=>none),[],[],8,[]⟩
theorem agN:Sound Tryz.prog aN 14 (A.wrap false [] .k (A.dP (Ip))):=
 Sound.wrap (Sound.xQ (X:=agP) (fn:=Tryz.f14) (cL:=(.s .n bk)) .K trivial (eZ.of rfl (aI.cons agc aI.nil) (λ_=>Sound.none)) Tryz.func14 Tryz.call14 (λa0 σ=>by kernel_rfl)) _ _ _ rfl rfl
theorem agL:Sound Tryz.prog aN 14 NZ:=agN
theorem amu:Sound Tryz.prog aN 50 T5:=q2 [2,6] 21 (.s .n (.s (.s .n (.b (.l [4,10] [.exit 0,.ret] (.s .n (.s eS (.s (.b (.s .n bH)) .n)))))) bk)) aI.nil Tryz.func50 Tryz.call50 (λa0 a1 σ=>by kernel_rfl) rfl rfl
theorem aiK:Sound Tryz.prog aN 51 SP:=q2 [4,7] 21 (.s .n (.s (.s .n (.b (.l [4,5,10] [.exit 0,.ret] (.s .n (.s eS (.s (.b (.s .n bH)) .n)))))) bk)) aI.nil Tryz.func51 Tryz.call51 (λa0 a1 σ=>by kernel_rfl) rfl rfl
theorem akQ:Sound Tryz.prog aN 52 Tz:=q2 [2,4,7] 22 (.s .n (.s (.s .n (.b (.l [4,5,11] [.exit 0,.ret] (.s .n (.s eS (.s (.b (.s .n bH)) .n)))))) bk)) aI.nil Tryz.func52 Tryz.call52 (λa0 a1 σ=>by kernel_rfl) rfl rfl
theorem aiJ:Sound Tryz.prog aN 15 KG:=q2 [2,3,4,7] 34 (.s .n (.s .n (.s bH (.s .n bk)))) (aI.cons amu (aI.cons aiK (aI.cons akQ aI.nil))) Tryz.func15 Tryz.call15 (λa0 a1 σ=>by kernel_rfl) rfl rfl
noncomputable def agJ:Fx:=⟨Tryz.prog,aN,A.tab (λ_ _=>none) [(10,KT),(11,Fm),(12,Ch),(13,Iq),(14,NZ),(15,KG),(16,IN)],(λ_ _ _=>none),[3,10,16,18],[],166,[11,14]⟩
theorem agI:Sound Tryz.prog aN 3 (A.wrap true [BO,(.s 5)] .k (A.nE (RT))):=
 Sound.wrap (Sound.Mw (X:=agJ) (fn:=Tryz.f3) (cL:=(.s .n (.s .n (.s bH (.s (.s .n (.b (.l [3,39] [.exit 0] (.s .n (.s eS (.s (.b (.s .n (.s .n (.c [3] .n .n)))) .n)))))) (.s .n (.s .n (.s bH (.s .n (.s bH (.s .n (.s bH (.s (.s .n (.b (.l [3,6,122] [.exit 2,.ret] (.s .n (.s eS (.s (.b (.s .n (.s .n (.s .n (.s (.s .n (.j (.s .n bH) bH)) bH))))) .n)))))) bk))))))))))))) .F trivial (eZ.of rfl (aI.cons akU (aI.cons ahR (aI.cons Sj (aI.cons agV (aI.cons agL (aI.cons aiJ (aI.cons akP aI.nil))))))) (λ_=>Sound.none)) Tryz.func3 Tryz.call3 (λa0 a1 a2 σ=>by kernel_rfl)) _ _ _ rfl rfl
theorem agG:Sound Tryz.prog aN 3 Ym:=agI
end
section
def HP:=(Nat→Option aS)→Prop
namespace HP
def emp:HP:=λh=>∀i,h i=none
def blk(id:Nat)(b:aS):HP:=λh=>∀i,h i=if i=id then some b else none
def star(P Q:HP):HP:=λh=>∃f g,P f∧Q g∧(∀i,f i=none∨g i=none)∧∀i,h i=(f i).or (g i)
def pr(p:Prop):HP:=λh=>p∧∀i,h i=none
def ex{α:Type}(P:α→HP):HP:=λh=>∃x,P x h
instance : Mul HP := ⟨star⟩
theorem abt(P Q:HP):P*Q=Q*P:=by
 have key:∀P Q:HP,∀h,(P*Q) h→(Q*P) h:=by rintro P Q h ⟨f,g,hf,hg,hd,hh⟩;refine⟨g,f,hg,hf,λi=>(hd i).symm,λi=>?_⟩;rw[hh i];rcases hd i with e|e<;>rw[e]<;>simp
 funext h;exact propext ⟨key P Q h,key Q P h⟩
theorem w8(P Q R:HP):P*Q*R=P*(Q*R):=by
 funext h;apply propext;constructor
 ·rintro⟨f,g,⟨f1,f2,h1,h2,rX,hf⟩,hg,hd,hh⟩;refine⟨f1,λi=>(f2 i).or (g i),h1,⟨f2,g,h2,hg,λi=>?_,λi=>rfl⟩,λi=>?_,λi=>?_⟩
  ·have:=hd i;rw[hf i]at this;rcases this with e|e
   ·cases h:f1 i<;>simp [h]at e<;>exact .inl e
   ·exact .inr e
  ·have a:=hd i;have b:=rX i;rw[hf i]at a;rcases b with b|b
   ·exact .inl b
   ·rcases a with a|a
    ·cases h:f1 i<;>simp [h]at a;exact .inl rfl
    ·exact .inr (show(f2 i).or (g i)=none by rw[b,a];rfl)
  ·rw[hh i,hf i];cases f1 i<;>simp
 ·rintro⟨f,g,hf,⟨g1,g2,h1,h2,rX,hg⟩,hd,hh⟩;refine⟨λi=>(f i).or (g1 i),g2,⟨f,g1,hf,h1,λi=>?_,λi=>rfl⟩,h2,λi=>?_,λi=>?_⟩
  ·have:=hd i;rw[hg i]at this;rcases this with e|e
   ·exact .inl e
   ·cases h:g1 i<;>simp [h]at e;exact .inr rfl
  ·have a:=hd i;have b:=rX i;rw[hg i]at a;rcases b with b|b
   ·rcases a with a|a
    ·exact .inl (show(f i).or (g1 i)=none by rw[a,b];rfl)
    ·rw[b]at a;exact .inr (by simpa using a)
   ·exact .inr b
  ·show h i=((f i).or (g1 i)).or (g2 i);rw[hh i,hg i];cases f i<;>simp
theorem D2(P:HP):emp*P=P:=by
 funext h;apply propext;constructor
 ·rintro⟨f,g,hf,hg,hd,hh⟩;have:h=g:=by funext i;rw[hh i,hf i];rfl
  rw[this];exact hg
 ·intro hp;exact⟨λ_=>none,h,λ_=>rfl,hp,λ_=>.inl rfl,λi=>by simp⟩
theorem an8(P:HP):P*emp=P:=by rw[abt,D2]
instance : Std.Associative (α := HP) (· * ·) := ⟨w8⟩
instance : Std.Commutative (α := HP) (· * ·) := ⟨abt⟩
end HP
open HP
structure Hs (B : aS → Prop) (aJ σ : Heap) (P : HP) : Prop where
 pre:∃bs,σ=aJ++bs∧∀b∈bs,B b
 own:∃h,P h∧∀i b,h i=some b→aJ.length≤i∧σ[i]? =some b
def cS:aS→Prop:=λ_=>True
section
variable {B : aS → Prop} {aJ σ : Heap} {P Q R : HP} {id : Nat} {b b' : aS}
theorem eu(e:P=Q)(H:Hs B aJ σ P):Hs B aJ σ Q:=e▸H
theorem acQ(k:∀h,P h→Q h)(H:Hs B aJ σ (P*R)):Hs B aJ σ (Q*R):=by obtain⟨h1,h,⟨f,g,hf,hg,hd,hh⟩,h2⟩:=H;exact⟨h1,h,⟨f,g,k f hf,hg,hd,hh⟩,h2⟩
theorem zX(H:Hs B aJ σ (P*R)):Hs B aJ σ R:=by
 obtain⟨h1,h,⟨f,g,hf,hg,hd,hh⟩,h2⟩:=H;refine⟨h1,g,hg,λi b hb=>h2 i b ?_⟩;rw[hh i];rcases hd i with e|e
 ·rw[e,hb];rfl
 ·rw[e]at hb;cases hb
theorem qm{p:Prop}:Hs B aJ σ (pr p*R)↔p∧Hs B aJ σ R:=by
 constructor
 ·intro H;refine⟨?_,zX H⟩;obtain⟨h1,h,⟨f,g,hf,hg,hd,hh⟩,h2⟩:=H;exact hf.1
 ·rintro⟨hp,h1,h,hr,h2⟩;exact⟨h1,h,⟨λ_=>none,h,⟨hp,λ_=>rfl⟩,hr,λ_=>.inl rfl,λi=>by simp⟩,h2⟩
theorem Qk{α:Type}{P:α→HP}:Hs B aJ σ (ex P*R)↔∃x,Hs B aJ σ (P x*R):=by
 constructor
 ·rintro⟨h1,h,⟨f,g,⟨x,hf⟩,hg,hd,hh⟩,h2⟩;exact⟨x,h1,h,⟨f,g,hf,hg,hd,hh⟩,h2⟩
 ·rintro⟨x,h1,h,⟨f,g,hf,hg,hd,hh⟩,h2⟩;exact⟨h1,h,⟨f,g,⟨x,hf⟩,hg,hd,hh⟩,h2⟩
theorem LF(σ:Heap):Hs B σ σ emp:=⟨⟨[],by simp,by simp⟩,λ_=>none,λ_=>rfl,λ_ _ h=>by cases h⟩
theorem adN(H:Hs B aJ σ P):aJ.length≤σ.length:=by obtain⟨⟨bs,rfl,_⟩,_⟩:=H;simp
theorem kC(H:Hs B aJ σ (blk id b*R)):aJ.length≤id∧σ[id]? =some b:=by obtain⟨h1,h,⟨f,g,hf,hg,hd,hh⟩,h2⟩:=H;exact h2 id b (by rw[hh id,hf id];simp)
theorem atl(H:Hs B aJ σ (blk id b*R)):B b:=by obtain⟨h1,h2⟩:=kC H;obtain⟨⟨bs,rfl,hb⟩,_⟩:=H;rw[jj h1]at h2;exact hb b (dA h2)
theorem CC(H:Hs B aJ σ (blk id b*R))(hb:B b'):Hs B aJ (σ.set id b') (blk id b'*R):=by
 obtain⟨hid,mu⟩:=kC H;have hlt:=(bQ.1 mu).1;obtain⟨⟨bs,rfl,hB⟩,h,⟨f,g,hf,hg,hd,hh⟩,h2⟩:=H;refine⟨⟨bs.set (id-aJ.length) b',by rw[rR _ _ hid],λx hx=>?_⟩,λi=>if i=id then some b' else g i,⟨λi=>if i=id then some b' else none,g,λi=>rfl,hg,λi=>?_,λi=>?_⟩,λi x hx=>?_⟩
 ·rcases List.mem_or_eq_of_mem_set hx with hx|hx
  ·exact hB x hx
  ·subst hx;exact hb
 ·have:=hd i;rw[hf i]at this;by_cases e:i=id
  ·simp only[e,if_true]at this ⊢;rcases this with h|h
   ·cases h
   ·exact .inr h
  ·simp [e]
 ·by_cases e:i=id<;>simp [e]
 ·by_cases e:i=id
  ·subst e;simp only[if_true,Option.some.injEq]at hx;subst hx;exact⟨hid,by rw[oK hlt]⟩
  ·simp only[e,if_false]at hx;rw[List.getElem?_set_ne (λe'=>e e'.symm)];have:=h2 i x (by rw[hh i,hf i];simp [e,hx]);exact this
theorem Jn(H:Hs B aJ σ R)(hb:B b):Hs B aJ (σ++[b]) (blk σ.length b*R):=by
 have hl:=adN H;obtain⟨⟨bs,rfl,hB⟩,h,hr,h2⟩:=H;have hn:∀i x,h i=some x→i<(aJ++bs).length:=λi x hx=>(bQ.1 (h2 i x hx).2).1
 refine⟨⟨bs++[b],by simp,λx hx=>?_⟩,λi=>if i=(aJ++bs).length then some b else h i,⟨λi=>if i=(aJ++bs).length then some b else none,h,λi=>rfl,hr,λi=>?_,λi=>?_⟩,λi x hx=>?_⟩
 ·rcases jP.1 hx with hx|hx
  ·exact hB x hx
  ·simp at hx;subst hx;exact hb
 ·by_cases e:i=(aJ++bs).length
  ·right;cases hi:h i with
   |none=>rfl
   |some x=>have:=hn i x hi;omega
  ·simp only[e,if_false,true_or]
 ·by_cases e:i=(aJ++bs).length<;>simp only[e,if_true,if_false,Option.or_some,Option.none_or,Option.some_or]
 ·by_cases e:i=(aJ++bs).length
  ·subst e;simp only[if_true,Option.some.injEq]at hx;subst hx;exact⟨hl,by simp⟩
  ·simp only[e,if_false]at hx;obtain⟨k1,k2⟩:=h2 i x hx;exact⟨k1,by rw[jk (hn i x hx)];exact k2⟩
end
section
variable {α : Type} {E : aq → α → HP} {B : aS → Prop} {aJ σ : Heap} {R : HP}
def els(E:aq→α→HP):List aq→List α→HP
 |[],[]=>emp
 |e::es,x::l=>E e x*els E es l
 |_,_=>pr False
theorem PG:∀{es:List aq}{l:List α}{R:HP},Hs B aJ σ (els E es l*R)→es.length=l.length
 |[],[],_,_=>rfl
 |[],_::_,_,H=>(qm.1 H).1.elim
 |_::_,[],_,H=>(qm.1 H).1.elim
 |e::es,x::l,R,H=>by have:=PG (es:=es) (l:=l) (R:=E e x*R) (eu (by rw[els];ac_rfl) H);simp [this]
theorem acI:∀{AZ J3:List aq}{l1 l2:List α},AZ.length=l1.length→els E (AZ++J3) (l1++l2)=els E AZ l1*els E J3 l2
 |[],J3,[],l2,_=>by rw[els,D2];rfl
 |e::AZ,J3,x::l1,l2,h=>by simp only[nO,els];rw[acI (by simpa using h)];ac_rfl
theorem aoI(e:aq)(x:α):els E [e] [x]=E e x:=by rw[els,els,an8]
def fl(c:α→aq):aq→α→HP:=λe x=>pr (e=c x)
theorem P4{c:α→aq}:∀{es:List aq}{l:List α}{R:HP},Hs B aJ σ (els (fl c) es l*R)↔es=l.map c∧Hs B aJ σ R
 |[],[],R=>by rw[els,D2];simp
 |[],x::l,R=>by show Hs B aJ σ (pr False*R)↔_;rw[qm];simp
 |e::es,[],R=>by show Hs B aJ σ (pr False*R)↔_;rw[qm];simp
 |e::es,x::l,R=>by rw[els,fl,w8,qm,P4,eY,List.cons.injEq,and_assoc]
def Sl(E:aq→α→HP)(sz:Nat)(v:AV)(l:List α):HP:=λh=>(l=[]∧(v=.az∨v=.ez)∧emp h)∨∃id g seg,v=.os id g sz 0 l.length∧(blk id (.arr g sz seg)*els E seg l) h
variable {sz : Nat} {v : AV} {l : List α}
theorem Cq(H:Hs B aJ σ (Sl E sz v l*R)):(l=[]∧(v=.az∨v=.ez)∧Hs B aJ σ R)∨∃id g seg,v=.os id g sz 0 l.length∧seg.length=l.length∧Hs B aJ σ (blk id (.arr g sz seg)*(els E seg l*R)):=by
 have H2:=zX H;obtain⟨h1,h,⟨f,g,hf,hg,hd,hh⟩,h2⟩:=H;rcases hf with⟨k1,k2,k3⟩|⟨id,gg,seg,k1,k2⟩
 ·exact .inl ⟨k1,k2,H2⟩
 ·have K:Hs B aJ σ (blk id (.arr gg sz seg)*(els E seg l*R)):=eu (w8 _ _ _) ⟨h1,h,⟨f,g,k2,hg,hd,hh⟩,h2⟩;exact .inr ⟨id,gg,seg,k1,PG (R:=blk id (.arr gg sz seg)*R) (eu (by ac_rfl) K),K⟩
theorem uL(H:Hs B aJ σ R)(hv:v=.az∨v=.ez):Hs B aJ σ (Sl E sz v []*R):=
 acQ (P:=emp) (λh k=>.inl ⟨rfl,hv,k⟩) (eu (D2 R).symm H)
theorem Qu{id g:Nat}{seg:List aq}{n:Nat}(H:Hs B aJ σ (blk id (.arr g sz seg)*(els E seg l*R)))(hn:n=l.length:=by rfl):Hs B aJ σ (Sl E sz (.os id g sz 0 n) l*R):=
 acQ (P:=blk id (.arr g sz seg)*els E seg l) (λh k=>.inr ⟨id,g,seg,by rw[hn],k⟩) (eu (w8 _ _ _).symm H)
theorem aea(H:Hs B aJ σ (Sl E sz v l*R)):A.bY v=some (.ah l.length):=by rcases Cq H with⟨rfl,rfl|rfl,_⟩|⟨id,g,seg,rfl,_⟩<;>rfl
theorem LG{ys:List aq}{xs:List α}{most:Nat}(H:Hs B aJ σ (Sl E sz v l*(els E ys xs*R)))(hm:l.length+xs.length≤most)(hB:∀g g' seg,(seg=[]∨B (.arr g sz seg))→B (.arr g' sz (seg++ys))):
  ∃v' σ',A.append sz most v (.sl sz ys) σ=some (v',σ')∧Hs B aJ σ' (Sl E sz v' (l++xs)*R):=by
 rcases Cq H with⟨rfl,hv,H⟩|⟨id,g,seg,rfl,hl,H⟩
 ·have hxl:=PG H;by_cases hy:ys=[]
  ·subst hy;have:xs=[]:=Am (by simpa using hxl.symm);subst this;refine⟨v,σ,?_,uL (zX H) hv⟩;rcases hv with rfl|rfl<;>simp [A.append,A.elems,A.wj]
  ·refine⟨.os σ.length ys.length sz 0 ys.length,σ++[.arr ys.length sz ys],?_,?_⟩
   ·have:ys.length≤most:=by simp at hm;omega
    rcases hv with rfl|rfl<;>simp [A.append,A.elems,A.wj,hy,this]
   ·have H2:=Jn H (by simpa using hB 0 ys.length [] (.inl rfl):B (.arr ys.length sz ys));exact Qu H2 (by simpa using hxl)
 ·have hxl:=PG (eu (show _=els E ys xs*(blk id (.arr g sz seg)*(els E seg l*R)) by ac_rfl) H);obtain⟨h1,h2⟩:=kC H;by_cases hy:ys=[]
  ·subst hy;have:xs=[]:=Am (by simpa using hxl.symm);subst this;refine⟨.os id g sz 0 l.length,σ,?_,?_⟩
   ·have:l.length≤most:=by simpa using hm
    simp [A.append,A.elems,A.wj,h2,hl,this]
   ·rw[List.append_nil];exact Qu (eu (by rw[els,D2]) H)
  ·have hp:0<ys.length:=List.length_pos_iff.2 hy;refine⟨.os id (g+ys.length) sz 0 (l.length+ys.length),σ.set id (.arr (g+ys.length) sz (seg++ys)),?_,?_⟩
   ·have e1:l.length+ys.length≤most:=by omega
    have e2:seg.take l.length=seg:=rS (by omega);simp [A.append,A.elems,A.wj,h2,hl,e1,hy,e2,hp]
   ·have H2:=CC (b':=.arr (g+ys.length) sz (seg++ys)) H (hB g _ seg (.inr (atl H)));exact Qu (id:=id) (g:=g+ys.length) (seg:=seg++ys) (eu (by rw[acI hl];ac_rfl) H2) (by simp;omega)
end
end
section
open HP
section
variable {σ : Heap} {id g sz off len : Nat} {es : List aq}
theorem dO{α:Type}{X Y:Option α}:A.cond (.bool true) X Y=X:=rfl
theorem dw{α:Type}{X Y:Option α}:A.cond (.bool false) X Y=Y:=rfl
theorem ap4{R:Type}{p:Nat→Prop}{k:Nat→Option R}{r:R}(n:Nat)(hn:p n)(h:∀n,p n→k n=some r):A.all p k=some r:=by
 have hx:∃r,∀n,p n→k n=some r:=⟨r,h⟩
 unfold A.all;rw[dif_pos hx];have:=Classical.choose_spec hx n hn;rw[h n hn]at this;injection this with this
 rw[←this]
end
section
variable {α : Type} {E : aq → α → HP} {aJ σ : Heap} {R : HP} {sz most : Nat} {zs : aq} {rot : aq → Heap → aH} {v : AV} {l : List α} {y : α} {ye : aq} {i : Nat}
end
end
def bf(n lo hi:Int):Bool:=decide (lo≤n∧n≤hi)
def uI(c:UInt8):Bool:=decide (97≤c.toNat∧c.toNat≤122)||decide (48≤c.toNat∧c.toNat≤57)||decide (c.toNat=45)
def JS(s:ByteArray):Bool:=s.data.toList.all uI&&decide (0<s.size)
def xC(s:ByteArray):Bool:=JS s&&decide (s.size≤20)&&decide (97≤(s.data.toList.getD 0 0).toNat)&&decide ((s.data.toList.getD 0 0).toNat≤122)
def pc(c:UInt8):Bool:=decide (32≤c.toNat∧c.toNat≤126)
def Qg(s:ByteArray):Bool:=decide (0<s.size)&&decide (s.size≤60)&&(decide ((s.data.toList.getD 0 0).toNat≠32)&&decide ((s.data.toList.getD (s.size-1) 0).toNat≠32))
def LI(s:ByteArray):Bool:=s.data.toList.all pc&&Qg s
theorem alN(s:ByteArray)(i:Nat)(h:i<s.size):s.data.toList.getD i 0=s[i]:=by rw[List.getD_eq_getElem?_getD,bR (by simpa using h)];rfl
def QC(pre:List rM):List rM→Int
 |[]=>0
 |r::rest=>
  if bf r.low 0 65535=false∨bf r.high 0 65535=false∨r.high<r.low then 1
  else if 0<pre.length∧r.low≤(pre.getLast?.map (·.high)).getD 0 then 7
  else if xC r.name=false then 5
  else if jS r.name (pre.map (·.name))=true then 6
  else QC (pre++[r]) rest
def Cy(l:List rM):Int:=if 30<l.length then 2 else QC [] l
def slotsOf(l:List fu):List Int:=l.flatMap λx=>if 0<x.oN then[x.qv,x.oN]else[x.qv]
theorem Zl(l:List fu)(x:fu):slotsOf (l++[x])=slotsOf l++(if 0<x.oN then[x.qv,x.oN]else[x.qv]):=by simp [slotsOf]
def BR(size:Int)(pre:List fu):List fu→Int
 |[]=>0
 |x::rest=>
  if xC x.name=false then 5
  else if jS x.name (pre.map (·.name))=true then 6
  else if bf x.group 1 4=false then 4
  else if bf x.qv 1 size=false∨bf x.oN 0 size=false∨bf x.default 0 65535=false then 1
  else if x.qv=x.oN∨jS x.qv (slotsOf pre)=true∨(0<x.oN∧jS x.oN (slotsOf pre)=true)then 12
  else if Cy x.ranges=0 then BR size (pre++[x]) rest else Cy x.ranges
def su(p:cG):Int:=
 if xC p.name=false then 5 else if bf p.size 1 512=false then 1 else if p.params.length=0 then 8 else if 40<p.params.length then 2 else BR p.size [] p.params
def Mg(size:Int)(pre:List fu)(x:fu):Int:=
 if xC x.name=false then 5
 else if jS x.name (pre.map (·.name))=true then 6
 else if bf x.group 1 4=false then 4
 else if bf x.qv 1 size=false∨bf x.oN 0 size=false∨bf x.default 0 65535=false then 1
 else if x.qv=x.oN∨jS x.qv (slotsOf pre)=true∨(0<x.oN∧jS x.oN (slotsOf pre)=true)then 12
 else Cy x.ranges
theorem aly(size:Int)(pre:List fu)(x:fu)(rest:List fu):BR size pre (x::rest)=if Mg size pre x=0 then BR size (pre++[x]) rest else Mg size pre x:=by
 rw[BR,Mg];split<;>first|(simp;done)|skip
 split<;>first|(simp;done)|skip
 split<;>first|(simp;done)|skip
 split<;>first|(simp;done)|skip
 split<;>first|(simp;done)|skip
def BQ(pre:List cG):List cG→Int
 |[]=>0
 |p::rest=>if su p=0 then(if jS p.name (pre.map (·.name))=true then 6 else BQ (pre++[p]) rest)else su p
def zc(l:List cG):Int:=if 60<l.length then 2 else BQ [] l
def iZ(nm:ByteArray):List cG→cG×Bool
 |[]=>(⟨⟨#[]⟩,0,[]⟩,false)
 |p::rest=>if p.name=nm then(p,true)else iZ nm rest
def yT(f:Nat→Bool):Nat→Nat→Bool
 |0,_=>true
 |n+1,a=>if 512<a∨f a=true then false else yT f n (a+1)
def qF(f:Int→Nat→Bool)(u:Int)(a s:Nat):Int→Nat→Bool:=λv k=>if v=u∧a≤k∧k<a+s then true else f v k
def GH(pre:List Int)(n:Int):Bool:=match pre.getLast? with|some m=>decide (n≤m)|none=>false
def sI(jl:List cG)(u:iG):Int:=u.address+(iZ u.gW jl).1.size-1
def Jk(jl:List cG)(u:iG)(pre:List iG):Bool:=pre.any λx=>decide (x.univ=u.univ∧x.address≤sI jl u∧u.address≤sI jl x)
def JE(jl:List cG)(pre:List iG):List iG→Int
 |[]=>0
 |u::rest=>
  if bf u.aA 1 9999=false then 1
  else if GH (pre.map (·.aA)) u.aA=true then 7
  else if(iZ u.gW jl).2=false then 5
  else if bf u.univ 1 64=false∨bf u.address 1 512=false∨512<sI jl u then 1
  else if Jk jl u pre=true then 12
  else JE jl (pre++[u]) rest
def jT(r:gC):Int:=if zc r.bg=0 then(if 400<r.cW.length then 2 else JE r.bg [] r.cW)else zc r.bg
def Lk(jl:List cG)(pre:List iG):Prop:=∀x∈pre,1≤x.address∧x.address≤sI jl x∧sI jl x≤512
def Ei(jl:List cG)(pre:List iG)(f:Int→Nat→Bool):Prop:=∀v k,f v k=true↔∃x∈pre,x.univ=v∧x.address≤(k:Int)∧(k:Int)≤sI jl x
theorem Ei.nil(jl:List cG):Ei jl [] (λ_ _=>false):=λv k=>by simp
theorem Ei.snoc{jl:List cG}{pre:List iG}{f:Int→Nat→Bool}(h:Ei jl pre f)(u:iG)(a s:Nat)(ha:u.address=a)(hs:sI jl u=(a:Int)+s-1):Ei jl (pre++[u]) (qF f u.univ a s):=by
 intro v k;unfold qF;by_cases e:v=u.univ∧a≤k∧k<a+s
 ·rw[aO e];refine⟨λ_=>⟨u,by simp,e.1.symm,by omega,by omega⟩,λ_=>rfl⟩
 ·rw[aK e,h v k];constructor
  ·rintro⟨x,hx,h1⟩;exact⟨x,by simp [hx],h1⟩
  ·rintro⟨x,hx,h1,h2,h3⟩;simp only[jP,List.mem_singleton]at hx;rcases hx with hx|rfl
   ·exact⟨x,hx,h1,h2,h3⟩
   ·exact absurd ⟨h1.symm,by omega,by omega⟩ e
theorem TZ(f:Nat→Bool):∀(s a:Nat),yT f s a=true↔∀k,a≤k→k<a+s→k≤512∧f k=false
 |0,a=>by simp [yT];intro k h1 h2;omega
 |s+1,a=>by
  rw[yT];by_cases e:512<a∨f a=true
  ·rw[aO e];simp only[Bool.false_eq_true,false_iff];intro h;have:=h a (aQ _) (by omega);rcases e with e|e
   ·omega
   ·rw[e]at this;simp at this
  ·rw[aK e,TZ f s (a+1)];constructor
   ·intro h k h1 h2;by_cases hk:k=a
    ·subst hk;refine⟨by omega,?_⟩;cases hf:f k
     ·rfl
     ·exact absurd (.inr hf) e
    ·exact h k (by omega) (by omega)
   ·intro h k h1 h2;exact h k (by omega) (by omega)
theorem akb{jl:List cG}{pre:List iG}{f:Int→Nat→Bool}(h:Ei jl pre f)(hok:Lk jl pre)(u:iG)(a s:Nat)(ha:u.address=a)(h1:1≤s)(hs:sI jl u=(a:Int)+s-1)(h2:sI jl u≤512):yT (f u.univ) s a=!Jk jl u pre:=by
 rw[qq,TZ];simp only[Bool.not_eq_true',Jk,List.any_eq_false,decide_eq_true_eq,not_and];constructor
 ·intro hf x hx e1 e2 e3;have hx':=hok x hx;obtain⟨k,hk⟩:∃k:Nat,(k:Int)=max x.address a:=⟨(max x.address (a:Int)).toNat,by omega⟩
  have hf':=(hf k (by omega) (by omega)).2;have:f u.univ k=true:=(h u.univ k).2 ⟨x,hx,e1,by omega,by omega⟩;rw[this]at hf';simp at hf'
 ·intro hf k h3 h4;refine⟨by omega,?_⟩;cases hfk:f u.univ k
  ·rfl
  ·obtain⟨x,hx,e1,e2,e3⟩:=(h u.univ k).1 hfk;exact absurd (show u.address≤sI jl x by omega) (hf x hx e1 (by omega))
theorem ah6{p:cG}(h:su p=0):1≤p.size∧p.size≤512:=by
 unfold su at h;by_cases h1:xC p.name=false
 ·rw[aO h1]at h;simp at h
 ·rw[aK h1]at h;by_cases h2:bf p.size 1 512=false
  ·rw[aO h2]at h;simp at h
  ·simpa [bf]using h2
theorem ZW:∀(l pre:List cG),BQ pre l=0→∀p∈l,1≤p.size∧p.size≤512
 |[],pre,h,p,hp=>by simp at hp
 |q::rest,pre,h,p,hp=>by
  rw[BQ]at h;by_cases e:su q=0
  ·rw[aO e]at h;by_cases e2:jS q.name (pre.map (·.name))=true
   ·rw[aO e2]at h;simp at h
   ·rw[aK e2]at h;simp only[jt]at hp;rcases hp with rfl|hp
    ·exact ah6 e
    ·exact ZW rest _ h p hp
  ·rw[aK e]at h;exact absurd h e
theorem akh{l:List cG}(h:zc l=0):∀p∈l,1≤p.size∧p.size≤512:=by
 unfold zc at h;by_cases e:60<l.length
 ·rw[aO e]at h;simp at h
 ·rw[aK e]at h;exact ZW l [] h
theorem TG(nm:ByteArray):∀(l:List cG),(iZ nm l).2=true→(iZ nm l).1∈l
 |[],h=>by simp [iZ]at h
 |p::r,h=>by
  rw[iZ]at h ⊢;by_cases e:p.name=nm
  ·rw[aO e];simp
  ·rw[aK e]at h ⊢;exact sM _ (TG nm r h)
theorem Lk.snoc{jl:List cG}{pre:List iG}(h:Lk jl pre){u:iG}(h1:1≤u.address∧u.address≤sI jl u∧sI jl u≤512):Lk jl (pre++[u]):=λx hx=>by
 simp only[jP,List.mem_singleton]at hx;rcases hx with hx|rfl
 ·exact h x hx
 ·exact h1
theorem mh(n lo hi:Int)(σ:Heap):lQ [.ah n,.ah lo,.ah hi] σ=some (.bool (bf n lo hi),σ):=by refine wrap_eq rfl ?_ rfl;show SN _ _ _ σ=_;unfold SN bf;by_cases h:lo≤n<;>simp only[aT,reduceCtorEq,h,true_and,false_and]
theorem yK(b:Bool)(n:Int)(σ:Heap):uR [.bool b,.ah n] σ=some (.ah (if b=true then n else 0),σ):=by refine wrap_eq rfl ?_ rfl;show Tk _ _ σ=_;unfold Tk;cases b<;>simp [aT,reduceCtorEq]
theorem U1(s:ByteArray){i:Nat}(h:i<s.size):A.wL (.str s) (.ah (i:Int))=some (.int .u8 (s.data.toList.getD i 0).toNat):=by
 have h1:s[i]? =some s[i]:=by simp [h]
 simp [A.wL,A.idx,h,alN s i h];rfl
theorem Z5(s:ByteArray):(decide (¬s=⟨#[]⟩))=decide (0<s.size):=by
 rw[decide_eq_decide];constructor
 ·intro h;rcases Nat.eq_zero_or_pos s.size with e|e
  ·exact absurd (ByteArray.ext (Array.eq_empty_of_size_eq_zero e)) h
  ·exact e
 ·rintro h rfl;exact absurd h (by decide)
theorem apY(s:ByteArray)(hs:kS s)(σ:Heap):TC [.str s] σ=some (.bool (JS s),σ):=by
 refine wrap_eq rfl ?_ rfl;show TL _ σ=_;unfold TL;simp only[aT,reduceCtorEq];refine(abz (p:=uI) s (some (.bool false,σ)) ?_ ?_ ?_).trans ?_
 ·intro i c hi hc;have h1:aU ((i:Int)+1):=by unfold kS bu at hs;unfold aU;omega
  have h2:(i:Int)<s.size:=by omega
  simp only[aT,reduceCtorEq,h2,hc,cR h1,uI];clear hc h1
  repeat' ((first|rw[zy]|rw[zx]|rw[zq]|rw[y9]|rw[zo]|rw[zn]);split<;>try simp only[aT,reduceCtorEq, *])
  all_goals first|rfl|(refine(aO ?_).symm;simp;omega)|(refine(aK ?_).symm;simp;omega)|(refine congrArg some (congrArg (λb=>(AV.bool b,σ)) ?_);rw[qq];simp;omega)
 ·simp only[aT,reduceCtorEq,Int.lt_irrefl]
 ·intro i;simp only[aT,reduceCtorEq]
 ·simp only[aT,reduceCtorEq,Z5,JS];cases s.data.toList.all uI<;>simp
theorem anV{s:ByteArray}(h:JS s=true):0<s.size:=by simp only[JS,jC,decide_eq_true_eq]at h;exact h.2
theorem Pz(s:ByteArray)(hs:kS s)(σ:Heap):II [.str s] σ=some (.bool (xC s),σ):=by
 refine wrap_eq rfl ?_ rfl;show Tj _ σ=_;unfold Tj;simp only[aT,reduceCtorEq,apY s hs];cases h:JS s
 ·simp [aT,reduceCtorEq,xC,h]
 ·have h0:=anV h;have:=U1 s h0;simp only[Int.ofNat_zero]at this;simp only[aT,reduceCtorEq,this];simp only[xC,h,Bool.true_and];generalize s.data.toList.getD 0 0=c0 at *
  repeat' ((first|rw[zy]|rw[zx]|rw[zq]|rw[y9]|rw[zo]|rw[zn]);split<;>try simp only[aT,reduceCtorEq, *])
  all_goals first|rfl|(refine(aO ?_).symm;simp;omega)|(refine(aK ?_).symm;simp;omega)|(refine congrArg some (congrArg (λb=>(AV.bool b,σ)) ?_);rw[qq];simp;omega)
theorem abx(s:ByteArray)(hs:kS s)(σ:Heap):Oq [.str s] σ=some (.bool (LI s),σ):=by
 refine wrap_eq rfl ?_ rfl;show S9 _ σ=_;unfold S9;simp only[aT,reduceCtorEq];refine(abz (p:=pc) s (some (.bool false,σ)) ?_ ?_ ?_).trans ?_
 ·intro i c hi hc;have h1:aU ((i:Int)+1):=by unfold kS bu at hs;unfold aU;omega
  have h2:(i:Int)<s.size:=by omega
  simp only[aT,reduceCtorEq,h2,hc,cR h1,pc];clear h1
  repeat' ((first|rw[zy]|rw[zx]|rw[zq]|rw[y9]|rw[zo]|rw[zn]);split<;>try simp only[aT,reduceCtorEq, *])
  all_goals first|rfl|(refine(aO ?_).symm;simp;omega)|(refine(aK ?_).symm;simp;omega)|(refine congrArg some (congrArg (λb=>(AV.bool b,σ)) ?_);rw[qq];simp;omega)
 ·simp only[aT,reduceCtorEq,Int.lt_irrefl]
 ·intro i;simp only[aT,reduceCtorEq]
 ·simp only[aT,reduceCtorEq,Z5,LI];cases s.data.toList.all pc
  ·simp
  ·simp only[if_true,Bool.true_and];by_cases h0:0<s.size
   ·by_cases J5:s.size≤60
    ·have e0:=U1 s h0;have e1:=U1 s (i:=s.size-1) (by omega);simp only[Int.ofNat_zero]at e0;rw[show((s.size-1:Nat):Int)=(s.size:Int) -1 by omega]at e1;have h1:aU ((s.size:Int) -1):=by unfold kS bu at hs;unfold aU;omega
     have EE:(s.size:Int)≤60:=by omega
     have hw:=cR h1;simp only[Qg,h0,J5];generalize s.data.toList.getD 0 0=c0 at *
     generalize s.data.toList.getD (s.size-1) 0=c1 at *
     simp only[aT,reduceCtorEq,h0,EE,e0,e1,hw]
     repeat' ((first|rw[zy]|rw[zx]|rw[zq]|rw[y9]|rw[zo]|rw[zn]);split<;>try simp only[aT,reduceCtorEq, *])
     all_goals first|rfl|(refine(aO ?_).symm;simp;omega)|(refine(aK ?_).symm;simp;omega)|(refine congrArg some (congrArg (λb=>(AV.bool b,σ)) ?_);rw[qq];simp;omega)
    ·have EE:¬(s.size:Int)≤60:=by omega
     simp [aT,reduceCtorEq,h0,EE,Qg,J5]
   ·simp [aT,reduceCtorEq,h0,Qg]
theorem ajf(n:Int)(σ:Heap):Sn [.ah n] σ=some (.bool (bf n 0 65535),σ):=by refine wrap_eq rfl ?_ rfl;show Sr (.ah n) σ=_;unfold Sr;simp only[aT,reduceCtorEq,mh]
theorem alW{γ:Type}{f:aq→Heap→Option (AX×aq×Heap)}(a n:Nat)(p:Nat→Bool)(vs:Nat→aq)(σ:Heap)(fin:AX×aq×Heap)(ret:Nat→AX×aq×Heap){k:AX×aq×Heap→Option γ}(K1 K2:Option γ)
  (hstep:∀(i:Nat),a≤i→i<a+n→f (vs i) σ=if p i=true then some (ret i)else some (.normal,vs (i+1),σ)) (hend:f (vs (a+n)) σ=some fin) (hk1:k fin=K1) (hk2:∀i,k (ret i)=K2)
  (AG:fin.1≠.normal:=by simp) (GF:∀i,(ret i).1≠.normal:=by intros;simp) {v:aq} {σ':Heap} (hv:v=vs a:=by rfl) (iu:σ'=σ:=by rfl):
  (A.loop f v σ').bind k=if(List.range' a n).any p=true then K2 else K1:=by
 refine ab3 (List.range' a n) p (λi=>vs (a+i)) σ fin (λi=>ret (a+i)) K1 K2 ?_ (by rw[List.length_range'];exact hend) hk1 (λi=>hk2 _) AG (λi=>GF _) hv iu;intro i x hx;obtain⟨h1,h2⟩:=bQ.1 hx;rw[List.length_range']at h1;obtain rfl:a+i=x:=by simpa [List.getElem_range']using h2
 exact hstep (a+i) (by omega) (by omega)
def fC:nL:=⟨0,0⟩
def Gm(p:nL):Bool:=!(bf p.time 0 1000)||!(bf p.way 0 1000)
def GI(l:List nL)(i:Nat):Bool:=decide ((l.getD i fC).time≤(l.getD (i-1) fC).time∨(l.getD i fC).way<(l.getD (i-1) fC).way)
def Wy(l:List nL):Int:=
 if l.any Gm=true then 1
 else if ¬((l.getD 0 fC).time=0∧(l.getD 0 fC).way=0)then 3
 else if ¬((l.getD (l.length-1) fC).time=1000∧(l.getD (l.length-1) fC).way=1000)then 3
 else if(List.range' 1 (l.length-1)).any (GI l)=true then 7 else 0
def sA(c:sy):Int:=
 if bf c.kind 1 6=false then 4
 else if c.kind=6 then(if c.ck.length<2 then 8 else if 20<c.ck.length then 2 else Wy c.ck)
 else if 0<c.ck.length then 3 else 0
theorem Ut(x:nL)(a b:Int):A.neq (.s [0,0]) (.agg (jB x)) (.agg [.ah a,.ah b])=some (.bool (decide (¬(x.time=a∧x.way=b)))):=by simp only[A.neq,A.fN,jB,A.iL,A.oS,A.pX,if_true,aY,cC];congr 2;rw[qq];simp
theorem aeM(a b c:AV):A.au 0 [a] [b,c]=some [a,c]:=rfl
theorem aeN(a b c:AV):A.au 1 [a] [b,c]=some [b,a]:=rfl
theorem Eb{l:List nL}{i:Nat}(h:i<l.length):l[i]? =some (l.getD i fC):=by simp [h]
theorem YZ(c:sy)(σ:Heap):N1 [.agg (nZ c)] σ=some (.ah (sA c),σ):=by
 refine wrap_eq rfl ?_ rfl;show R5 (.agg (nZ c)) σ=_;unfold R5 sA;simp only[aT,reduceCtorEq,zM,zN,zP,zO,zQ,mh];cases hk:bf c.kind 1 6
 ·simp only[aT,reduceCtorEq]
 by_cases h6:c.kind=6
 case neg=>
  by_cases h0:0<c.ck.length
  ·simp only[aT,reduceCtorEq,zM,zN,zP,zO,zQ,h6,h0,yK,show(0:Int)<c.ck.length by omega]
  ·simp only[aT,reduceCtorEq,zM,zN,zP,zO,zQ,h6,h0,yK,show ¬(0:Int)<c.ck.length by omega]
 by_cases h2:c.ck.length<2
 ·simp only[aT,reduceCtorEq,zM,zN,zP,zO,zQ,h6,h2,show(c.ck.length:Int)<2 by omega]
 by_cases MP:20<c.ck.length
 ·simp only[aT,reduceCtorEq,zM,zN,zP,zO,zQ,h6,h2,MP,show ¬(c.ck.length:Int)<2 by omega,show(20:Int)<c.ck.length by omega]
 simp only[aT,reduceCtorEq,zM,zN,zP,zO,zQ,h6,h2,MP,show ¬(c.ck.length:Int)<2 by omega,show ¬(20:Int)<c.ck.length by omega];have MZ:c.ck.length≤bu:=by unfold bu;omega
 refine(ab3 c.ck Gm (λi=>[.ah 0,.ah (i:Int)]) σ (.exit 0,[.ah 0,.ah (c.ck.length:Int)],σ) (λi=>(.ret,[.ah 1,.ah (i:Int)],σ))
  (some (.ah (if ¬((c.ck.getD 0 fC).time=0∧(c.ck.getD 0 fC).way=0)then 3
 else if ¬((c.ck.getD (c.ck.length-1) fC).time=1000∧(c.ck.getD (c.ck.length-1) fC).way=1000)then 3
 else if(List.range' 1 (c.ck.length-1)).any (GI c.ck)=true then 7 else 0),σ)) (some (.ah 1,σ)) ?_ ?_ ?_ ?_).trans ?_
 ·intro i x hx;obtain⟨g1,g2,g3⟩:=Pj 2 jB hx;have g3:=g3 MZ;simp only[aT,reduceCtorEq,KM,KN,FO,FJ,FR,g1,g2,g3,mh,Gm];rcases Bool.eq_false_or_eq_true (bf x.time 0 1000)with e|e
  ·rcases Bool.eq_false_or_eq_true (bf x.way 0 1000)with e'|e'<;>simp only[aT,reduceCtorEq,mh,e,e',Bool.false_or,Bool.or_false]
  ·simp only[aT,reduceCtorEq,e,Bool.true_or]
 ·exact D4 _ _ _
 ·have g0:=nj 2 jB c.ck (Eb (l:=c.ck) (i:=0) (by omega));have gl:=OH 2 jB c.ck (k:=c.ck.length) (by omega) (Eb (by omega));have hw:IntKind.i64.wrap ((c.ck.length:Int) -1)=(c.ck.length:Int) -1:=cR (by unfold aU;omega);simp only[Int.ofNat_zero,Int.natCast_zero]at g0;simp only[aT,reduceCtorEq,zM,zN,zP,zO,zQ,KM,KN,FO,FJ,FR,g0,Ut];by_cases e1:(c.ck.getD 0 fC).time=0∧(c.ck.getD 0 fC).way=0;case neg=>simp only[aT,reduceCtorEq,e1]
  simp only[aT,reduceCtorEq,zM,zN,zP,zO,zQ,e1,hw,gl,KM,KN,FO,FJ,FR];by_cases e2:(c.ck.getD (c.ck.length-1) fC).time=1000∧(c.ck.getD (c.ck.length-1) fC).way=1000
  case neg=>
   simp only[aeM,aeN,aT,reduceCtorEq,Ut,e2]
  simp only[aeM,aeN,aT,reduceCtorEq,Ut,e2];refine(alW 1 (c.ck.length-1) (GI c.ck) (λi=>[.ah 0,.ah (i:Int)]) σ (.exit 2,[.ah 0,.ah (c.ck.length:Int)],σ) (λi=>(.ret,[.ah 7,.ah (i:Int)],σ)) (some (AV.ah 0,σ)) (some (AV.ah 7,σ)) ?_ ?_ ?_ ?_).trans ?_
  ·intro i hi1 hi2;have k1:=nj 2 jB c.ck (Eb (l:=c.ck) (i:=i) (by omega));have k2:=OH 2 jB c.ck (k:=i) (by omega) (Eb (by omega));have k3:IntKind.i64.wrap ((i:Int) -1)=(i:Int) -1:=cR (by unfold aU;omega);have k4:IntKind.i64.wrap ((i:Int)+1)=((i+1:Nat):Int):=by rw[cR (by unfold aU;omega)];omega
   have k5:(i:Int)<c.ck.length:=by omega
   simp only[aT,reduceCtorEq,zM,zN,zP,zO,zQ,KM,KN,FO,FJ,FR,k1,k2,k3,k5,GI];by_cases q1:(c.ck.getD i fC).time≤(c.ck.getD (i-1) fC).time
   ·simp only[aT,reduceCtorEq,q1]
   ·by_cases q2:(c.ck.getD i fC).way<(c.ck.getD (i-1) fC).way<;>simp only[aT,reduceCtorEq,zM,zN,zP,zO,zQ,KM,KN,FO,FJ,FR,k1,k2,k3,k4,q1,q2]
  ·rw[show 1+(c.ck.length-1)=c.ck.length by omega];simp only[aT,reduceCtorEq,zM,zN,zP,zO,zQ,Int.lt_irrefl]
  ·simp only[aT,reduceCtorEq]
  ·intro i;simp only[aT,reduceCtorEq]
  ·cases(List.range' 1 (c.ck.length-1)).any (GI c.ck)<;>rfl
 ·intro i;simp only[aT,reduceCtorEq]
 ·unfold Wy;cases c.ck.any Gm<;>rfl
theorem FT(l:List Int)(hl:l.length≤bu)(σ:Heap):Bq [sl 1 vq l] σ=some (.ah ((l.find? λn=>decide (¬n=0)).getD 0),σ):=by
 refine wrap_eq rfl ?_ rfl;show S6 (sl 1 vq l) σ=_;unfold S6;simp only[aT,reduceCtorEq];refine(aaZ l (λn=>decide (¬n=0)) (λi=>[.ah 0,.ah (i:Int)]) σ (.exit 0,[.ah 0,.ah (l.length:Int)],σ) (λi n=>(.ret,[.ah n,.ah (i:Int)],σ)) (some (AV.ah 0,σ)) (λn=>some (AV.ah n,σ)) ?_ ?_ ?_ ?_).trans ?_
 ·intro i x hx;obtain⟨g1,g2,g3⟩:=Pj 1 vq hx;have g3:=g3 hl;simp only[aT,reduceCtorEq,g1,g2,g3]
  repeat' ((first|rw[zy]|rw[zx]|rw[zq]|rw[y9]|rw[zo]|rw[zn]);split<;>try simp only[aT,reduceCtorEq, *])
  all_goals first|with_reducible rfl|(simp [*];done)|(simp_all;done)|(simp_all;omega)|rfl
 ·exact D4 _ _ _
 ·simp only[aT,reduceCtorEq]
 ·intro i n;simp only[aT,reduceCtorEq]
 ·cases l.find? (λn=>decide (¬n=0))<;>rfl
theorem IF(n:Int)(σ:Heap):Ku [.ah n] σ=some (.bool (bf n 0 65535),σ):=by refine wrap_eq rfl ?_ rfl;show R9 _ σ=_;unfold R9;simp only[aT,reduceCtorEq,mh]
theorem ahB(l:List rM)(hok:gE UX l)(σ:Heap):RS [sl 3 pI l] σ=some (.ah (Cy l),σ):=by
 refine wrap_eq rfl ?_ rfl;show RU (sl 3 pI l) σ=_;unfold RU Cy;simp only[aT,reduceCtorEq];by_cases QY:30<l.length
 ·have Mj:(30:Int)<l.length:=by omega
  simp only[aT,reduceCtorEq,QY,Mj]
 ·have Mj:¬(30:Int)<l.length:=by omega
  simp only[aT,reduceCtorEq,QY,Mj]
  refine(qC (S:=Unit) (R:=Int) l (λpre x _=>
    if bf x.low 0 65535=false∨bf x.high 0 65535=false∨x.high<x.low then .out 1
    else if 0<pre.length∧x.low≤(pre.getLast?.map (·.high)).getD 0 then .out 7
    else if xC x.name=false then .out 5
    else if jS x.name (pre.map (·.name))=true then .out 6 else .go ())
   (λpre _=>[.ah 0,.ah (pre.length:Int)]) (λpre _=>σ++[aS.map (oP (·.name) pre)])
   (λ_=>(.exit 0,[.ah 0,.ah (l.length:Int)],σ++[aS.map (oP (·.name) l)])) (λpre _ r=>(.ret,[.ah r,.ah (pre.length:Int)],σ++[aS.map (oP (·.name) pre)]))
   (λ_ _=>True) () (λ_=>some (AV.ah 0,σ)) (λr=>some (AV.ah r,σ)) ?_ ?_ trivial (λ_ _ _ _ _ _ _ _=>trivial) ?_ ?_).trans ?_
  ·intro pre x rest u hl _;have hx:=qE hl;have hlt:=uf hl;have hi1:IntKind.i64.wrap ((pre.length:Int)+1)=(pre.length:Int)+1:=cR (by unfold aU;omega);have hi2:IntKind.i64.wrap ((pre.length:Int) -1)=(pre.length:Int) -1:=cR (by unfold aU;omega);have hlt':(pre.length:Int)<(l.length:Int):=by omega
   have hnm:=(hok.2 x (by rw[hl];simp)).2.2;have lD:=nj 3 pI l hx;have hN:=Pz _ hnm;by_cases h0:0<pre.length
   ·obtain⟨y,hy,hy2⟩:=ace hl h0;have Wi:=OH 3 pI l h0 hy2;have uD:(0:Int)<pre.length:=by omega
    clear hl hx hlt hok QY Mj hy2 hnm;simp only[aT,reduceCtorEq,Oz,OA,OB,OZ,OS,O3,hlt',lD,IF,hi1,hi2,hN,uD,hy,h0]
    repeat' ((first|rw[zy]|rw[zx]|rw[zq]|rw[y9]|rw[zo]|rw[zn]);split<;>try simp only[aT,reduceCtorEq,Oz,OA,OB,OZ,OS,O3,IF, *])
    all_goals first|with_reducible rfl|(simp [*];done)|(simp_all;done)|(simp_all;omega)|rfl
   ·have uD:¬(0:Int)<pre.length:=by omega
    clear hl hx hlt hok QY Mj hnm;simp only[aT,reduceCtorEq,Oz,OA,OB,OZ,OS,O3,hlt',lD,IF,hi1,hi2,hN,uD,h0]
    repeat' ((first|rw[zy]|rw[zx]|rw[zq]|rw[y9]|rw[zo]|rw[zn]);split<;>try simp only[aT,reduceCtorEq,Oz,OA,OB,OZ,OS,O3,IF, *])
    all_goals first|with_reducible rfl|(simp [*];done)|(simp_all;done)|(simp_all;omega)|rfl
  ·intro u _;simp only[aT,reduceCtorEq,Int.lt_irrefl]
  ·intro u _;simp only[aT,reduceCtorEq]
  ·intros;simp only[aT,reduceCtorEq]
  ·refine(OO (yf:=QC) ?_ ?_ (λn=>some (AV.ah n,σ)) l []).trans ?_
   ·intro pre;rfl
   ·intro pre x rest;rw[QC];simp only[Jl,Ej,Er]
   ·rfl
theorem ahl(p:cG)(hok:KY p)(σ:Heap):RM [.agg (cI p)] σ=some (.ah (su p),σ):=by
 refine wrap_eq rfl ?_ rfl;show RO (.agg (cI p)) σ=_;obtain⟨pn,ps,l⟩:=p;obtain⟨hnm,hps,Wn⟩:=hok;simp only at hnm hps Wn;have hN:=Pz _ hnm;unfold RO su;simp only[aT,reduceCtorEq,pe,p7,pg,qc,p9,qd,hN,mh];cases hn:xC pn
 ·simp only[aT,reduceCtorEq]
 cases hz:bf ps 1 512
 ·simp only[aT,reduceCtorEq]
 by_cases h0:l.length=0
 ·obtain rfl:l=[]:=Am h0;simp [aT,reduceCtorEq]
 have uD:¬(l.length:Int)=0:=by omega
 by_cases Xt:40<l.length
 ·have QE:(40:Int)<l.length:=by omega
  simp only[aT,reduceCtorEq,h0,uD,Xt,QE]
 have QE:¬(40:Int)<l.length:=by omega
 simp only[aT,reduceCtorEq,h0,uD,Xt,QE]
 refine(qC (S:=Unit) (R:=Int) l (λpre x _=>
   if xC x.name=false then .out 5
   else if jS x.name (pre.map (·.name))=true then .out 6
   else if bf x.group 1 4=false then .out 4
   else if bf x.qv 1 ps=false∨bf x.oN 0 ps=false∨bf x.default 0 65535=false then .out 1
   else if x.qv=x.oN∨jS x.qv (slotsOf pre)=true∨(0<x.oN∧jS x.oN (slotsOf pre)=true)then .out 12
   else if Cy x.ranges=0 then .go ()else .out (Cy x.ranges))
  (λpre _=>[.lbx (cI ⟨pn,ps,l⟩),.ah 0,.ah (pre.length:Int)]) (λpre _=>σ++[aS.map (oP (·.name) pre),aS.map (uz id (slotsOf pre))])
  (λ_=>(.exit 1,[.lbx (cI ⟨pn,ps,l⟩),.ah 0,.ah (l.length:Int)],σ++[aS.map (oP (·.name) l),aS.map (uz id (slotsOf l))]))
  (λpre _ r=>(.ret,[.lbx (cI ⟨pn,ps,l⟩),.ah r,.ah (pre.length:Int)],σ++[aS.map (oP (·.name) pre),aS.map (uz id (slotsOf pre))]))
  (λ_ _=>True) () (λ_=>some (AV.ah 0,σ)) (λr=>some (AV.ah r,σ)) ?_ ?_ trivial (λ_ _ _ _ _ _ _ _=>trivial) ?_ ?_).trans ?_
 ·intro pre x rest u hl _;have hx:=qE hl;have hlt:=uf hl;have hi1:IntKind.i64.wrap ((pre.length:Int)+1)=(pre.length:Int)+1:=cR (by unfold aU;omega);have hi2:IntKind.i64.wrap ((pre.length:Int) -1)=(pre.length:Int) -1:=cR (by unfold aU;omega);have hlt':(pre.length:Int)<(l.length:Int):=by omega
  obtain⟨k1,k2,k3,k4,k5,k6⟩:=Wn.2 x (by rw[hl];simp);have hNx:=Pz _ k1;have hRx:=ahB _ k6;have lD:=nj 7 eX l hx;clear hl hx hlt Wn Xt QE h0 uD k1 k2 k3 k4 k5 k6 hnm hps hN hn hz;simp only[aT,reduceCtorEq,DV,Fw,Fy,FC,FE,FF,FG,FN,FI,Cl,pe,p7,pg,qc,p9,qd,hlt',lD,mh,IF,hi1,hi2,hNx,hRx,List.map_id]
  repeat' ((first|rw[zy]|rw[zx]|rw[zq]|rw[y9]|rw[zo]|rw[zn]);split<;>try simp only[aT,reduceCtorEq,DV,Fw,Fy,FC,FE,FF,FG,FN,FI,Cl,pe,p7,pg,qc,p9,qd,mh,IF,List.map_id,abj,al2,Bool.or_false, *])
  all_goals first|rfl|(simp_all;done)|(simp_all [Zl,abj];done)|(simp only[Zl,ite_false,ite_true,if_false,if_true, *]<;>simp_all)
 ·intro u _;simp only[aT,reduceCtorEq,Int.lt_irrefl]
 ·intro u _;simp only[aT,reduceCtorEq]
 ·intros;simp only[aT,reduceCtorEq]
 ·refine(OO (yf:=BR ps) ?_ ?_ (λn=>some (AV.ah n,σ)) l []).trans ?_
  ·intro pre;rfl
  ·intro pre x rest;rw[BR];simp only[Jl,Ej,Er]
  ·rfl
theorem ahk(l:List cG)(hok:gE KY l)(σ:Heap):RL [sl 3 cI l] σ=some (.ah (zc l),σ):=by
 refine wrap_eq rfl ?_ rfl;show RN (sl 3 cI l) σ=_;unfold RN zc;simp only[aT,reduceCtorEq];by_cases J5:60<l.length
 ·have EE:(60:Int)<l.length:=by omega
  simp only[aT,reduceCtorEq,J5,EE]
 have EE:¬(60:Int)<l.length:=by omega
 simp only[aT,reduceCtorEq,J5,EE]
 refine(qC (S:=Unit) (R:=Int) l (λpre x _=>if su x=0 then(if jS x.name (pre.map (·.name))=true then .out 6 else .go ())else .out (su x))
  (λpre _=>[.ah 0,.ah (pre.length:Int)]) (λpre _=>σ++[aS.map (oP (·.name) pre)])
  (λ_=>(.exit 0,[.ah 0,.ah (l.length:Int)],σ++[aS.map (oP (·.name) l)])) (λpre _ r=>(.ret,[.ah r,.ah (pre.length:Int)],σ++[aS.map (oP (·.name) pre)]))
  (λ_ _=>True) () (λ_=>some (AV.ah 0,σ)) (λr=>some (AV.ah r,σ)) ?_ ?_ trivial (λ_ _ _ _ _ _ _ _=>trivial) ?_ ?_).trans ?_
 ·intro pre x rest u hl _;have hx:=qE hl;have hlt:=uf hl;have hi1:IntKind.i64.wrap ((pre.length:Int)+1)=(pre.length:Int)+1:=cR (by unfold aU;omega);have hi2:IntKind.i64.wrap ((pre.length:Int) -1)=(pre.length:Int) -1:=cR (by unfold aU;omega);have hlt':(pre.length:Int)<(l.length:Int):=by omega
  have hP:=ahl x (hok.2 x (by rw[hl];simp));have lD:=nj 3 cI l hx;clear hl hx hlt hok J5 EE;simp only[aT,reduceCtorEq,pe,p7,pg,qc,p9,qd,hlt',lD,hi1,hP]
  repeat' ((first|rw[zy]|rw[zx]|rw[zq]|rw[y9]|rw[zo]|rw[zn]);split<;>try simp only[aT,reduceCtorEq,pe,p7,pg,qc,p9,qd, *])
  all_goals first|with_reducible rfl|(simp [*];done)|(simp_all;done)|(simp_all;omega)|rfl
 ·intro u _;simp only[aT,reduceCtorEq,Int.lt_irrefl]
 ·intro u _;simp only[aT,reduceCtorEq]
 ·intros;simp only[aT,reduceCtorEq]
 ·refine(OO (yf:=BQ) ?_ ?_ (λn=>some (AV.ah n,σ)) l []).trans ?_
  ·intro pre;rfl
  ·intro pre x rest;rw[BQ];simp only[Jl,Ej,Er]
  ·rfl
theorem ano{α:Type}(p:α→Bool)(l:List α):decide (0≤lH p l)=l.any p:=by
 rcases Bs p l with⟨h1,h2,_⟩|⟨k,x,h1,h2,h3,_⟩
 ·rw[h1,qq];simp only[decide_eq_true_eq,List.any_eq_true];exact⟨λh=>by omega,λ⟨x,hx,hp⟩=>by rw[h2 x hx]at hp;cases hp⟩
 ·rw[h3,qq];simp only[decide_eq_true_eq,List.any_eq_true];exact⟨λ_=>⟨x,dA h1,h2⟩,λ_=>by omega⟩
theorem afJ(dyn:Nat→aq→Heap→aH)(l:List cG)(hl:l.length≤bu)(n:Nat)(caps:aq)(p:cG→Bool)(σ:Heap)(hd:∀x∈l,dyn n ((.agg (cI x):AV)::caps) σ=some (.bool (p x),σ)):NQ dyn [sl 3 cI l,.fn n caps] σ=some (.ah (lH p l),σ):=by
 refine wrap_eq rfl ?_ rfl;show NR dyn (sl 3 cI l) (.fn n caps) σ=_;unfold NR;simp only[aT,reduceCtorEq]
 refine(qC (S:=Unit) (R:=Int) l (λpre x _=>if p x=true then .out (pre.length:Int)else .go ())
  (λpre _=>[.ah 0,.ah (pre.length:Int)]) (λ_ _=>σ) (λ_=>(.exit 0,[.ah 0,.ah (l.length:Int)],σ)) (λpre _ r=>(.ret,[.ah (pre.length:Int),.ah (pre.length:Int)],σ))
  (λ_ _=>True) () (λ_=>some (AV.ah (-1),σ)) (λr=>some (AV.ah r,σ)) ?_ ?_ trivial (λ_ _ _ _ _ _ _ _=>trivial) ?_ ?_).trans ?_
 ·intro pre x rest u hl' _;have hx:=qE hl';have hlt:=uf hl';have hi1:IntKind.i64.wrap ((pre.length:Int)+1)=(pre.length:Int)+1:=cR (by unfold aU;unfold bu at hl;omega);have hlt':(pre.length:Int)<(l.length:Int):=by omega
  have lD:=nj 3 cI l hx;have mY:=hd x (by rw[hl'];simp);simp only[aT,reduceCtorEq,pe,p7,pg,qc,p9,qd,hlt',lD,A.lS,nO,List.nil_append,mY,hi1];cases p x<;>simp [aT,reduceCtorEq]
 ·intro u _;simp only[aT,reduceCtorEq,Int.lt_irrefl]
 ·intro u _;simp only[aT,reduceCtorEq]
 ·intro pre x rest s q hl' _ hb
  have:q=(pre.length:Int):=by
   cases hpx:p x
   ·rw[hpx]at hb;cases hb
   ·rw[hpx]at hb;simp at hb;exact hb.symm
  simp only[aT,reduceCtorEq,this]
 ·rw[D5 p _ _ l [] (by simp)];simp only[List.nil_append];split
  ·rename_i h;rw[h]
  ·rfl
theorem afP(dyn:Nat→aq→Heap→aH)(l:List gX)(hl:l.length≤bu)(n:Nat)(caps:aq)(p:gX→Bool)(σ:Heap)(hd:∀x∈l,dyn n ((.agg (gZ x):AV)::caps) σ=some (.bool (p x),σ)):Kn dyn [sl 8 gZ l,.fn n caps] σ=some (.ah (lH p l),σ):=by
 refine wrap_eq rfl ?_ rfl;show NV dyn (sl 8 gZ l) (.fn n caps) σ=_;unfold NV;simp only[aT,reduceCtorEq]
 refine(qC (S:=Unit) (R:=Int) l (λpre x _=>if p x=true then .out (pre.length:Int)else .go ())
  (λpre _=>[.ah 0,.ah (pre.length:Int)]) (λ_ _=>σ) (λ_=>(.exit 0,[.ah 0,.ah (l.length:Int)],σ)) (λpre _ r=>(.ret,[.ah (pre.length:Int),.ah (pre.length:Int)],σ))
  (λ_ _=>True) () (λ_=>some (AV.ah (-1),σ)) (λr=>some (AV.ah r,σ)) ?_ ?_ trivial (λ_ _ _ _ _ _ _ _=>trivial) ?_ ?_).trans ?_
 ·intro pre x rest u hl' _;have hx:=qE hl';have hlt:=uf hl';have hi1:IntKind.i64.wrap ((pre.length:Int)+1)=(pre.length:Int)+1:=cR (by unfold aU;unfold bu at hl;omega);have hlt':(pre.length:Int)<(l.length:Int):=by omega
  have lD:=nj 8 gZ l hx;have mY:=hd x (by rw[hl'];simp);simp only[aT,reduceCtorEq,aks,akt,aku,akv,akw,akx,aky,akz,aiC,ahH,anJ,amT,Pv,hlt',lD,A.lS,nO,List.nil_append,mY,hi1];cases p x<;>simp [aT,reduceCtorEq]
 ·intro u _;simp only[aT,reduceCtorEq,Int.lt_irrefl]
 ·intro u _;simp only[aT,reduceCtorEq]
 ·intro pre x rest s q hl' _ hb
  have:q=(pre.length:Int):=by
   cases hpx:p x
   ·rw[hpx]at hb;cases hb
   ·rw[hpx]at hb;simp at hb;exact hb.symm
  simp only[aT,reduceCtorEq,this]
 ·rw[D5 p _ _ l [] (by simp)];simp only[List.nil_append];split
  ·rename_i h;rw[h]
  ·rfl
theorem afT(dyn:Nat→aq→Heap→aH)(l:List bE)(hl:l.length≤bu)(n:Nat)(caps:aq)(p:bE→Bool)(σ:Heap)(hd:∀x∈l,dyn n ((.agg (bA x):AV)::caps) σ=some (.bool (p x),σ)):Ko dyn [sl 11 bA l,.fn n caps] σ=some (.ah (lH p l),σ):=by
 refine wrap_eq rfl ?_ rfl;show NW dyn (sl 11 bA l) (.fn n caps) σ=_;unfold NW;simp only[aT,reduceCtorEq]
 refine(qC (S:=Unit) (R:=Int) l (λpre x _=>if p x=true then .out (pre.length:Int)else .go ())
  (λpre _=>[.ah 0,.ah (pre.length:Int)]) (λ_ _=>σ) (λ_=>(.exit 0,[.ah 0,.ah (l.length:Int)],σ)) (λpre _ r=>(.ret,[.ah (pre.length:Int),.ah (pre.length:Int)],σ))
  (λ_ _=>True) () (λ_=>some (AV.ah (-1),σ)) (λr=>some (AV.ah r,σ)) ?_ ?_ trivial (λ_ _ _ _ _ _ _ _=>trivial) ?_ ?_).trans ?_
 ·intro pre x rest u hl' _;have hx:=qE hl';have hlt:=uf hl';have hi1:IntKind.i64.wrap ((pre.length:Int)+1)=(pre.length:Int)+1:=cR (by unfold aU;unfold bu at hl;omega);have hlt':(pre.length:Int)<(l.length:Int):=by omega
  have lD:=nj 11 bA l hx;have mY:=hd x (by rw[hl'];simp);simp only[aT,reduceCtorEq,T8,al9,T9,aa9,Ua,aba,ama,amb,amc,abb,Z8,SI,Lw,PC,Lz,hlt',lD,A.lS,nO,List.nil_append,mY,hi1];cases p x<;>simp [aT,reduceCtorEq]
 ·intro u _;simp only[aT,reduceCtorEq,Int.lt_irrefl]
 ·intro u _;simp only[aT,reduceCtorEq]
 ·intro pre x rest s q hl' _ hb
  have:q=(pre.length:Int):=by
   cases hpx:p x
   ·rw[hpx]at hb;cases hb
   ·rw[hpx]at hb;simp at hb;exact hb.symm
  simp only[aT,reduceCtorEq,this]
 ·rw[D5 p _ _ l [] (by simp)];simp only[List.nil_append];split
  ·rename_i h;rw[h]
  ·rfl
theorem afO(dyn:Nat→aq→Heap→aH)(l:List kL)(hl:l.length≤bu)(n:Nat)(caps:aq)(p:kL→Bool)(σ:Heap)(hd:∀x∈l,dyn n ((.agg (fD x):AV)::caps) σ=some (.bool (p x),σ)):NT dyn [sl 2 fD l,.fn n caps] σ=some (.ah (lH p l),σ):=by
 refine wrap_eq rfl ?_ rfl;show NU dyn (sl 2 fD l) (.fn n caps) σ=_;unfold NU;simp only[aT,reduceCtorEq]
 refine(qC (S:=Unit) (R:=Int) l (λpre x _=>if p x=true then .out (pre.length:Int)else .go ())
  (λpre _=>[.ah 0,.ah (pre.length:Int)]) (λ_ _=>σ) (λ_=>(.exit 0,[.ah 0,.ah (l.length:Int)],σ)) (λpre _ r=>(.ret,[.ah (pre.length:Int),.ah (pre.length:Int)],σ))
  (λ_ _=>True) () (λ_=>some (AV.ah (-1),σ)) (λr=>some (AV.ah r,σ)) ?_ ?_ trivial (λ_ _ _ _ _ _ _ _=>trivial) ?_ ?_).trans ?_
 ·intro pre x rest u hl' _;have hx:=qE hl';have hlt:=uf hl';have hi1:IntKind.i64.wrap ((pre.length:Int)+1)=(pre.length:Int)+1:=cR (by unfold aU;unfold bu at hl;omega);have hlt':(pre.length:Int)<(l.length:Int):=by omega
  have lD:=nj 2 fD l hx;have mY:=hd x (by rw[hl'];simp);simp only[aT,reduceCtorEq,akr,TF,anI,amS,Pu,hlt',lD,A.lS,nO,List.nil_append,mY,hi1];cases p x<;>simp [aT,reduceCtorEq]
 ·intro u _;simp only[aT,reduceCtorEq,Int.lt_irrefl]
 ·intro u _;simp only[aT,reduceCtorEq]
 ·intro pre x rest s q hl' _ hb
  have:q=(pre.length:Int):=by
   cases hpx:p x
   ·rw[hpx]at hb;cases hb
   ·rw[hpx]at hb;simp at hb;exact hb.symm
  simp only[aT,reduceCtorEq,this]
 ·rw[D5 p _ _ l [] (by simp)];simp only[List.nil_append];split
  ·rename_i h;rw[h]
  ·rfl
theorem afF(dyn:Nat→aq→Heap→aH)(l:List nY)(hl:l.length≤bu)(n:Nat)(caps:aq)(p:nY→Bool)(σ:Heap)(hd:∀x∈l,dyn n ((.agg (dI x):AV)::caps) σ=some (.bool (p x),σ)):NO dyn [sl 3 dI l,.fn n caps] σ=some (.ah (lH p l),σ):=by
 refine wrap_eq rfl ?_ rfl;show NP dyn (sl 3 dI l) (.fn n caps) σ=_;unfold NP;simp only[aT,reduceCtorEq]
 refine(qC (S:=Unit) (R:=Int) l (λpre x _=>if p x=true then .out (pre.length:Int)else .go ())
  (λpre _=>[.ah 0,.ah (pre.length:Int)]) (λ_ _=>σ) (λ_=>(.exit 0,[.ah 0,.ah (l.length:Int)],σ)) (λpre _ r=>(.ret,[.ah (pre.length:Int),.ah (pre.length:Int)],σ))
  (λ_ _=>True) () (λ_=>some (AV.ah (-1),σ)) (λr=>some (AV.ah r,σ)) ?_ ?_ trivial (λ_ _ _ _ _ _ _ _=>trivial) ?_ ?_).trans ?_
 ·intro pre x rest u hl' _;have hx:=qE hl';have hlt:=uf hl';have hi1:IntKind.i64.wrap ((pre.length:Int)+1)=(pre.length:Int)+1:=cR (by unfold aU;unfold bu at hl;omega);have hlt':(pre.length:Int)<(l.length:Int):=by omega
  have lD:=nj 3 dI l hx;have mY:=hd x (by rw[hl'];simp);simp only[aT,reduceCtorEq,ahD,ahE,ahF,aiD,aim,Zm,hlt',lD,A.lS,nO,List.nil_append,mY,hi1];cases p x<;>simp [aT,reduceCtorEq]
 ·intro u _;simp only[aT,reduceCtorEq,Int.lt_irrefl]
 ·intro u _;simp only[aT,reduceCtorEq]
 ·intro pre x rest s q hl' _ hb
  have:q=(pre.length:Int):=by
   cases hpx:p x
   ·rw[hpx]at hb;cases hb
   ·rw[hpx]at hb;simp at hb;exact hb.symm
  simp only[aT,reduceCtorEq,this]
 ·rw[D5 p _ _ l [] (by simp)];simp only[List.nil_append];split
  ·rename_i h;rw[h]
  ·rfl
theorem afB(dyn:Nat→aq→Heap→aH)(l:List nY)(hl:l.length≤bu)(n:Nat)(caps:aq)(p:nY→Bool)(σ:Heap)(hd:∀x∈l,dyn n ((.agg (dI x):AV)::caps) σ=some (.bool (p x),σ)):NM dyn [sl 3 dI l,.fn n caps] σ=some (.bool (l.any p),σ):=by refine wrap_eq rfl ?_ rfl;show NN dyn (sl 3 dI l) (.fn n caps) σ=_;unfold NN;simp only[aT,reduceCtorEq,afF dyn l hl n caps p σ hd];refine congrArg some (congrArg (λb=>(AV.bool b,σ)) ?_);exact ano p l
theorem DW(nm:ByteArray):∀(l:List cG),iZ nm l=match l.find? (λx:cG=>decide (x.name=nm))with|some p=>(p,true)|none=>(⟨⟨#[]⟩,0,[]⟩,false)
 |[]=>rfl
 |p::l=>by
  rw[iZ];by_cases h:p.name=nm
  ·simp [h]
  ·simp [h,DW nm l]
theorem ahI(x:cG)(nm:ByteArray)(σ:Heap):Kr [.agg (cI x),.rp [.str nm]] σ=some (.bool (decide (x.name=nm)),σ):=by refine wrap_eq rfl ?_ rfl;show RV (.agg (cI x)) (.rp [.str nm]) σ=_;unfold RV;simp only[aT,reduceCtorEq,pe,p7,pg,qc,p9,qd];show(some (AV.str nm)).bind _=_;simp only[aT,reduceCtorEq]
theorem nnP(x:fu):A.dr vD (eX x)=eX x:=rfl
theorem adW(p:cG)(b:Bool):A.nn (.t [(.a [.k,.k,(.e 7 vD)]),.k]) (.aL [.agg (cI p),.bool b])=.aL [.agg (cI p),.bool b]:=by show AV.aL [.agg [.str p.name,.ah p.size,A.nn (.e 7 vD) (sl 7 eX p.params)],.bool b]=_;rw[xO nnP];rfl
theorem aae(l:List cG)(hl:l.length≤bu)(nm:ByteArray)(σ:Heap):N6 [sl 3 cI l,.str nm] σ=some (.aL [.agg (cI (iZ nm l).1),.bool (iZ nm l).2],σ):=by
 have key:∃w,Oa (sl 3 cI l) (.str nm) σ=some (w,σ)∧A.nn (.t [(.a [.k,.k,(.e 7 vD)]),.k]) w=.aL [.agg (cI (iZ nm l).1),.bool (iZ nm l).2]:=by
  unfold Oa;simp only[aT,reduceCtorEq];rw[afJ _ l hl 64 [.rp [.str nm]] (λx=>decide (x.name=nm)) σ (λx _=>ahI x nm σ)];simp only[aT,reduceCtorEq];rw[DW];rcases Bs (λx:cG=>decide (x.name=nm)) l with⟨h1,_,h3⟩|⟨k,x,h1,h2,h3,h4,_⟩
  ·refine⟨.aL [.agg [.str ⟨#[]⟩,.ah 0,.az],.bool false],?_,?_⟩
   ·rw[h1];simp only[aT,reduceCtorEq,show((-1:Int)<0)from by decide];rfl
   ·rw[h3];rfl
  ·refine⟨.aL [.agg (cI x),.bool true],?_,?_⟩
   ·rw[h3];simp only[aT,reduceCtorEq,pe,p7,pg,qc,p9,qd,show ¬((k:Int)<0)from by omega,nj 3 cI l h1]
   ·rw[h4];exact adW x true
 obtain⟨w,h1,h2⟩:=key;exact wrap_eq rfl h1 h2
theorem aiW(l:List cG)(hl:l.length≤bu)(nm:ByteArray)(σ:Heap):SP [sl 3 cI l,.str nm] σ=some (.aL [.agg (cI (iZ nm l).1),.bool (iZ nm l).2],σ):=by
 refine wrap_eq (v:=.aL [.agg (match l.find? (λx:cG=>decide (x.name=nm))with|some p=>cI p|none=>[.str ⟨#[]⟩,.ah 0,.az]),.bool (iZ nm l).2]) rfl ?_ ?_
 ·show SY (sl 3 cI l) (.str nm) σ=_;rw[DW];unfold SY;simp only[aT,reduceCtorEq]
  refine(qC (S:=Unit) (R:=cG) l (λpre x _=>if x.name=nm then .out x else .go ())
   (λpre _=>[.lbx [.str ⟨#[]⟩,.ah 0,.az],.bool false,.ah (pre.length:Int)]) (λ_ _=>σ)
   (λ_=>(.exit 0,[.lbx [.str ⟨#[]⟩,.ah 0,.az],.bool false,.ah (l.length:Int)],σ)) (λpre _ r=>(.ret,[.lbx (cI r),.bool true,.ah (pre.length:Int)],σ))
   (λ_ _=>True) () (λ_=>some (AV.aL [.agg [.str ⟨#[]⟩,.ah 0,.az],.bool false],σ)) (λr=>some (AV.aL [.agg (cI r),.bool true],σ)) ?_ ?_ trivial (λ_ _ _ _ _ _ _ _=>trivial) ?_ ?_).trans ?_
  ·intro pre x rest u hl' _;have hx:=qE hl';have hlt:=uf hl';have hi1:IntKind.i64.wrap ((pre.length:Int)+1)=(pre.length:Int)+1:=cR (by unfold aU;unfold bu at hl;omega);have hlt':(pre.length:Int)<(l.length:Int):=by omega
   have lD:=nj 3 cI l hx;clear hl' hx hlt hl;simp only[aT,reduceCtorEq,pe,p7,pg,qc,p9,qd,hlt',lD,hi1]
   repeat' ((first|rw[zy]|rw[zx]|rw[zq]|rw[y9]|rw[zo]|rw[zn]);split<;>try simp only[aT,reduceCtorEq,pe,p7,pg,qc,p9,qd, *])
   all_goals first|with_reducible rfl|(simp [*];done)|(simp_all;done)|(simp_all;omega)|rfl
  ·intro u _;simp only[aT,reduceCtorEq,Int.lt_irrefl]
  ·intro u _;simp only[aT,reduceCtorEq];rfl
  ·intros;simp only[aT,reduceCtorEq,pe,p7,pg,qc,p9,qd]
  ·have key:∀(l pre:List cG),(l7 (λ(_:List cG)(x:cG)(_:Unit)=>if x.name=nm then(Rd.out x:Rd Unit cG)else .go ()) pre l ()).el (λ_=>some (AV.aL [.agg [.str ⟨#[]⟩,.ah 0,.az],.bool false],σ)) (λr=>some (AV.aL [.agg (cI r),.bool true],σ))=some (.aL [.agg (match l.find? (λx:cG=>decide (x.name=nm))with|some p=>cI p|none=>[.str ⟨#[]⟩,.ah 0,.az]),.bool (match l.find? (λx:cG=>decide (x.name=nm))with|some p=>(p,true)|none=>(⟨⟨#[]⟩,0,[]⟩,false)).2],σ):=by
    intro l;induction l with
    |nil=>intro pre;rfl
    |cons x l ih=>
     intro pre;rw[l7];by_cases h:x.name=nm
     ·simp [h,Rd.el]
     ·simp only[aK h,ih];simp [h]
   exact key l []
 ·rw[DW];cases hf:l.find? (λx:cG=>decide (x.name=nm))with
  |none=>rfl
  |some p=>exact adW p true
def marks(f:Nat→Bool):aq:=(List.range 513).map λk=>.bool (f k)
theorem IV(f:Nat→Bool){k:Nat}(h:k<513):(marks f)[k]? =some (.bool (f k)):=by simp [marks,h]
theorem FM(f:Nat→Bool):(marks f).length=513:=by simp [marks]
theorem aaM(f:Nat→Bool){γ:Type}(K1 K2:γ):∀(s a:Nat)(pre:List Nat),(l7 (λ_ k(_:Unit)=>if 512<k∨f k=true then(Rd.out ():Rd Unit Unit)else .go ()) pre (List.range' a s) ()).el (λ_=>K1) (λ_=>K2)=if yT f s a=true then K1 else K2
 |0,a,pre=>by simp [l7,yT,Rd.el]
 |s+1,a,pre=>by
  rw[List.range'_succ,l7,yT];by_cases h:512<a∨f a=true
  ·simp only[aO h,Rd.el];simp
  ·simp only[aK h];exact aaM f K1 K2 s (a+1) _
theorem aoP(a s:Int)(h:aU (a+s))(h':aU (a+s-1))(σ:Heap):Im [.np,.ah a,.ah s] σ=some (.bool (decide (a+s-1≤512)),σ):=by refine wrap_eq rfl ?_ rfl;show Ks .np (.ah a) (.ah s) σ=_;unfold Ks;simp only[aT,reduceCtorEq,show A.eql .p AV.np AV.np=some (.bool true)from rfl,cR h,cR h']
theorem amJ(cs:aq){k:Nat}(h:k<513):A.BJ 513 1 (.rp cs) (.ah (k:Int))=some (.rp (cs.drop k)):=by
 have h1:A.idx 513 (.ah (k:Int))=some k:=by show(if(0:Int)≤(k:Int)∧(k:Int)<((513:Nat):Int)then some (k:Int).toNat else none)=some k;rw[aO ⟨by omega,by omega⟩];rfl
 unfold A.BJ;rw[h1];simp only[aY,Nat.mul_one]
theorem aoR(f:Nat→Bool)(a s:Nat)(hs:a≤1024∧s≤1024)(σ:Heap):Im [.rp (marks f),.ah (a:Int),.ah (s:Int)] σ=some (.bool (yT f s a),σ):=by
 refine wrap_eq rfl ?_ rfl;show Ks (.rp (marks f)) (.ah (a:Int)) (.ah (s:Int)) σ=_;unfold Ks;have hw:IntKind.i64.wrap ((a:Int)+s)=(a:Int)+s:=cR (by unfold aU;omega);simp only[aT,reduceCtorEq,show A.eql .p (AV.rp (marks f)) AV.np=some (.bool false)from rfl,hw]
 refine(qC (S:=Unit) (R:=Unit) (List.range' a s) (λ_ k(_:Unit)=>if 512<k∨f k=true then(Rd.out ():Rd Unit Unit)else .go ())
  (λpre _=>[.bool false,.ah ((a:Int)+(pre.length:Int))]) (λ_ _=>σ) (λ_=>(.exit 0,[.bool false,.ah ((a:Int)+s)],σ)) (λpre _ _=>(.ret,[.bool false,.ah ((a:Int)+(pre.length:Int))],σ))
  (λ_ _=>True) () (λ_=>some (AV.bool true,σ)) (λ_=>some (AV.bool false,σ)) ?_ ?_ trivial (λ_ _ _ _ _ _ _ _=>trivial) ?_ ?_ (hv:=by simp)).trans ?_
 ·intro pre k rest u hl _;have hx:=qE hl;have hlt:=uf hl;rw[List.length_range']at hlt
  obtain rfl:a+pre.length=k:=by have:=(bQ.1 hx).2;simpa [List.getElem_range']using this
  have hlt':(a:Int)+(pre.length:Int)<(a:Int)+s:=by omega
  have hi1:IntKind.i64.wrap ((a:Int)+(pre.length:Int)+1)=(a:Int)+((pre.length:Int)+1):=by rw[cR (by unfold aU;omega)];omega
  have ecast:(a:Int)+(pre.length:Int)=((a+pre.length:Nat):Int):=by omega
  clear hl hx;by_cases h5:512<a+pre.length
  ·have Xu:(512:Int)<(a:Int)+(pre.length:Int):=by omega
   simp only[aT,reduceCtorEq,hlt',h5,Xu]
  have Xu:¬(512:Int)<(a:Int)+(pre.length:Int):=by omega
  have hp:A.ak 0 ((marks f).drop (a+pre.length))=some (.bool (f (a+pre.length))):=by rw[XZ];simp only[A.ak,Nat.add_zero,IV f (show a+pre.length<513 by omega)];rfl
  simp only[aT,reduceCtorEq,hlt',h5,Xu,show A.aW (AV.rp (marks f))=some (.rp (marks f))from rfl];rw[ecast,amJ _ (by omega)];simp only[aT,reduceCtorEq,hp];cases hf:f (a+pre.length)
  ·simp only[aT,reduceCtorEq,←ecast,hi1]
  ·simp only[aT,reduceCtorEq,←ecast]
 ·intro u _;rw[List.length_range'];exact D4 _ _ _
 ·intro u _;simp only[aT,reduceCtorEq]
 ·intros;simp only[aT,reduceCtorEq]
 ·rw[aaM];cases yT f s a<;>rfl
theorem aoQ(f:Nat→Bool)(a s:Nat)(hs:a≤1024∧s≤1024){σ:Heap}{id:Nat}(h:σ[id]? =some (.box (marks f))):Im [.op id 0,.ah (a:Int),.ah (s:Int)] σ=some (.bool (yT f s a),σ):=by
 refine acz (args':=[.rp (marks f),.ah (a:Int),.ah (s:Int)]) rfl ?_ rfl (aoR f a s hs []) rfl
 have e:A.xz σ 0 7 (marks f)=some (marks f):=by
  have key:∀(l:List Nat),A.xz σ 0 7 (l.map λk=>AV.bool (f k))=some (l.map λk=>AV.bool (f k)):=by
   intro l;induction l with
   |nil=>simp [A.xz]
   |cons x l ih=>simp [A.xz,A.bM,ih]
  exact key _
 simp [A.gm,A.bM,h,e]
def wY(b:Nat):List Int→List (AV×AV)
 |[]=>[]
 |v::r=>(.int .i64 v,.op b 0)::wY (b+1) r
def jW(σ:Heap)(vs:List Int)(f:Int→Nat→Bool):Heap:=σ++(aS.map (wY (σ.length+1) vs)::vs.map λv=>aS.box (marks (f v)))
theorem acw(v:Int):∀(vs:List Int)(b:Nat),wY b (vs++[v])=wY b vs++[(.ah v,.op (b+vs.length) 0)]
 |[],b=>rfl
 |w::r,b=>by simp only[nO,wY,acw v r (b+1),List.length_cons];rw[show b+1+r.length=b+(r.length+1) by omega]
theorem Py(v:Int):∀(vs:List Int)(b:Nat),A.find .i (.ah v) (wY b vs)=some (if v∈vs then some (.op (b+vs.idxOf v) 0)else none)
 |[],b=>rfl
 |w::r,b=>by
  simp only[wY,A.find,A.fN,A.pX,if_true,aY];by_cases h:v=w
  ·subst h;simp
  ·have h1:(v==w)=false:=by simpa using h
   have h2:(w==v)=false:=by simpa using λe:w=v=>h e.symm
   simp only[h1,bG,Py v r (b+1),jt,h,false_or,List.idxOf_cons,h2];rw[show b+1+r.idxOf v=b+(r.idxOf v+1) by omega]
theorem adk(v:Int)(w:AV):∀(vs:List Int)(b:Nat),v∉vs→A.upd .i (.ah v) w (wY b vs)=some (wY b vs++[(.ah v,w)])
 |[],b,_=>rfl
 |x::r,b,h=>by
  simp only[jt,not_or]at h;have h1:(v==x)=false:=by simpa using h.1
  simp only[wY,A.upd,A.fN,A.pX,if_true,aY,h1,bG,adk v w r (b+1) h.2,cC,nO]
theorem adn(σ:Heap)(vs:List Int)(f:Int→Nat→Bool):(jW σ vs f).length=σ.length+1+vs.length:=by simp [jW];omega
theorem PU(σ:Heap)(vs:List Int)(f:Int→Nat→Bool):(jW σ vs f)[σ.length]? =some (.map (wY (σ.length+1) vs)):=by simp [jW]
theorem adl(σ:Heap){vs:List Int}(f:Int→Nat→Bool){v:Int}(h:v∈vs):(jW σ vs f)[σ.length+1+vs.idxOf v]? =some (.box (marks (f v))):=by
 unfold jW;rw[jj (by omega),show σ.length+1+vs.idxOf v-σ.length=vs.idxOf v+1 by omega,List.getElem?_cons_succ,qH]
 have:vs[vs.idxOf v]? =some v:=by have hl:=List.idxOf_lt_length_of_mem h;rw[bR hl,List.getElem_idxOf hl]
 rw[this];rfl
theorem apS(σ:Heap){vs:List Int}(hn:vs.Nodup){f f':Int→Nat→Bool}{v:Int}(h:v∈vs)(ho:∀w,w≠v→f' w=f w):(jW σ vs f).set (σ.length+1+vs.idxOf v) (.box (marks (f' v)))=jW σ vs f':=by
 unfold jW;rw[rR _ _ (by omega),show σ.length+1+vs.idxOf v-σ.length=vs.idxOf v+1 by omega,List.set_cons_succ];refine congrArg (λz=>σ++(aS.map (wY (σ.length+1) vs)::z)) ?_;clear σ;induction vs with
 |nil=>cases h
 |cons w r ih=>
  rw[qt]at hn;rw[List.idxOf_cons];by_cases e:w=v
  ·subst e;simp only[beq_self_eq_true,cq,eY,List.set_cons_zero];exact congrArg (aS.box (marks (f' w))::·) (List.map_congr_left λx hx=>by rw[ho x (λe=>hn.1 (e▸hx))])
  ·have e2:(w==v)=false:=by simpa using e
   simp only[e2,bG,eY,List.set_cons_succ];rw[ih hn.2 ((jt.1 h).resolve_left λq=>e q.symm),ho w e]
theorem apR(σ:Heap)(vs:List Int){f:Int→Nat→Bool}{v:Int}(h:∀k,f v k=false):((jW σ vs f)++[aS.box (List.replicate 513 aR)]).set σ.length (.map (wY (σ.length+1) (vs++[v])))=jW σ (vs++[v]) f:=by
 have e:marks (f v)=List.replicate 513 aR:=by rw[show f v=λ_=>false from funext h];refine List.eq_replicate_iff.2 ⟨FM _,λb hb=>?_⟩;obtain⟨k,_,rfl⟩:=ia.1 hb;rfl
 unfold jW;simp only[mm,nO];rw[rR _ _ (aQ _),Nat.sub_self,List.set_cons_zero,List.map_append,eY,e];rfl
theorem al0(g g':Nat→Bool){k:Nat}(hk:k<513)(h1:g' k=true)(h2:∀j,j≠k→g' j=g j):A.au k [AV.bool true] (marks g)=some (marks g'):=by
 unfold A.au;rw[aO (by rw[FM];simp;omega)];refine congrArg some (List.ext_getElem? λj=>?_);simp only[mm,nO,List.nil_append,List.length_cons,List.length_nil];by_cases hj:j<k
 ·rw[jk (by rw[oM,FM];omega),List.getElem?_take_of_lt hj,IV _ (by omega),IV _ (by omega),h2 j (by omega)]
 ·rw[jj (by rw[oM,FM];omega),oM,FM,Nat.min_eq_left (by omega)];by_cases e:j=k
  ·subst e;rw[Nat.sub_self,List.getElem?_cons_zero,IV _ hk,h1]
  ·rw[show j-k=(j-k-1)+1 by omega,List.getElem?_cons_succ,List.getElem?_drop,show k+(0+1)+(j-k-1)=j by omega];by_cases hj2:j<513
   ·rw[IV _ hj2,IV _ hj2,h2 j e]
   ·rw[oL (by rw[FM];omega),oL (by rw[FM];omega)]
theorem Qb{α γ:Type}(K1:Unit→γ)(K2:Unit→γ):∀(l pre:List α),(l7 (λ_(x:α)(_:Unit)=>(Rd.go ():Rd Unit Unit)) pre l ()).el K1 K2=K1 ()
 |[],pre=>rfl
 |x::l,pre=>by rw[l7];exact Qb K1 K2 l _
theorem aak{α S:Type}{body:List α→α→S→Rd S Int}{yf:List α→List α→Int}(h0:∀pre,yf pre []=0)(h:∀pre x rest s,yf pre (x::rest)=(body pre x s).el (λ_=>yf (pre++[x]) rest) (λr=>r)) {γ:Type} (K:Int→γ):
  ∀(l pre:List α)(s:S),(l7 body pre l s).el (λ_=>K 0) K=K (yf pre l)
 |[],pre,s=>by rw[l7,h0];rfl
 |x::l,pre,s=>by
  rw[l7,h pre x l s];cases body pre x s with
  |go s'=>exact aak h0 h K l (pre++[x]) s'
  |out r=>rfl
theorem akk(f:Int→Nat→Bool)(v:Int)(a:Nat):qF f v a 0=f:=by funext w k;unfold qF;rw[aK (by omega)]
theorem abu{γ:Type}(σ:Heap){vs:List Int}(hn:vs.Nodup)(f:Int→Nat→Bool)(u:iG)(a s:Nat)(ha:u.address=a)(hs:a+s≤513)(hm:u.univ∈vs)(K:aq→Heap→Option γ):
  (A.loop (λv11 mR=>
   ((A.lb (aj v11 0)).bind λ_=>some (3)).bind λp13=>
   ((A.lb (aj v11 0)).bind λkP=>A.ak p13 kP).bind λdV=>
   (A.add dV (.ah (s:Int))).bind λdM=>
   (A.lss (aj v11 1) dM).bind λdQ=>
   A.cond dQ (
    ((A.lb (aj v11 0)).bind λ_=>some (2)).bind λp18=>
    ((A.lb (aj v11 0)).bind λiW=>A.ak p18 iW).bind λeC=>
    (A.look .i (.om σ.length) eC AV.np mR).bind λcO=>
    (A.aW cO).bind λdW=>
    (A.BJ 513 1 dW (aj v11 1)).bind λfT=>
    (A.storeAt fT [AV.bool true] mR).bind λjx=>
    (A.add (aj v11 1) (AV.ah 1)).bind λiw=>
    some (AX.normal,[(aj v11 0),iw],jx)) (
    some (AX.exit 0,[(aj v11 0),(aj v11 1)],mR))) [.lbx (dg u),.ah (a:Int)] (jW σ vs f)).bind (λBc=>
 bif decide (Bc.1=AX.exit 0)then K Bc.2.1 Bc.2.2 else none)=K [.lbx (dg u),.ah ((a:Int)+s)] (jW σ vs (qF f u.univ a s)):=by
 have hw:IntKind.i64.wrap ((a:Int)+s)=(a:Int)+s:=cR (by unfold aU;omega)
 refine(qC (S:=Unit) (R:=Unit) (List.range' a s) (λ_ k(_:Unit)=>(Rd.go ():Rd Unit Unit))
  (λpre _=>[.lbx (dg u),.ah ((a:Int)+(pre.length:Int))]) (λpre _=>jW σ vs (qF f u.univ a pre.length)) (λ_=>(.exit 0,[.lbx (dg u),.ah ((a:Int)+s)],jW σ vs (qF f u.univ a s))) (λpre _ _=>(.ret,[],σ))
  (λ_ _=>True) () (λ_=>K [.lbx (dg u),.ah ((a:Int)+s)] (jW σ vs (qF f u.univ a s))) (λ_=>none) ?_ ?_ trivial (λ_ _ _ _ _ _ _ _=>trivial) ?_ ?_ (hv:=by simp) (iu:=by rw[List.length_nil,akk])).trans (Qb _ _ _ _)
 ·intro pre k rest t hl _;have hx:=qE hl;have hlt:=uf hl;rw[List.length_range']at hlt
  obtain rfl:a+pre.length=k:=by have:=(bQ.1 hx).2;simpa [List.getElem_range']using this
  have hlt':(a:Int)+(pre.length:Int)<(a:Int)+s:=by omega
  have hi1:IntKind.i64.wrap ((a:Int)+(pre.length:Int)+1)=(a:Int)+((pre.length:Int)+1):=by rw[cR (by unfold aU;omega)];omega
  have ecast:(a:Int)+(pre.length:Int)=((a+pre.length:Nat):Int):=by omega
  clear hl hx
  have Vv:A.look .i (.om σ.length) (.ah u.univ) AV.np (jW σ vs (qF f u.univ a pre.length))=some (.op (σ.length+1+vs.idxOf u.univ) 0):=by rw[Ec .i rfl (PU σ vs _),Py,aO hm];rfl
  have asV:A.BJ 513 1 (.op (σ.length+1+vs.idxOf u.univ) 0) (.ah ((a+pre.length:Nat):Int))=some (.op (σ.length+1+vs.idxOf u.univ) (a+pre.length)):=by
   have h1:A.idx 513 (.ah ((a+pre.length:Nat):Int))=some (a+pre.length):=by show(if(0:Int)≤((a+pre.length:Nat):Int)∧((a+pre.length:Nat):Int)<((513:Nat):Int)then some ((a+pre.length:Nat):Int).toNat else none)=_;rw[aO ⟨by omega,by omega⟩];rfl
   unfold A.BJ;rw[h1];simp only[aY,Nat.mul_one,Nat.zero_add]
  have hst:A.storeAt (.op (σ.length+1+vs.idxOf u.univ) (a+pre.length)) [.bool true] (jW σ vs (qF f u.univ a pre.length))=some (jW σ vs (qF f u.univ a (pre.length+1))):=by
   simp only[A.storeAt,adl σ _ hm]
   rw[al0 _ (qF f u.univ a (pre.length+1) u.univ) (by omega) (by unfold qF;rw[aO ⟨rfl,by omega,by omega⟩]) (λj hj=>by
    unfold qF;by_cases q:a≤j∧j<a+pre.length
    ·rw[aO ⟨rfl,by omega,by omega⟩,aO ⟨rfl,q.1,q.2⟩]
    ·rw[aK (by omega),aK (by omega)])]
   simp only[cC];rw[apS σ hn hm (λw hw=>by funext j;unfold qF;rw[aK (λq=>hw q.1),aK (λq=>hw q.1)])]
  simp only[aT,reduceCtorEq,rB,rC,rD,rE,rI,rG,rJ,ha,hw,hlt',Vv,show A.aW (.op (σ.length+1+vs.idxOf u.univ) 0)=some (.op (σ.length+1+vs.idxOf u.univ) 0)from rfl];rw[ecast,asV];simp only[aT,reduceCtorEq,hst,←ecast,hi1]
 ·intro t _;rw[List.length_range'];simp only[aT,reduceCtorEq,rB,rC,rD,rE,rI,rG,rJ,ha,hw,Int.lt_irrefl]
 ·intro t _;simp only[aT,reduceCtorEq]
 ·intro pre x rest t r _ _ hb;cases hb
theorem apO(σ:Heap){vs:List Int}(hn:vs.Nodup)(f:Int→Nat→Bool)(u:iG)(a s:Nat)(ha:u.address=a)(hs:a+s≤513)(hf:u.univ∉vs→∀k,f u.univ k=false):
  Od [.om σ.length,.agg (dg u),.ah (s:Int)] (jW σ vs f)=some (.aL [],jW σ (if u.univ∈vs then vs else vs++[u.univ]) (qF f u.univ a s)):=by
 have e:KD (.om σ.length) (.agg (dg u)) (.ah (s:Int)) (jW σ vs f)=some (.aL [],jW σ (if u.univ∈vs then vs else vs++[u.univ]) (qF f u.univ a s)):=by
  unfold KD
  have Vv:A.look .i (.om σ.length) (.ah u.univ) AV.np (jW σ vs f)=some (if u.univ∈vs then .op (σ.length+1+vs.idxOf u.univ) 0 else .np):=by rw[Ec .i rfl (PU σ vs _),Py];by_cases hm:u.univ∈vs<;>simp [hm]
  simp only[aT,reduceCtorEq,rB,rC,rD,rE,rI,rG,rJ,Vv];by_cases hm:u.univ∈vs
  ·simp only[aO hm,show A.eql .p (.op (σ.length+1+vs.idxOf u.univ) 0) AV.np=some (.bool false)from rfl,aT,reduceCtorEq,rB,rC,rD,rE,rI,rG,rJ,ha];exact abu σ hn f u a s ha hs hm λ_ h=>some (AV.aL [],h)
  ·have hup:A.fS .i (.om σ.length) (.ah u.univ) (.op (jW σ vs f).length 0) (jW σ vs f++[aS.box (List.replicate 513 aR)])=some (jW σ (vs++[u.univ]) f):=by rw[Cv .i rfl (es:=wY (σ.length+1) vs) (by rw[jk (by rw[adn];omega)];exact PU σ vs f),adk _ _ _ _ hm];rw[cC,adn,←acw,apR σ vs (hf hm)]
   simp only[aK hm,show A.eql .p AV.np AV.np=some (.bool true)from rfl,aT,reduceCtorEq,rB,rC,rD,rE,rI,rG,rJ,hup,ha];exact abu σ (by rw[List.nodup_append];exact⟨hn,by simp,λx hx y hy e=>hm (by simp at hy;rw[←hy,←e];exact hx)⟩) f u a s ha hs (by simp) λ_ h=>some (AV.aL [],h)
 unfold Od A.wrap;rw[Bool.false_and,bG];show(KD (.om σ.length) (.agg (dg u)) (.ah (s:Int)) (jW σ vs f)).map _=_;rw[e];rfl
theorem ako{α:Type}(f:α→Int){l pre rest:List α}{x:α}(h:l=pre++x::rest)(n:Int):(∃y,0<pre.length∧l[pre.length-1]? =some y∧GH (pre.map f) n=decide (n≤f y))∨(¬0<pre.length∧GH (pre.map f) n=false):=by
 by_cases h0:0<pre.length
 ·obtain⟨y,hy,hy2⟩:=ace h h0;exact .inl ⟨y,h0,hy2,by simp [GH,List.getLast?_map,hy]⟩
 ·obtain rfl:pre=[]:=Am (by omega);exact .inr ⟨h0,rfl⟩
theorem aof(σ:Heap)(vs:List Int)(f:Int→Nat→Bool)(v:Int):A.look .i (.om σ.length) (.ah v) AV.np (jW σ vs f)=some (if v∈vs then .op (σ.length+1+vs.idxOf v) 0 else .np):=by rw[Ec .i rfl (PU σ vs _),Py];by_cases hm:v∈vs<;>simp [hm]
theorem acM(σ:Heap)(vs:List Int)(f:Int→Nat→Bool)(n:Int):A.fin σ (.ah n) (jW σ vs f)=some (.ah n,σ):=UM _ _ _ _
theorem Td(r:gC)(hok:BM r)(σ:Heap):N0 [.agg (kE r)] σ=some (.ah (jT r),σ):=by
 refine wrap_eq rfl ?_ rfl;show R4 (.agg (kE r)) σ=_;obtain⟨Wm,XO⟩:=hok;have MZ:=Wm.1;unfold R4 jT;simp only[aT,reduceCtorEq,xe,xg,xu,xk,xw,ahk _ Wm];by_cases hf:zc r.bg=0;case neg=>simp only[aT,reduceCtorEq,hf]
 by_cases h4:400<r.cW.length
 ·have h4':(400:Int)<r.cW.length:=by omega
  simp only[aT,reduceCtorEq,xe,xg,xu,xk,xw,hf,h4,h4']
 have h4':¬(400:Int)<r.cW.length:=by omega
 simp only[aT,reduceCtorEq,xe,xg,xu,xk,xw,hf,h4,h4'];have adP:=akh hf;generalize Ra:r.cW=l at *
 refine(qC (S:=List Int×(Int→Nat→Bool)) (R:=Int) l (λpre u s=>if bf u.aA 1 9999=false then .out 1
    else if GH (pre.map (·.aA)) u.aA=true then .out 7
    else if(iZ u.gW r.bg).2=false then .out 5
    else if bf u.univ 1 64=false∨bf u.address 1 512=false∨512<sI r.bg u then .out 1
    else if Jk r.bg u pre=true then .out 12 else .go (if u.univ∈s.1 then s.1 else s.1++[u.univ],qF s.2 u.univ u.address.toNat (iZ u.gW r.bg).1.size.toNat))
  (λpre _=>[.lbx (kE r),.ah 0,.ah (pre.length:Int)]) (λpre s=>jW σ s.1 s.2)
  (λs=>(.exit 0,[.lbx (kE r),.ah 0,.ah (l.length:Int)],jW σ s.1 s.2)) (λpre s n=>(.ret,[.lbx (kE r),.ah n,.ah (pre.length:Int)],jW σ s.1 s.2))
  (λpre s=>Lk r.bg pre∧Ei r.bg pre s.2∧s.1.Nodup∧∀v,v∉s.1→∀k,s.2 v k=false) ([],λ_ _=>false) (λ_=>some (AV.ah 0,σ)) (λn=>some (AV.ah n,σ)) ?_ ?_ ⟨(by intro x hx;simp at hx),Ei.nil _,List.nodup_nil,λ_ _ _=>rfl⟩ ?_ ?_ ?_).trans ?_
 ·intro pre u rest s hl hP;have hx:=qE hl;have hlt:=uf hl;have hi1:IntKind.i64.wrap ((pre.length:Int)+1)=(pre.length:Int)+1:=cR (by unfold aU;omega);have hi2:IntKind.i64.wrap ((pre.length:Int) -1)=(pre.length:Int) -1:=cR (by unfold aU;omega);have hlt':(pre.length:Int)<(l.length:Int):=by omega
  have hmp:pre.length≤bu:=by unfold bu;omega
  have lD:=nj 4 dg l hx;have Q2:=aae r.bg MZ u.gW;have ho:=ako (·.aA) hl u.aA;obtain⟨vs,f⟩:=s;obtain⟨MU,MV,J7,J8⟩:=hP;dsimp only at MU MV J7 J8 ⊢;clear XO h4 h4' hl hx;simp only[aT,reduceCtorEq,rB,rC,rD,rE,rI,rG,rJ,xe,xg,xu,xk,xw,Ra,hlt',lD,Q2,pe,p7,pg,qc,p9,qd,mh];cases h1:bf u.aA 1 9999
  ·simp only[aT,reduceCtorEq]
  simp only[aT,reduceCtorEq];rcases ho with⟨y,h0,hy,ho⟩|⟨h0,ho⟩
  case' inl=>
   have uD:(0:Int)<pre.length:=by omega
   have Wi:=OH 4 dg l h0 hy;by_cases hq:u.aA≤y.aA
   ·simp only[aT,reduceCtorEq,rB,rC,rD,rE,rI,rG,rJ,xe,xg,xu,xk,xw,Ra,uD,hi2,Wi,ho,hq]
   simp only[aT,reduceCtorEq,rB,rC,rD,rE,rI,rG,rJ,xe,xg,xu,xk,xw,Ra,uD,hi2,Wi,ho,hq]
  case' inr=>
   have uD:¬(0:Int)<pre.length:=by omega
   simp only[aT,reduceCtorEq,uD,ho]
  all_goals
   try simp only[aT,reduceCtorEq,rB,rC,rD,rE,rI,rG,rJ,xe,xg,xu,xk,xw,Ra,Q2]
   cases hp:(iZ u.gW r.bg).2
   ·simp only[aT,reduceCtorEq,pe,p7,pg,qc,p9,qd]
   have hsz:=adP _ (TG _ _ hp);try simp only[aT,reduceCtorEq,rB,rC,rD,rE,rI,rG,rJ,pe,p7,pg,qc,p9,qd,mh]
   cases hu:bf u.univ 1 64
   ·simp only[aT,reduceCtorEq]
   cases ha:bf u.address 1 512
   ·simp only[aT,reduceCtorEq,rB,rC,rD,rE,rI,rG,rJ,mh,ha]
   have ha':1≤u.address∧u.address≤512:=by simpa [bf]using ha
   have hw1:IntKind.i64.wrap (u.address+(iZ u.gW r.bg).1.size)=u.address+(iZ u.gW r.bg).1.size:=cR (by unfold aU;omega);have XP:IntKind.i64.wrap (u.address+(iZ u.gW r.bg).1.size-1)=sI r.bg u:=cR (by unfold aU;omega);have hlu:sI r.bg u=u.address+(iZ u.gW r.bg).1.size-1:=rfl;by_cases h5:512<sI r.bg u
   ·simp only[aT,reduceCtorEq,rB,rC,rD,rE,rI,rG,rJ,pe,p7,pg,qc,p9,qd,mh,ha,hw1,XP,h5]
   obtain⟨a,XA⟩:∃a:Nat,u.address=a:=⟨u.address.toNat,by omega⟩
   obtain⟨n,hne⟩:∃n:Nat,(iZ u.gW r.bg).1.size=n:=⟨(iZ u.gW r.bg).1.size.toNat,by omega⟩
   have Q7:=akb MV MU u a n XA (by omega) (by omega) (by omega)
   have hfree:Im [if u.univ∈vs then .op (σ.length+1+vs.idxOf u.univ) 0 else .np,.ah (a:Int),.ah (n:Int)] (jW σ vs f)=some (.bool (!Jk r.bg u pre),jW σ vs f):=by
    by_cases hm:u.univ∈vs
    ·rw[aO hm,aoQ (f u.univ) a n (by omega) (adl σ f hm),Q7]
    ·rw[aK hm,aoP a n (by unfold aU;omega) (by unfold aU;omega),←Q7];have e:yT (f u.univ) n a=true:=(TZ _ _ _).2 λk h1 h2=>⟨by omega,J8 _ hm k⟩
     rw[e,show decide ((a:Int)+n-1≤512)=true from ct (by omega)]
   have uG:=apO σ J7 f u a n XA (by omega) (J8 u.univ);simp only[aT,reduceCtorEq,rB,rC,rD,rE,rI,rG,rJ,pe,p7,pg,qc,p9,qd,mh,ha,hw1,XP,h5,aof];rw[XA,hne];simp only[aT,reduceCtorEq,hfree];cases hc:Jk r.bg u pre
   ·simp only[aT,reduceCtorEq,rB,rC,rD,rE,rI,rG,rJ,pe,p7,pg,qc,p9,qd,hne,uG,hi1,Int.toNat_natCast]
   ·simp only[aT,reduceCtorEq]
 ·intro s _;exact D4 _ _ _
 ·intro pre u rest s s' hl hP hb;obtain⟨vs,f⟩:=s;obtain⟨MU,MV,J7,J8⟩:=hP;dsimp only at MU MV J7 J8 hb;split at hb
  ·cases hb
  split at hb
  ·cases hb
  split at hb
  ·cases hb
  rename_i hp;split at hb
  ·cases hb
  rename_i hw;split at hb
  ·cases hb
  injection hb with hb
  subst hb;simp only[not_or,Bool.not_eq_false,bf,jC,decide_eq_true_eq]at hw hp;have hsz:=adP _ (TG _ _ (by simpa using hp));have hlu:sI r.bg u=u.address+(iZ u.gW r.bg).1.size-1:=rfl;refine⟨MU.snoc ⟨hw.2.1.1,by omega,by omega⟩,MV.snoc u u.address.toNat _ (by omega) (by omega),?_,?_⟩
  ·dsimp only;split
   ·exact J7
   ·rename_i hm;rw[List.nodup_append];exact⟨J7,by simp,λx hx y hy e=>hm (by simp at hy;rw[←hy,←e];exact hx)⟩
  ·intro v hv k;dsimp only at hv ⊢
   have h1:v≠u.univ∧v∉vs:=by
    split at hv
    ·rename_i hm;exact⟨λe=>hv (e▸hm),hv⟩
    ·simp only[jP,List.mem_singleton,not_or]at hv;exact⟨hv.2,hv.1⟩
   unfold qF;rw[aK (λq=>h1.1 q.1)];exact J8 v h1.2 k
 ·intro s _;simp only[aT,reduceCtorEq,acM]
 ·intros;simp only[aT,reduceCtorEq,acM]
 ·refine(aak (yf:=JE r.bg) ?_ ?_ (λn=>some (AV.ah n,σ)) l [] _).trans ?_
  ·intro pre;rfl
  ·intro pre x rest s;rw[JE];simp only[Jl,Ej,Er]
  ·rfl
def uT(jl:List cG)(u:iG):List aG:=(iZ u.gW jl).1.params.map λx=>⟨u.aA,x.name⟩
def ql(r:gC):List aG:=r.cW.flatMap (uT r.bg)
theorem YM{p:cG}(h:su p=0):p.params.length≤40:=by
 unfold su at h
 repeat' split at h
 all_goals first|(simp at h;done)|omega
theorem ZV:∀(l pre:List cG),BQ pre l=0→∀p∈l,su p=0
 |[],pre,h,p,hp=>by simp at hp
 |q::rest,pre,h,p,hp=>by
  rw[BQ]at h;by_cases e:su q=0
  ·rw[aO e]at h;by_cases e2:jS q.name (pre.map (·.name))=true
   ·rw[aO e2]at h;simp at h
   ·rw[aK e2]at h;simp only[jt]at hp;rcases hp with rfl|hp
    ·exact e
    ·exact ZV rest _ h p hp
  ·rw[aK e]at h;exact absurd h e
theorem Lj{r:gC}(h:jT r=0):zc r.bg=0:=by
 unfold jT at h;split at h
 ·assumption
 ·rename_i h2;exact absurd h h2
theorem OI{l:List cG}(h:zc l=0):∀p∈l,su p=0:=by
 unfold zc at h;by_cases e:60<l.length
 ·rw[aO e]at h;simp at h
 ·rw[aK e]at h;exact ZV l [] h
theorem aad{r:gC}(h:jT r=0)(nm:ByteArray):(iZ nm r.bg).1.params.length≤40:=by
 rw[DW];cases hf:r.bg.find? (λx:cG=>decide (x.name=nm))with
 |none=>exact jQ _
 |some p=>exact YM (OI (Lj h) p (An hf))
theorem Tc{r:gC}(h:jT r=0):∀(l:List iG),(l.flatMap (uT r.bg)).length≤l.length*40
 |[]=>by simp
 |u::l=>by
  have h1:=aad h u.gW;have h2:=Tc h l;rw[List.flatMap_cons,List.length_append,List.length_cons,Nat.succ_mul];have h3:(uT r.bg u).length=(iZ u.gW r.bg).1.params.length:=by simp [uT]
  omega
theorem aqs(l:List aG)(n:Int):A.nn (.t [(.s 2),.k]) (.aL [if l=[]then .az else sl 2 aX l,.ah n])=.aL [sl 2 aX l,.ah n]:=by show AV.aL [A.nn (.s 2) (if l=[]then .az else sl 2 aX l),.ah n]=_;rw[aqt]
theorem aaj{r:gC}(h:jT r=0):r.cW.length≤400:=by
 unfold jT at h;split at h
 ·split at h
  ·cases h
  ·omega
 ·rename_i h2;exact absurd h h2
theorem UD(r:gC)(hok:BM r)(σ:Heap):Iw [.agg (kE r)] σ=some (.aL [sl 2 aX (if jT r=0 then ql r else[]),.ah (jT r)],σ):=by
 by_cases hf:jT r=0
 ·refine wrap_eq rfl (v:=.aL [if ql r=[]then .az else sl 2 aX (ql r),.ah 0]) ?_ (by rw[aO hf,hf];exact aqs _ _);show KC (.agg (kE r)) σ=_;unfold KC;have hu:=aaj hf;have Wm:=hok.1.2;simp only[aT,reduceCtorEq,xe,xg,xu,xk,xw,Td r hok,hf]
  refine(qC (S:=Unit) (R:=Unit) r.cW (λpre u _=>(Rd.go ():Rd Unit Unit))
   (λpre _=>[.lbx (kE r),ze σ.length 2 (pre.flatMap (uT r.bg)),.ah (pre.length:Int)]) (λpre _=>σ++vu 2 aX (pre.flatMap (uT r.bg)))
   (λ_=>(.exit 0,[.lbx (kE r),ze σ.length 2 (ql r),.ah (r.cW.length:Int)],σ++vu 2 aX (ql r))) (λpre _ _=>(.ret,[],σ))
   (λ_ _=>True) () (λ_=>some (AV.aL [if ql r=[]then .az else sl 2 aX (ql r),.ah 0],σ)) (λ_=>none) ?_ ?_ trivial (λ_ _ _ _ _ _ _ _=>trivial) ?_ ?_ (iu:=by simp [anH])).trans (Qb _ _ _ _)
  ·intro pre u rest s hl _;have hx:=qE hl;have hlt:=uf hl;have hi1:IntKind.i64.wrap ((pre.length:Int)+1)=(pre.length:Int)+1:=cR (by unfold aU;omega);have hlt':(pre.length:Int)<(r.cW.length:Int):=by omega
   have lD:=nj 4 dg r.cW hx;have Q2:=aae r.bg hok.1.1 u.gW;have hps:=aad hf u.gW;have wR:=Tc hf pre;have DA:(pre++[u]).flatMap (uT r.bg)=pre.flatMap (uT r.bg)++uT r.bg u:=by simp
   have au1:pre.length≤399:=by omega
   generalize hK:pre.flatMap (uT r.bg)=K at *
   generalize hq:(iZ u.gW r.bg).1=p at *
   simp only[aT,reduceCtorEq,rB,rC,rD,rE,rI,rG,rJ,xe,xg,xu,xk,xw,hlt',lD,Q2,hq,pe,p7,pg,qc,p9,qd]
   refine(qC (S:=Unit) (R:=Unit) p.params (λpre u _=>(Rd.go ():Rd Unit Unit))
    (λBb _=>[.lbx (kE r),ze σ.length 2 (K++Bb.map λx=>(⟨u.aA,x.name⟩:aG)),.lbx (dg u),.ah (Bb.length:Int)]) (λBb _=>σ++vu 2 aX (K++Bb.map λx=>(⟨u.aA,x.name⟩:aG)))
    (λ_=>(.exit 2,[.lbx (kE r),ze σ.length 2 (K++uT r.bg u),.lbx (dg u),.ah (p.params.length:Int)],σ++vu 2 aX (K++uT r.bg u))) (λpre _ _=>(.ret,[],σ))
    (λ_ _=>True) () (λ_=>some (.normal,[.lbx (kE r),ze σ.length 2 (K++uT r.bg u),.ah ((pre.length:Int)+1)],σ++vu 2 aX (K++uT r.bg u))) (λ_=>none) ?_ ?_ trivial (λ_ _ _ _ _ _ _ _=>trivial) ?_ ?_ (hv:=by simp) (iu:=by simp)).trans ((Qb _ _ _ _).trans ?_)
   ·intro Bb x rest' s hl' _;have gx:=qE hl';have glt:=uf hl';have gi1:IntKind.i64.wrap ((Bb.length:Int)+1)=(Bb.length:Int)+1:=cR (by unfold aU;omega);have asU:(Bb.length:Int)<(p.params.length:Int):=by omega
    have gia:=nj 7 eX p.params gx
    have hap:=akq (most:=140737488355328 / 24) (sz:=2) aX (K++Bb.map λx=>(⟨u.aA,x.name⟩:aG)) ⟨u.aA,x.name⟩ σ (by
     rw[List.length_append,List.length_map]
     omega)
    have atn:(K++(Bb++[x]).map λx=>(⟨u.aA,x.name⟩:aG))=(K++Bb.map λx=>(⟨u.aA,x.name⟩:aG))++[⟨u.aA,x.name⟩]:=by simp
    clear hl gx glt hx hlt wR hl';rw[atn];have hch:AV.sl 2 (gf 2 1 [AV.ah u.aA,AV.str x.name])=.sl 2 [aX ⟨u.aA,x.name⟩]:=rfl;simp only[aT,reduceCtorEq,DV,Fw,Fy,FC,FE,FF,FG,FN,FI,Cl,rB,rC,rD,rE,rI,rG,rJ,asU,gia,gi1];show(A.append 2 _ _ (AV.sl 2 [aX ⟨u.aA,x.name⟩]) _).bind _=_;rw[hap];simp only[aT,reduceCtorEq,gi1]
   ·intro s _;refine(D4 _ _ _).trans ?_;subst hq;rfl
   ·intro s _;simp only[aT,reduceCtorEq,hi1]
   ·intros;rename_i hb;cases hb
   ·rw[DA]
  ·intro s _;exact D4 _ _ _
  ·intro s _;simp only[aT,reduceCtorEq,ana Cu]
  ·intros;rename_i hb;cases hb
 ·refine wrap_eq rfl (v:=.aL [.az,.ah (jT r)]) ?_ (by rw[aK hf];rfl);show KC (.agg (kE r)) σ=_;unfold KC;simp only[aT,reduceCtorEq,xe,xg,xu,xk,xw,Td r hok,hf]
theorem ZB(n:Int)(σ:Heap):Of [.ah n] σ=some (.bool (bf n 0 65535),σ):=by refine wrap_eq rfl ?_ rfl;show SD (.ah n) σ=_;unfold SD;simp only[aT,reduceCtorEq,mh]
def F4(s:ByteArray):Bool:=if s=⟨#[]⟩then true else LI s
theorem amK(s:ByteArray)(hs:kS s)(σ:Heap):SQ [.str s] σ=some (.bool (F4 s),σ):=by
 refine wrap_eq rfl ?_ rfl;show S5 (.str s) σ=_;unfold S5 F4;by_cases h:s=⟨#[]⟩
 ·simp only[aT,reduceCtorEq,h]
 ·simp only[aT,reduceCtorEq,h,abx s hs]
def CI:fu:=⟨⟨#[]⟩,0,0,0,0,false,[]⟩
def Ac(p:cG)(nm:ByteArray):fu×Bool:=(p.params.find? λx=>decide (x.name=nm)).elim (CI,false) λx=>(x,true)
def nr(r:gC)(k:aG):fu×Bool:=(r.cW.find? λu=>decide (u.aA=k.unit)).elim (CI,false) λu=>Ac (iZ u.gW r.bg).1 k.param
theorem aod(r:gC)(hl:r.cW.length≤bu)(n:Int)(σ:Heap):T5 [.agg (kE r),.ah n] σ=some (.ah (lH (λu:iG=>decide (u.aA=n)) r.cW),σ):=by
 refine wrap_eq rfl ?_ rfl;show Ub (.agg (kE r)) (.ah n) σ=_;unfold Ub;simp only[aT,reduceCtorEq,xe,xg,xu,xk,xw];refine(anz r.cW (λu=>decide (u.aA=n)) (λi=>[.ah 0,.ah (i:Int)]) σ (.exit 0,[.ah 0,.ah (r.cW.length:Int)],σ) (λi=>(.ret,[.ah (i:Int),.ah (i:Int)],σ)) (some (AV.ah (-1),σ)) (λi=>some (AV.ah i,σ)) ?_ ?_ ?_ ?_).trans ?_
 ·intro i x hx;obtain⟨g1,g2,g3⟩:=Pj 4 dg hx;have g3:=g3 hl;simp only[aT,reduceCtorEq,rB,rC,rD,rE,rI,rG,rJ,g1,g2,g3]
  repeat' ((first|rw[zy]|rw[zx]|rw[zq]|rw[y9]|rw[zo]|rw[zn]);split<;>try simp only[aT,reduceCtorEq, *])
 ·exact D4 _ _ _
 ·simp only[aT,reduceCtorEq]
 ·intro i;simp only[aT,reduceCtorEq]
 ·split
  ·rename_i h;rw[h]
  ·rfl
theorem amg(p:cG)(hl:p.params.length≤bu)(nm:ByteArray)(σ:Heap):Tz [.agg (cI p),.str nm] σ=some (.aL [.agg (eX (Ac p nm).1),.bool (Ac p nm).2],σ):=by
 have key:∃w,TI (.agg (cI p)) (.str nm) σ=some (w,σ)∧A.nn (.t [(.a vD),.k]) w=.aL [.agg (eX (Ac p nm).1),.bool (Ac p nm).2]:=by
  refine⟨(p.params.find? λx=>decide (x.name=nm)).elim (.aL [.agg [.str ⟨#[]⟩,.ah 0,.ah 0,.ah 0,.ah 0,.bool false,.az],.bool false]) (λx=>.aL [.agg (eX x),.bool true]),?_,?_⟩
  ·unfold TI;simp only[aT,reduceCtorEq,pe,p7,pg,qc,p9,qd]
   refine(aaZ p.params (λx=>decide (x.name=nm)) (λi=>[.lbx [.str ⟨#[]⟩,.ah 0,.ah 0,.ah 0,.ah 0,.bool false,.az],.bool false,.ah (i:Int)]) σ (.exit 0,[.lbx [.str ⟨#[]⟩,.ah 0,.ah 0,.ah 0,.ah 0,.bool false,.az],.bool false,.ah (p.params.length:Int)],σ) (λi x=>(.ret,[.lbx (eX x),.bool true,.ah (i:Int)],σ))
    (some (AV.aL [.agg [.str ⟨#[]⟩,.ah 0,.ah 0,.ah 0,.ah 0,.bool false,.az],.bool false],σ)) (λx=>some (AV.aL [.agg (eX x),.bool true],σ)) ?_ ?_ ?_ ?_).trans ?_
   ·intro i x hx;obtain⟨g1,g2,g3⟩:=Pj 7 eX hx;have g3:=g3 hl;simp only[aT,reduceCtorEq,DV,Fw,Fy,FC,FE,FF,FG,FN,FI,Cl,g1,g2,g3]
    repeat' ((first|rw[zy]|rw[zx]|rw[zq]|rw[y9]|rw[zo]|rw[zn]);split<;>try simp only[aT,reduceCtorEq,DV,Fw,Fy,FC,FE,FF,FG,FN,FI,Cl, *])
    all_goals first|with_reducible rfl|(simp [*];done)|(simp_all;done)|(simp_all;omega)|rfl
   ·exact D4 _ _ _
   ·simp only[aT,reduceCtorEq];rfl
   ·intro i x;simp only[aT,reduceCtorEq,DV,Fw,Fy,FC,FE,FF,FG,FN,FI,Cl]
   ·cases p.params.find? λx=>decide (x.name=nm)<;>rfl
  ·unfold Ac;cases p.params.find? λx=>decide (x.name=nm)<;>rfl
 obtain⟨w,h1,h2⟩:=key;exact wrap_eq rfl h1 h2
theorem aml{l:List cG}(h:∀x∈l,KY x)(nm:ByteArray):(iZ nm l).1.params.length≤bu:=by
 rw[DW];cases hf:l.find? (λx:cG=>decide (x.name=nm))with
 |none=>exact jQ _
 |some p=>exact(h p (An hf)).2.2.1
theorem aiV(r:gC)(hok:BM r)(k:aG)(σ:Heap):KG [.agg (kE r),.agg (aX k)] σ=some (.aL [.agg (eX (nr r k).1),.bool (nr r k).2],σ):=by
 have key:∃w,SX (.agg (kE r)) (.agg (aX k)) σ=some (w,σ)∧A.nn (.t [(.a vD),.k]) w=.aL [.agg (eX (nr r k).1),.bool (nr r k).2]:=by
  unfold SX nr;simp only[aT,reduceCtorEq,xe,xg,xu,xk,xw,abc,abd,sx,Cs,FZ,aod r hok.2.1];rcases Bs (λu:iG=>decide (u.aA=k.unit)) r.cW with⟨h1,_,h3⟩|⟨j,x,h1,h2,h3,h4,_⟩
  ·refine⟨.aL [.agg [.str ⟨#[]⟩,.ah 0,.ah 0,.ah 0,.ah 0,.bool false,.az],.bool false],?_,?_⟩
   ·rw[h1];simp only[aT,reduceCtorEq,show((-1:Int)<0)from by decide];rfl
   ·rw[h3];rfl
  ·refine⟨.aL [.agg (eX (Ac (iZ x.gW r.bg).1 k.param).1),.bool (Ac (iZ x.gW r.bg).1 k.param).2],?_,?_⟩
   ·rw[h3];simp only[aT,reduceCtorEq,xe,xg,xu,xk,xw,abc,abd,sx,Cs,FZ,rB,rC,rD,rE,rI,rG,rJ,pe,p7,pg,qc,p9,qd,DV,Fw,Fy,FC,FE,FF,FG,FN,FI,Cl,show ¬((j:Int)<0)from by omega,nj 4 dg r.cW h1,aiW _ hok.1.1,amg _ (aml hok.1.2 x.gW)]
   ·rw[h4];rfl
 obtain⟨w,h1,h2⟩:=key;exact wrap_eq rfl h1 h2
section
set_option maxRecDepth 100000
noncomputable def Tb (a0:Int):Option Bool:=some (bf a0 0 36000000)
theorem IA{a0:Int}{σ:Heap}{r:Bool}(h:Tb a0=some r):DR [(AV.ah a0)] σ=some ((AV.bool r),σ):=by refine Bz (f:=SZ) (y0:=(AV.ah a0)) (enc:=λr:Bool=>(AV.bool r)) (T:=Tb a0) rfl rfl ?_ r h;unfold SZ Tb;refine aB _ (mh a0 0 36000000 σ) ?_;exact gI _ (cg _ _) ⟨rfl,rfl⟩
noncomputable def Iy (a0:aG) (a1:aG):Option Int:=
 if ¬(a0.unit=a1.unit)then
  if a0.unit<a1.unit then
   some (-1)
  else
  some 1
 else
 some (Lib.compareBytes a0.param.data.toList a1.param.data.toList)
theorem ah0{a0:aG}{a1:aG}{σ:Heap}{r:Int}(h:Iy a0 a1=some r):Oj [(AV.agg (aX a0)),(AV.agg (aX a1))] σ=some ((AV.ah r),σ):=by
 refine zV (f:=SJ) (y0:=(AV.agg (aX a0))) (y1:=(AV.agg (aX a1))) (enc:=λr:Int=>(AV.ah r)) (T:=Iy a0 a1) rfl rfl ?_ r h;unfold SJ Iy;refine aB _ rfl<|aB _ rfl<|aB _ rfl<|aB _ rfl<|aB _ (fW _ _ _) ?_;refine oc (p:=¬(a0.unit=a1.unit)) (λc2=>?_) (λc2=>?_)
 ·refine aB _ rfl<|aB _ rfl<|aB _ rfl ?_;refine oc (p:=a0.unit<a1.unit) (λc1=>?_) (λc1=>?_)
  ·exact gI _ (cg _ _) ⟨rfl,rfl⟩
  exact gI _ (cg _ _) ⟨rfl,rfl⟩
 refine aB _ rfl<|aB _ rfl<|aB _ rfl ?_;exact gI _ (cg _ _) ⟨rfl,rfl⟩
noncomputable def It (a0:(List gX)):Option Int:=
 oa a0 (λ(i8:Nat)e7(s1:Unit)=>(show Option (Lr Unit Unit Int)from
   if(!(bf e7.key.unit 1 9999))=true then
    some (.ret 1)
   else
   (tq (kS e7.key.param) (xC e7.key.param)).bind λr9=>
   if(!r9)=true then
    some (.ret 5)
   else
   if((e7.release&&(decide (¬(e7.value=(⟨0,0⟩:oI)))))||((decide (¬(e7.value.level=0)))&&(decide (¬(e7.value.iV=0)))))=true then
    some (.ret 3)
   else
   if((!(bf e7.value.level 0 65535))||(!(bf e7.value.iV 0 999)))=true then
    some (.ret 1)
   else
   if((!e7.BN)&&((decide (¬(e7.cD=0)))||(decide (¬(e7.time=0)))))=true then
    some (.ret 3)
   else
   if((!((bf e7.cD 0 36000000)))||(!((bf e7.time 0 36000000))))=true then
    some (.ret 1)
   else
   (if decide (0<(i8:Int))=true then zH a0 (IntKind.i64.wrap ((i8:Int) -1))else some default).bind λbT=>
   (if decide (0<(i8:Int))=true then Iy bT.key e7.key else some default).bind λeU=>
   if((decide (0<(i8:Int)))&&(decide (0≤eU)))=true then
    some (.ret 7)
   else
   some (.go ()))) (λs1=>some ()) () (λb2=>
  some 0) (λb2=>
  some b2)
theorem ahb{a0:(List gX)}{σ:Heap}{r:Int}(h:It a0=some r):Se [(sl 8 gZ a0)] σ=some ((AV.ah r),σ):=by
 refine Bz (f:=Sf) (y0:=(sl 8 gZ a0)) (enc:=λr:Int=>(AV.ah r)) (T:=It a0) rfl rfl ?_ r h;unfold Sf It;refine aB _ (iS _ _ _) ?_;refine uX (B:=Unit) (R:=Int) (λ(i8:Nat)(s1:Unit)v w3=>v=[(AV.ah 0),(AV.ah (i8:Int))]∧σ=w3) (λ(b2:Unit)(q:LS)=>∃u2 u7,q=((AX.exit 0),([u2,u7]:aq),σ)) (λ(b2:Int)(q:LS)=>∃u7,q=(AX.ret,([(AV.ah b2),u7]:aq),σ)) ?_ ?_ ⟨rfl,rfl⟩ ?_ ?_
 ·intro GD i8 e7 s1 v w3 vO hI;obtain⟨rfl,rfl⟩:=hI;refine aB _ (lF vO)<|ve<|aB _ (kK vO)<|aB _ rfl<|aB _ rfl<|aB _ (Pv _ _ rfl)<|aB _ rfl<|aB _ (mh e7.key.unit 1 9999 σ)<|aB _ rfl ?_;refine lg (c:=(!(bf e7.key.unit 1 9999))) (λkn=>?_) (λkn=>?_)
  ·exact dJ (jZ (by simp) ⟨_,rfl⟩)
  refine aB _ rfl ?_;refine nS (λr9:Bool=>((AV.bool r9),σ)) (λr9 Rc=>(Aj (e:=λr:Bool=>((AV.bool r),σ)) (λhs=>Pz e7.key.param hs σ)) Rc) (λr9 Rc=>?_);refine aB _ rfl ?_;refine lg (c:=(!r9)) (λou=>?_) (λou=>?_)
  ·exact dJ (jZ (by simp) ⟨_,rfl⟩)
  refine aB _ rfl<|fH (AV.agg (yN e7.value)) (λhg=>rfl)<|fH (AV.agg (yN (⟨0,0⟩:oI))) (λhg=>rfl)<|fH (AV.bool (decide (¬(e7.value=(⟨0,0⟩:oI))))) (λhg=>by(try rw[hg]);exact(anF _ _))<|aB _ (uW _ _)<|fU (AV.ah e7.value.level) (λhg=>rfl)<|fU (AV.bool (decide (¬(e7.value.level=0)))) (λhg=>by(try rw[hg]);exact(fW _ _ _))<|fU (AV.bool (decide (¬(e7.value.level=0)))) (λhg=>by(try rw[hg]);exact rfl)<|Jr (AV.ah e7.value.iV) (λhg=>rfl)<|Jr (AV.bool (decide (¬(e7.value.iV=0)))) (λhg=>by(try rw[hg]);exact(fW _ _ _))<|fU (AV.bool ((decide (¬(e7.value.level=0)))&&(decide (¬(e7.value.iV=0))))) (λhg=>by(try rw[hg]);exact(uW _ _))<|aB _ (sJ _ _) ?_;refine lg (c:=((e7.release&&(decide (¬(e7.value=(⟨0,0⟩:oI)))))||((decide (¬(e7.value.level=0)))&&(decide (¬(e7.value.iV=0)))))) (λnF=>?_) (λnF=>?_)
  ·exact dJ (jZ (by simp) ⟨_,rfl⟩)
  refine aB _ rfl<|aB _ (mh e7.value.level 0 65535 σ)<|aB _ rfl<|fU (AV.ah e7.value.iV) (λhg=>rfl)<|fU (AV.bool (bf e7.value.iV 0 999)) (λhg=>by(try rw[hg]);exact(fM (mh e7.value.iV 0 999 σ)))<|fU (AV.bool (!(bf e7.value.iV 0 999))) (λhg=>by(try rw[hg]);exact rfl)<|aB _ (sJ _ _) ?_;refine lg (c:=((!(bf e7.value.level 0 65535))||(!(bf e7.value.iV 0 999)))) (λmW=>?_) (λmW=>?_)
  ·exact dJ (jZ (by simp) ⟨_,rfl⟩)
  refine aB _ rfl<|aB _ rfl<|fH (AV.ah e7.cD) (λhg=>rfl)<|fH (AV.bool (decide (¬(e7.cD=0)))) (λhg=>by(try rw[hg]);exact(fW _ _ _))<|fH (AV.bool (decide (¬(e7.cD=0)))) (λhg=>by(try rw[hg]);exact rfl)<|ad7 (AV.ah e7.time) (λhg=>rfl)<|ad7 (AV.bool (decide (¬(e7.time=0)))) (λhg=>by(try rw[hg]);exact(fW _ _ _))<|fH (AV.bool ((decide (¬(e7.cD=0)))||(decide (¬(e7.time=0))))) (λhg=>by(try rw[hg]);exact(sJ _ _))<|aB _ (uW _ _) ?_;refine lg (c:=((!e7.BN)&&((decide (¬(e7.cD=0)))||(decide (¬(e7.time=0)))))) (λkP=>?_) (λkP=>?_)
  ·exact dJ (jZ (by simp) ⟨_,rfl⟩)
  refine aB _ rfl<|aB _ (IA (σ:=σ) (r:=(bf e7.cD 0 36000000)) rfl)<|aB _ rfl<|fU (AV.ah e7.time) (λhg=>rfl)<|fU (AV.bool ((bf e7.time 0 36000000))) (λhg=>by(try rw[hg]);exact(fM (IA (σ:=σ) (r:=(bf e7.time 0 36000000)) rfl)))<|fU (AV.bool (!((bf e7.time 0 36000000)))) (λhg=>by(try rw[hg]);exact rfl)<|aB _ (sJ _ _) ?_;refine lg (c:=((!((bf e7.cD 0 36000000)))||(!((bf e7.time 0 36000000))))) (λlI=>?_) (λlI=>?_)
  ·exact dJ (jZ (by simp) ⟨_,rfl⟩)
  refine aB _ rfl<|fH (sl 8 gZ a0) (λhg=>rfl)<|fH (AV.ah (i8:Int)) (λhg=>rfl)<|fH (AV.ah (IntKind.i64.wrap ((i8:Int) -1))) (λhg=>by(try rw[hg]);exact rfl) ?_;refine BG (ω:=gX) (λbT=>(AV.rp (gZ bT))) (λhg bT afl=>by(try rw[hg]);exact Gf afl) (λbT afl=>?_);refine fH (AV.rp (gZ bT)) (λhg=>by(try rw[hg]);exact rfl)<|fH (AV.agg (aX bT.key)) (λhg=>by(try rw[hg]);exact rfl)<|fH (AV.agg (aX e7.key)) (λhg=>rfl) ?_;refine BG (ω:=Int) (λeU=>(AV.ah eU)) (λhg eU Mo=>by(try rw[hg]);exact(fM (ah0 Mo))) (λeU Mo=>?_);refine fH (AV.bool (decide (0≤eU))) (λhg=>by(try rw[hg]);exact rfl)<|aB _ (uW _ _) ?_;refine lg (c:=((decide (0<(i8:Int)))&&(decide (0≤eU)))) (λfE=>?_) (λfE=>?_)
  ·exact dJ (jZ (by simp) ⟨_,rfl⟩)
  refine aB _ (iF vO GD) ?_;exact dJ (uY ⟨rfl,rfl⟩)
 ·intro hl s1 v w3 hI;obtain⟨rfl,rfl⟩:=hI;refine aB _ (lR _)<|u9 ?_;exact dJ ⟨by simp,⟨_,_,rfl⟩⟩
 ·intro hl b2 q hq;obtain⟨u2,u7,rfl⟩:=hq;refine mT rfl ?_;exact gI _ (cg _ _) ⟨rfl,rfl⟩
 ·intro hl b2 q hq;obtain⟨u7,rfl⟩:=hq;refine Ah rfl<|mT rfl ?_;exact gI _ (cg _ _) ⟨rfl,rfl⟩
noncomputable def IQ (a0:(List bE)):Option Int:=
 if 300<(a0.length:Int)then
  some 2
 else
 oa a0 (λ(i8:Nat)e7(s1:Int)=>(show Option (Lr Int Int Int)from
   if(!(bf e7.aA 1 9999999))=true then
    some (.ret 1)
   else
   (if decide (0<(i8:Int))=true then zH a0 (IntKind.i64.wrap ((i8:Int) -1))else some default).bind λx9=>
   if((decide (0<(i8:Int)))&&(decide (e7.aA≤x9.aA)))=true then
    some (.ret 7)
   else
   (if decide (¬(e7.title=(⟨#[]⟩:ByteArray)))=true then tq (kS e7.title) (LI e7.title)else some default).bind λmN=>
   if((decide (¬(e7.title=(⟨#[]⟩:ByteArray))))&&(!mN))=true then
    some (.ret 3)
   else
   if(((((!((bf e7.cD 0 36000000)))||(!((bf e7.up 0 36000000))))||(!((bf e7.down 0 36000000))))||(!((bf e7.other 0 36000000))))||(!(bf e7.eF (-1) 36000000)))=true then
    some (.ret 1)
   else
   if ¬((sA e7.gP)=0)then
    some (.ret (sA e7.gP))
   else
   if 2000<(e7.eB.length:Int)then
    some (.ret 2)
   else
   (It e7.eB).bind λeU=>
   if ¬(eU=0)then
    some (.ret eU)
   else
   some (.go (IntKind.i64.wrap (s1+(e7.eB.length:Int)))))) (λs1=>some s1) 0 (λb2=>
  some (if(decide (10000<b2))=true then 2 else 0)) (λb2=>
  some b2)
theorem Z4{a0:(List bE)}{σ:Heap}{r:Int}(h:IQ a0=some r):KS [(sl 11 bA a0)] σ=some ((AV.ah r),σ):=by
 refine Bz (f:=TJ) (y0:=(sl 11 bA a0)) (enc:=λr:Int=>(AV.ah r)) (T:=IQ a0) (kM (xO (λ_=>rfl) _) rfl) rfl ?_ r h;unfold TJ IQ;refine aB _ (iS _ _ _)<|aB _ rfl ?_;refine oc (p:=300<(a0.length:Int)) (λiW=>?_) (λiW=>?_)
 ·exact gI _ (cg _ _) ⟨rfl,rfl⟩
 refine aB _ (iS _ _ _) ?_;refine uX (B:=Int) (R:=Int) (λ(i8:Nat)(s1:Int)v w3=>v=[(AV.ah 0),(AV.ah s1),(AV.ah (i8:Int))]∧σ=w3) (λ(b2:Int)(q:LS)=>∃u2 Ny,q=((AX.exit 0),([u2,(AV.ah b2),Ny]:aq),σ)) (λ(b2:Int)(q:LS)=>∃u3 Ny,q=(AX.ret,([(AV.ah b2),u3,Ny]:aq),σ)) ?_ ?_ ⟨rfl,rfl⟩ ?_ ?_
 ·intro GD i8 e7 s1 v w3 vO hI;obtain⟨rfl,rfl⟩:=hI;refine aB _ (lF vO)<|ve<|aB _ (kK vO)<|aB _ rfl<|aB _ rfl<|aB _ (Lz _ _ rfl)<|aB _ rfl<|aB _ (mh e7.aA 1 9999999 σ)<|aB _ rfl ?_;refine lg (c:=(!(bf e7.aA 1 9999999))) (λkn=>?_) (λkn=>?_)
  ·exact dJ (jZ (by simp) ⟨_,_,rfl⟩)
  refine aB _ rfl<|fH (AV.ah e7.aA) (λhg=>rfl)<|fH (sl 11 bA a0) (λhg=>rfl)<|fH (AV.ah (i8:Int)) (λhg=>rfl)<|fH (AV.ah (IntKind.i64.wrap ((i8:Int) -1))) (λhg=>by(try rw[hg]);exact rfl) ?_;refine BG (ω:=bE) (λx9=>(AV.rp (bA x9))) (λhg x9 hx9=>by(try rw[hg]);exact Gf hx9) (λx9 hx9=>?_);refine fH (AV.rp (bA x9)) (λhg=>by(try rw[hg]);exact rfl)<|fH (AV.ah x9.aA) (λhg=>by(try rw[hg]);exact rfl)<|fH (AV.bool (decide (e7.aA≤x9.aA))) (λhg=>by(try rw[hg]);exact rfl)<|aB _ (uW _ _) ?_;refine lg (c:=((decide (0<(i8:Int)))&&(decide (e7.aA≤x9.aA)))) (λou=>?_) (λou=>?_)
  ·exact dJ (jZ (by simp) ⟨_,_,rfl⟩)
  refine aB _ rfl<|aB _ (VN _ _)<|fH (AV.str e7.title) (λhg=>rfl) ?_;refine BG (ω:=Bool) (λmN=>(AV.bool mN)) (λhg mN afe=>by(try rw[hg]);exact(fM ((Aj (e:=λr:Bool=>((AV.bool r),σ)) (λhs=>abx e7.title hs σ)) afe))) (λmN afe=>?_);refine fH (AV.bool (!mN)) (λhg=>by(try rw[hg]);exact rfl)<|aB _ (uW _ _) ?_;refine lg (c:=((decide (¬(e7.title=(⟨#[]⟩:ByteArray))))&&(!mN))) (λnF=>?_) (λnF=>?_)
  ·exact dJ (jZ (by simp) ⟨_,_,rfl⟩)
  refine aB _ rfl<|aB _ (IA (σ:=σ) (r:=(bf e7.cD 0 36000000)) rfl)<|aB _ rfl<|fU (AV.ah e7.up) (λhg=>rfl)<|fU (AV.bool ((bf e7.up 0 36000000))) (λhg=>by(try rw[hg]);exact(fM (IA (σ:=σ) (r:=(bf e7.up 0 36000000)) rfl)))<|fU (AV.bool (!((bf e7.up 0 36000000)))) (λhg=>by(try rw[hg]);exact rfl)<|aB _ (sJ _ _)<|fU (AV.ah e7.down) (λhg=>rfl)<|fU (AV.bool ((bf e7.down 0 36000000))) (λhg=>by(try rw[hg]);exact(fM (IA (σ:=σ) (r:=(bf e7.down 0 36000000)) rfl)))<|fU (AV.bool (!((bf e7.down 0 36000000)))) (λhg=>by(try rw[hg]);exact rfl)<|aB _ (sJ _ _)<|fU (AV.ah e7.other) (λhg=>rfl)<|fU (AV.bool ((bf e7.other 0 36000000))) (λhg=>by(try rw[hg]);exact(fM (IA (σ:=σ) (r:=(bf e7.other 0 36000000)) rfl)))<|fU (AV.bool (!((bf e7.other 0 36000000)))) (λhg=>by(try rw[hg]);exact rfl)<|aB _ (sJ _ _)<|fU (AV.ah e7.eF) (λhg=>rfl)<|fU (AV.bool (bf e7.eF (-1) 36000000)) (λhg=>by(try rw[hg]);exact(fM (mh e7.eF (-1) 36000000 σ)))<|fU (AV.bool (!(bf e7.eF (-1) 36000000))) (λhg=>by(try rw[hg]);exact rfl)<|aB _ (sJ _ _) ?_;refine lg (c:=(((((!((bf e7.cD 0 36000000)))||(!((bf e7.up 0 36000000))))||(!((bf e7.down 0 36000000))))||(!((bf e7.other 0 36000000))))||(!(bf e7.eF (-1) 36000000)))) (λmW=>?_) (λmW=>?_)
  ·exact dJ (jZ (by simp) ⟨_,_,rfl⟩)
  refine aB _ rfl<|aB _ (YZ e7.gP σ)<|aB _ (fW _ _ _) ?_;refine oc (p:=¬((sA e7.gP)=0)) (λkP=>?_) (λkP=>?_)
  ·exact dJ (jZ (by simp) ⟨_,_,rfl⟩)
  refine aB (sl 8 gZ e7.eB) rfl<|aB _ (iS _ _ _)<|aB _ rfl ?_;refine oc (p:=2000<(e7.eB.length:Int)) (λlI=>?_) (λlI=>?_)
  ·exact dJ (jZ (by simp) ⟨_,_,rfl⟩)
  refine aB (sl 8 gZ e7.eB) rfl ?_;refine nS (λeU:Int=>((AV.ah eU),σ)) (λeU Mo=>ahb Mo) (λeU Mo=>?_);refine aB _ (fW _ _ _) ?_;refine oc (p:=¬(eU=0)) (λfE=>?_) (λfE=>?_)
  ·exact dJ (jZ (by simp) ⟨_,_,rfl⟩)
  refine aB (sl 8 gZ e7.eB) rfl<|aB _ (iS _ _ _)<|aB _ rfl<|aB _ (iF vO GD) ?_;exact dJ (uY ⟨rfl,rfl⟩)
 ·intro hl s1 v w3 hI;obtain⟨rfl,rfl⟩:=hI;refine aB _ (lR _)<|u9 ?_;exact dJ ⟨by simp,⟨_,_,rfl⟩⟩
 ·intro hl b2 q hq;obtain⟨u2,Ny,rfl⟩:=hq;refine mT rfl<|aB _ rfl<|aB _ (yK (decide (10000<b2)) 2 σ) ?_;exact gI _ (cg _ _) ⟨rfl,rfl⟩
 ·intro hl b2 q hq;obtain⟨u3,Ny,rfl⟩:=hq;refine Ah rfl<|mT rfl ?_;exact gI _ (cg _ _) ⟨rfl,rfl⟩
noncomputable def IJ (a0:gC):Option (List (aG×Bool)):=
 (tq (BM a0) (((if jT a0=0 then ql a0 else[]:List aG),jT a0))).bind λr1=>
 oa r1.1 (λ(yu:Nat)mK(s4:(List (aG×Bool)))=>(show Option (Lr (List (aG×Bool)) (List (aG×Bool)) Unit)from
   some (.go (eH mK true s4)))) (λs4=>some s4) ([]:List (aG×Bool)) (λb5=>
  some b5) (λb5=>
  none)
theorem aje{a0:gC}{σ:Heap}{r:(List (aG×Bool))}(h:IJ a0=some r):Tf [(AV.agg (kE a0))] σ=some ((yg (λx=>(AV.agg (aX x))) (λx=>(AV.bool x)) r),σ):=by
 refine Bz (f:=Ti) (y0:=(AV.agg (kE a0))) (enc:=λr:(List (aG×Bool))=>(yg (λx=>(AV.agg (aX x))) (λx=>(AV.bool x)) r)) (T:=IJ a0) rfl rfl ?_ r h;unfold Ti IJ;refine aB _ rfl<|aB _ rfl ?_;refine nS (λr1:((List aG)×Int)=>((AV.aL [(sl 2 aX r1.1),(AV.ah r1.2)]),σ)) (λr1 l9=>(Aj (e:=λr:((List aG)×Int)=>((AV.aL [(sl 2 aX r.1),(AV.ah r.2)]),σ)) (λhs=>UD a0 hs σ)) l9) (λr1 l9=>?_);refine aB (sl 2 aX r1.1) rfl<|aB _ rfl ?_;have hp2:Hp σ σ []:=Vc σ;have hp3:Hp σ (σ++[aS.map []]) [((AV.om σ.length),(Ct.m (List.map (λp=>((λx=>(AV.agg (aX x))) p.1,(λx=>(AV.bool x)) p.2)) ([]:List (aG×Bool)))))]:=Vw hp2;refine aB _ (iS _ _ _) ?_;refine uX (B:=(List (aG×Bool))) (R:=Unit) (λ(yu:Nat)(s4:(List (aG×Bool)))v w6=>v=[(AV.ah (yu:Int))]∧Hp σ w6 [((AV.om σ.length),(Ct.m (List.map (λp=>((λx=>(AV.agg (aX x))) p.1,(λx=>(AV.bool x)) p.2)) s4)))]) (λ(b5:(List (aG×Bool)))(q:LS)=>∃u16 w7,q=((AX.exit 0),([u16]:aq),w7)∧Hp σ w7 [((AV.om σ.length),(Ct.m (List.map (λp=>((λx=>(AV.agg (aX x))) p.1,(λx=>(AV.bool x)) p.2)) b5)))]) (λ(b5:Unit)(q:LS)=>False) ?_ ?_ ⟨rfl,hp3⟩ ?_ ?_
 ·intro Vu yu mK s4 v w6 GC hI;obtain⟨rfl,zB⟩:=hI;refine aB _ (lF GC)<|ve<|aB _ (kK GC)<|aB _ rfl<|aB _ rfl<|aB _ (FZ _ _ rfl)<|aB _ rfl ?_;obtain⟨w12,e14,afc⟩:=UP (ek:=(.s [0,2])) (eK:=(λx=>(AV.agg (aX x)))) (eV:=(λx=>(AV.bool x))) zB 0 rfl tZ mK true rfl;change Hp σ w12 [((AV.om σ.length),(Ct.m (List.map (λp=>((λx=>(AV.agg (aX x))) p.1,(λx=>(AV.bool x)) p.2)) (eH mK true s4))))]at afc;refine aB w12 e14<|aB _ (iF GC Vu) ?_;exact dJ (uY ⟨rfl,afc⟩)
 ·intro hl s4 v w6 hI;obtain⟨rfl,zB⟩:=hI;refine aB _ (lR _)<|u9 ?_;exact dJ ⟨by simp,⟨_,_,rfl,zB⟩⟩
 ·intro hl b5 q hq;obtain⟨u16,w7,rfl,hp9⟩:=hq;refine mT rfl ?_;exact gI _ (P8 hp9 (adH hp9 (k:=0) rfl (by intro p hp;obtain⟨x,_,rfl⟩:=ia.1 hp;exact⟨(Ab (Cu _)),(Ea _)⟩))) ⟨rfl,rfl⟩
 ·intro hl b5 q hq;exact False.elim hq
noncomputable def Iz (a0:aG) (a1:aG):Option Bool:=
 if ¬(a0.unit=a1.unit)then
  some (decide (a0.unit<a1.unit))
 else
 some (decide ((Lib.compareBytes a0.param.data.toList a1.param.data.toList)<0))
theorem ah2{a0:aG}{a1:aG}{σ:Heap}{r:Bool}(h:Iz a0 a1=some r):SH [(AV.agg (aX a0)),(AV.agg (aX a1))] σ=some ((AV.bool r),σ):=by
 refine zV (f:=SL) (y0:=(AV.agg (aX a0))) (y1:=(AV.agg (aX a1))) (enc:=λr:Bool=>(AV.bool r)) (T:=Iz a0 a1) rfl rfl ?_ r h;unfold SL Iz;refine aB _ rfl<|aB _ rfl<|aB _ rfl<|aB _ rfl<|aB _ (fW _ _ _) ?_;refine oc (p:=¬(a0.unit=a1.unit)) (λc1=>?_) (λc1=>?_)
 ·refine aB _ rfl<|aB _ rfl<|aB _ rfl ?_;exact gI _ (cg _ _) ⟨rfl,rfl⟩
 refine aB _ rfl<|aB _ rfl<|aB _ rfl<|aB _ rfl ?_;exact gI _ (cg _ _) ⟨rfl,rfl⟩
noncomputable def Fi (a0:gC) (a1:(List mj)):Option Int:=
 (tq (BM a0) (jT a0)).bind λr1=>
 (tq (([r1,(if(decide (200<(a1.length:Int)))=true then 2 else 0)]:(List Int)).length≤bu) ((([r1,(if(decide (200<(a1.length:Int)))=true then 2 else 0)]:(List Int)).find? λn=>decide (¬n=0)).getD 0)).bind λr2=>
 if ¬(r2=0)then
  some r2
 else
 (IJ a0).bind λr3=>
 oa a1 (λ(yu:Nat)mK(s4:Unit)=>(show Option (Lr Unit Unit Int)from
   if(!(bf mK.aA 1 999))=true then
    some (.ret 1)
   else
   (if decide (0<(yu:Int))=true then zH a1 (IntKind.i64.wrap ((yu:Int) -1))else some default).bind λdU=>
   if((decide (0<(yu:Int)))&&(decide (mK.aA≤dU.aA)))=true then
    some (.ret 7)
   else
   (tq (kS mK.title) (F4 mK.title)).bind λuJ=>
   if(!uJ)=true then
    some (.ret 3)
   else
   if 2000<(mK.lZ.length:Int)then
    some (.ret 2)
   else
   oa mK.lZ (λ(i21:Nat)Dt(Bj:Unit)=>(show Option (Lr Unit Unit Int)from
     if(!((dh Dt.key r3).getD false))=true then
      some (.ret 8)
     else
     if(!(bf Dt.level 0 65535))=true then
      some (.ret 1)
     else
     (if decide (0<(i21:Int))=true then zH mK.lZ (IntKind.i64.wrap ((i21:Int) -1))else some default).bind λdW=>
     (if decide (0<(i21:Int))=true then Iz dW.key Dt.key else some default).bind λnX=>
     if((decide (0<(i21:Int)))&&(!nX))=true then
      some (.ret 7)
     else
     some (.go ()))) (λBj=>some ()) () (λGX=>
    some (.go ())) (λGX=>
    some (.ret GX)))) (λs4=>some ()) () (λb5=>
  some 0) (λb5=>
  some b5)
theorem Yq{a0:gC}{a1:(List mj)}{σ:Heap}{r:Int}(h:Fi a0 a1=some r):NY [(AV.agg (kE a0)),(sl 3 fq a1)] σ=some ((AV.ah r),σ):=by
 refine zV (f:=RW) (y0:=(AV.agg (kE a0))) (y1:=(sl 3 fq a1)) (enc:=λr:Int=>(AV.ah r)) (T:=Fi a0 a1) rfl rfl ?_ r h;unfold RW Fi;refine aB _ rfl<|aB _ rfl ?_;refine nS (λr1:Int=>((AV.ah r1),σ)) (λr1 l9=>(Aj (e:=λr:Int=>((AV.ah r),σ)) (λhs=>Td a0 hs σ)) l9) (λr1 l9=>?_);refine aB _ (iS _ _ _)<|aB _ rfl<|aB _ (yK (decide (200<(a1.length:Int))) 2 σ)<|aB (sl 1 vq ([r1,(if(decide (200<(a1.length:Int)))=true then 2 else 0)]:(List Int))) rfl ?_;refine nS (λr2:Int=>((AV.ah r2),σ)) (λr2 wS=>(Aj (e:=λr:Int=>((AV.ah r),σ)) (λhs=>FT ([r1,(if(decide (200<(a1.length:Int)))=true then 2 else 0)]:(List Int)) hs σ)) wS) (λr2 wS=>?_);refine aB _ (fW _ _ _) ?_;refine oc (p:=¬(r2=0)) (λzl=>?_) (λzl=>?_)
 ·exact gI _ (cg _ _) ⟨rfl,rfl⟩
 refine aB _ rfl ?_;refine nS (λr3:(List (aG×Bool))=>((yg (λx=>(AV.agg (aX x))) (λx=>(AV.bool x)) r3),σ)) (λr3 M9=>aje M9) (λr3 M9=>?_);refine aB _ (iS _ _ _) ?_;refine uX (B:=Unit) (R:=Int) (λ(yu:Nat)(s4:Unit)v w6=>∃u4,v=[u4,(AV.ah (yu:Int))]∧σ=w6) (λ(b5:Unit)(q:LS)=>∃u4 Nz,q=((AX.exit 0),([u4,Nz]:aq),σ)) (λ(b5:Int)(q:LS)=>∃Nz,q=(AX.ret,([(AV.ah b5),Nz]:aq),σ)) ?_ ?_ ⟨_,rfl,rfl⟩ ?_ ?_
 ·intro Vu yu mK s4 v w6 GC hI;obtain⟨u4,rfl,rfl⟩:=hI;refine aB _ (lF GC)<|ve<|aB _ (kK GC)<|aB _ rfl<|aB _ rfl<|aB _ (aav _ _ rfl)<|aB _ rfl<|aB _ (mh mK.aA 1 999 σ)<|aB _ rfl ?_;refine lg (c:=(!(bf mK.aA 1 999))) (λxZ=>?_) (λxZ=>?_)
  ·exact dJ (jZ (by simp) ⟨_,rfl⟩)
  refine aB _ rfl<|fH (AV.ah mK.aA) (λhg=>rfl)<|fH (sl 3 fq a1) (λhg=>rfl)<|fH (AV.ah (yu:Int)) (λhg=>rfl)<|fH (AV.ah (IntKind.i64.wrap ((yu:Int) -1))) (λhg=>by(try rw[hg]);exact rfl) ?_;refine BG (ω:=mj) (λdU=>(AV.rp (fq dU))) (λhg dU afn=>by(try rw[hg]);exact Gf afn) (λdU afn=>?_);refine fH (AV.rp (fq dU)) (λhg=>by(try rw[hg]);exact rfl)<|fH (AV.ah dU.aA) (λhg=>by(try rw[hg]);exact rfl)<|fH (AV.bool (decide (mK.aA≤dU.aA))) (λhg=>by(try rw[hg]);exact rfl)<|aB _ (uW _ _) ?_;refine lg (c:=((decide (0<(yu:Int)))&&(decide (mK.aA≤dU.aA)))) (λuB=>?_) (λuB=>?_)
  ·exact dJ (jZ (by simp) ⟨_,rfl⟩)
  refine aB _ rfl ?_;refine nS (λuJ:Bool=>((AV.bool uJ),σ)) (λuJ afg=>(Aj (e:=λr:Bool=>((AV.bool r),σ)) (λhs=>amK mK.title hs σ)) afg) (λuJ afg=>?_);refine aB _ rfl ?_;refine lg (c:=(!uJ)) (λqR=>?_) (λqR=>?_)
  ·exact dJ (jZ (by simp) ⟨_,rfl⟩)
  refine aB (sl 3 eo mK.lZ) rfl<|aB _ (iS _ _ _)<|aB _ rfl ?_;refine oc (p:=2000<(mK.lZ.length:Int)) (λmH=>?_) (λmH=>?_)
  ·exact dJ (jZ (by simp) ⟨_,rfl⟩)
  refine aB (sl 3 eo mK.lZ) rfl<|aB _ (iS _ _ _) ?_;refine uX (B:=Unit) (R:=Int) (λ(i21:Nat)(Bj:Unit)v Ye=>∃u4,v=[u4,(AV.lbx (fq mK)),(AV.ah (i21:Int))]∧σ=Ye) (λ(GX:Unit)(q:LS)=>∃u4 u8 NG,q=((AX.exit 3),([u4,u8,NG]:aq),σ)) (λ(GX:Int)(q:LS)=>∃u8 NG,q=(AX.ret,([(AV.ah GX),u8,NG]:aq),σ)) ?_ ?_ ⟨_,rfl,rfl⟩ ?_ ?_
  ·intro ark i21 Dt Bj v Ye We hI;obtain⟨u4,rfl,rfl⟩:=hI;refine aB _ (lF We)<|ve<|aB _ (kK We)<|aB _ rfl<|aB _ rfl<|aB _ (Tq _ _ rfl)<|aB _ rfl<|aB _ (anf (ek:=(.s [0,2])) (eK:=(λx=>(AV.agg (aX x)))) (eV:=(λx=>(AV.bool x))) tZ Dt.key false rfl)<|aB _ rfl ?_;refine lg (c:=(!((dh Dt.key r3).getD false))) (λgK=>?_) (λgK=>?_)
   ·exact dJ (jZ (by simp) ⟨_,_,rfl⟩)
   refine aB _ rfl<|aB _ (ZB Dt.level σ)<|aB _ rfl ?_;refine lg (c:=(!(bf Dt.level 0 65535))) (λjx=>?_) (λjx=>?_)
   ·exact dJ (jZ (by simp) ⟨_,_,rfl⟩)
   refine aB _ rfl<|aB _ rfl<|fH (sl 3 eo mK.lZ) (λhg=>rfl)<|fH (AV.ah (i21:Int)) (λhg=>rfl)<|fH (AV.ah (IntKind.i64.wrap ((i21:Int) -1))) (λhg=>by(try rw[hg]);exact rfl) ?_;refine BG (ω:=nK) (λdW=>(AV.rp (eo dW))) (λhg dW afo=>by(try rw[hg]);exact Gf afo) (λdW afo=>?_);refine fH (AV.rp (eo dW)) (λhg=>by(try rw[hg]);exact rfl)<|fH (AV.agg (aX dW.key)) (λhg=>by(try rw[hg]);exact rfl)<|fH (AV.agg (aX Dt.key)) (λhg=>rfl) ?_;refine BG (ω:=Bool) (λnX=>(AV.bool nX)) (λhg nX afh=>by(try rw[hg]);exact(fM (ah2 afh))) (λnX afh=>?_);refine fH (AV.bool (!nX)) (λhg=>by(try rw[hg]);exact rfl)<|aB _ (uW _ _) ?_;refine lg (c:=((decide (0<(i21:Int)))&&(!nX))) (λiN=>?_) (λiN=>?_)
   ·exact dJ (jZ (by simp) ⟨_,_,rfl⟩)
   refine aB _ (iF We ark) ?_;exact dJ (uY ⟨_,rfl,rfl⟩)
  ·intro hl Bj v Ye hI;obtain⟨u4,rfl,rfl⟩:=hI;refine aB _ (lR _)<|u9 ?_;exact dJ ⟨by simp,⟨_,_,_,rfl⟩⟩
  ·intro hl GX q hq;obtain⟨u4,u8,NG,rfl⟩:=hq;refine mT rfl<|aB _ (iF GC Vu) ?_;exact dJ (uY ⟨_,rfl,rfl⟩)
  ·intro hl GX q hq;obtain⟨u8,NG,rfl⟩:=hq;refine Ah rfl<|mT rfl ?_;exact dJ (jZ (by simp) ⟨_,rfl⟩)
 ·intro hl s4 v w6 hI;obtain⟨u4,rfl,rfl⟩:=hI;refine aB _ (lR _)<|u9 ?_;exact dJ ⟨by simp,⟨_,_,rfl⟩⟩
 ·intro hl b5 q hq;obtain⟨u4,Nz,rfl⟩:=hq;refine mT rfl ?_;exact gI _ (cg _ _) ⟨rfl,rfl⟩
 ·intro hl b5 q hq;obtain⟨Nz,rfl⟩:=hq;refine Ah rfl<|mT rfl ?_;exact gI _ (cg _ _) ⟨rfl,rfl⟩
noncomputable def ID (a0:(List mj)) (a1:aG) (a2:oI):Option (Int×Int):=
 if((decide (¬(a2.level=0)))&&(decide (¬(a2.iV=0))))=true then
  some (0,3)
 else
 if(!(bf a2.level 0 65535))=true then
  some (0,1)
 else
 if a2.iV=0 then
  some (a2.level,0)
 else
 oa a0 (λ(i8:Nat)e7(s1:Unit)=>(show Option (Lr Unit Unit Int)from
   if ¬(e7.aA=a2.iV)then
    some (.go ())
   else
   oa e7.lZ (λ(i16:Nat)QX(s9:Unit)=>(show Option (Lr Unit Unit Int)from
     if QX.key=a1 then
      some (.ret QX.level)
     else
     some (.go ()))) (λs9=>some ()) () (λGV=>
    some (.brk ())) (λGV=>
    some (.ret GV)))) (λs1=>some ()) () (λb2=>
  some (0,8)) (λb2=>
  some (b2,0))
theorem Zf{a0:(List mj)}{a1:aG}{a2:oI}{σ:Heap}{r:(Int×Int)}(h:ID a0 a1 a2=some r):Fv [(sl 3 fq a0),(AV.agg (aX a1)),(AV.agg (yN a2))] σ=some ((AV.aL [(AV.ah r.1),(AV.ah r.2)]),σ):=by
 refine acm (f:=S4) (y0:=(sl 3 fq a0)) (y1:=(AV.agg (aX a1))) (y2:=(AV.agg (yN a2))) (enc:=λr:(Int×Int)=>(AV.aL [(AV.ah r.1),(AV.ah r.2)])) (T:=ID a0 a1 a2) rfl rfl ?_ r h;unfold S4 ID;refine aB _ rfl<|aB _ rfl<|aB _ rfl<|aB _ (fW _ _ _)<|fH (AV.ah a2.iV) (λhg=>rfl)<|fH (AV.bool (decide (¬(a2.iV=0)))) (λhg=>by(try rw[hg]);exact(fW _ _ _))<|aB _ (uW _ _) ?_;refine lg (c:=((decide (¬(a2.level=0)))&&(decide (¬(a2.iV=0))))) (λlJ=>?_) (λlJ=>?_)
 ·exact gI _ (cg _ _) ⟨rfl,rfl⟩
 refine aB _ rfl<|aB _ (ZB a2.level σ)<|aB _ rfl ?_;refine lg (c:=(!(bf a2.level 0 65535))) (λjf=>?_) (λjf=>?_)
 ·exact gI _ (cg _ _) ⟨rfl,rfl⟩
 refine aB _ rfl<|aB _ (jU _ _ _) ?_;refine oc (p:=a2.iV=0) (λiW=>?_) (λiW=>?_)
 ·refine aB _ rfl ?_;exact gI _ (cg _ _) ⟨rfl,rfl⟩
 refine aB _ (iS _ _ _) ?_;refine uX (B:=Unit) (R:=Int) (λ(i8:Nat)(s1:Unit)v w3=>v=[(AV.lbx (aX a1)),(AV.lbx (yN a2)),(AV.ah 0),(AV.ah 0),(AV.ah (i8:Int))]∧σ=w3) (λ(b2:Unit)(q:LS)=>∃u4 u5 u6 u7 NB,q=((AX.exit 0),([u4,u5,u6,u7,NB]:aq),σ)) (λ(b2:Int)(q:LS)=>∃u4 u5 NB,q=(AX.ret,([u4,u5,(AV.ah b2),(AV.ah 0),NB]:aq),σ)) ?_ ?_ ⟨rfl,rfl⟩ ?_ ?_
 ·intro GD i8 e7 s1 v w3 vO hI;obtain⟨rfl,rfl⟩:=hI;refine aB _ (lF vO)<|ve<|aB _ (kK vO)<|aB _ rfl<|aB _ rfl<|aB _ (aav _ _ rfl)<|aB _ rfl<|aB _ rfl<|aB _ rfl<|aB _ (fW _ _ _) ?_;refine oc (p:=¬(e7.aA=a2.iV)) (λkn=>?_) (λkn=>?_)
  ·refine aB _ (iF vO GD) ?_;exact dJ (uY ⟨rfl,rfl⟩)
  refine aB (sl 3 eo e7.lZ) rfl<|aB _ (iS _ _ _) ?_;refine uX (B:=Unit) (R:=Int) (λ(i16:Nat)(s9:Unit)v Yb=>v=[(AV.lbx (aX a1)),(AV.ah 0),(AV.ah 0),(AV.ah (i16:Int))]∧σ=Yb) (λ(GV:Unit)(q:LS)=>∃u4 u6 u7 NC,q=((AX.exit 2),([u4,u6,u7,NC]:aq),σ)) (λ(GV:Int)(q:LS)=>∃u4 NC,q=(AX.ret,([u4,(AV.ah GV),(AV.ah 0),NC]:aq),σ)) ?_ ?_ ⟨rfl,rfl⟩ ?_ ?_
  ·intro ari i16 QX s9 v Yb Wc hI;obtain⟨rfl,rfl⟩:=hI;refine aB _ (lF Wc)<|ve<|aB _ (kK Wc)<|aB _ rfl<|aB _ rfl<|aB _ (Tq _ _ rfl)<|aB _ rfl<|aB _ rfl<|aB _ (adB _ _) ?_;refine oc (p:=QX.key=a1) (λou=>?_) (λou=>?_)
   ·refine aB _ rfl ?_;exact dJ (jZ (by simp) ⟨_,_,rfl⟩)
   refine aB _ (iF Wc ari) ?_;exact dJ (uY ⟨rfl,rfl⟩)
  ·intro hl s9 v Yb hI;obtain⟨rfl,rfl⟩:=hI;refine aB _ (lR _)<|u9 ?_;exact dJ ⟨by simp,⟨_,_,_,_,rfl⟩⟩
  ·intro hl GV q hq;obtain⟨u4,u6,u7,NC,rfl⟩:=hq;refine mT rfl ?_;exact dJ (apD (by simp) ⟨_,_,_,_,_,rfl⟩)
  ·intro hl GV q hq;obtain⟨u4,NC,rfl⟩:=hq;refine Ah rfl<|mT rfl ?_;exact dJ (jZ (by simp) ⟨_,_,_,rfl⟩)
 ·intro hl s1 v w3 hI;obtain⟨rfl,rfl⟩:=hI;refine aB _ (lR _)<|u9 ?_;exact dJ ⟨by simp,⟨_,_,_,_,_,rfl⟩⟩
 ·intro hl b2 q hq;obtain⟨u4,u5,u6,u7,NB,rfl⟩:=hq;refine mT rfl ?_;exact gI _ (cg _ _) ⟨rfl,rfl⟩
 ·intro hl b2 q hq;obtain⟨u4,u5,NB,rfl⟩:=hq;refine Ah rfl<|mT rfl ?_;exact gI _ (cg _ _) ⟨rfl,rfl⟩
noncomputable def Iv (a0:gC) (a1:(List mj)) (a2:(List bE)):Option Int:=
 (Fi a0 a1).bind λr1=>
 (IQ a2).bind λr2=>
 (tq (([r1,r2]:(List Int)).length≤bu) ((([r1,r2]:(List Int)).find? λn=>decide (¬n=0)).getD 0)).bind λr3=>
 if ¬(r3=0)then
  some r3
 else
 (tq (BM a0) (((if jT a0=0 then ql a0 else[]:List aG),jT a0))).bind λr4=>
 oa r4.1 (λ(XT:Nat)QW(s7:(List (aG×Bool)))=>(show Option (Lr (List (aG×Bool)) (List (aG×Bool)) Unit)from
   some (.go (eH QW true s7)))) (λs7=>some s7) ([]:List (aG×Bool)) (λb8=>
  oa a2 (λ(XV:Nat)MN(zG:Unit)=>(show Option (Lr Unit Unit Int)from
    oa MN.eB (λ(i33:Nat)JZ(Rr:Unit)=>(show Option (Lr Unit Unit Int)from
      if(!((dh JZ.key b8).getD false))=true then
       some (.ret 8)
      else
      (ID a1 JZ.key JZ.value).bind λmP=>
      if ¬(mP.2=0)then
       some (.ret mP.2)
      else
      some (.go ()))) (λRr=>some ()) () (λG3=>
     some (.go ())) (λG3=>
     some (.ret G3)))) (λzG=>some ()) () (λGZ=>
   some 0) (λGZ=>
   some GZ)) (λb8=>
  none)
theorem ahm{a0:gC}{a1:(List mj)}{a2:(List bE)}{σ:Heap}{r:Int}(h:Iv a0 a1 a2=some r):Sm [(AV.agg (kE a0)),(sl 3 fq a1),(sl 11 bA a2)] σ=some ((AV.ah r),σ):=by
 refine acm (f:=Sp) (y0:=(AV.agg (kE a0))) (y1:=(sl 3 fq a1)) (y2:=(sl 11 bA a2)) (enc:=λr:Int=>(AV.ah r)) (T:=Iv a0 a1 a2) (kM (uv (kM (xO (λ_=>(kM rfl (kM rfl (kM (xO (λ_=>rfl) _) Jz)))) _) (kM rfl Jz))) (kM (xO (λ_=>rfl) _) (kM (xO (λ_=>rfl) _) rfl))) rfl ?_ r h;unfold Sp Iv;refine aB _ rfl<|aB _ rfl ?_;refine nS (λr1:Int=>((AV.ah r1),σ)) (λr1 l9=>Yq l9) (λr1 l9=>?_);refine nS (λr2:Int=>((AV.ah r2),σ)) (λr2 wS=>Z4 wS) (λr2 wS=>?_);refine aB (sl 1 vq ([r1,r2]:(List Int))) rfl ?_;refine nS (λr3:Int=>((AV.ah r3),σ)) (λr3 M9=>(Aj (e:=λr:Int=>((AV.ah r),σ)) (λhs=>FT ([r1,r2]:(List Int)) hs σ)) M9) (λr3 M9=>?_);refine aB _ (fW _ _ _) ?_;refine oc (p:=¬(r3=0)) (λij=>?_) (λij=>?_)
 ·exact gI _ (cg _ _) ⟨rfl,rfl⟩
 refine aB _ rfl ?_;refine nS (λr4:((List aG)×Int)=>((AV.aL [(sl 2 aX r4.1),(AV.ah r4.2)]),σ)) (λr4 hr4=>(Aj (e:=λr:((List aG)×Int)=>((AV.aL [(sl 2 aX r.1),(AV.ah r.2)]),σ)) (λhs=>UD a0 hs σ)) hr4) (λr4 hr4=>?_);refine aB (sl 2 aX r4.1) rfl<|aB _ rfl ?_;have hp5:Hp σ σ []:=Vc σ;have hp6:Hp σ (σ++[aS.map []]) [((AV.om σ.length),(Ct.m (List.map (λp=>((λx=>(AV.agg (aX x))) p.1,(λx=>(AV.bool x)) p.2)) ([]:List (aG×Bool)))))]:=Vw hp5;refine aB _ (iS _ _ _) ?_;refine uX (B:=(List (aG×Bool))) (R:=Unit) (λ(XT:Nat)(s7:(List (aG×Bool)))v w9=>v=[(AV.ah (XT:Int))]∧Hp σ w9 [((AV.om σ.length),(Ct.m (List.map (λp=>((λx=>(AV.agg (aX x))) p.1,(λx=>(AV.bool x)) p.2)) s7)))]) (λ(b8:(List (aG×Bool)))(q:LS)=>∃u37 Ya,q=((AX.exit 0),([u37]:aq),Ya)∧Hp σ Ya [((AV.om σ.length),(Ct.m (List.map (λp=>((λx=>(AV.agg (aX x))) p.1,(λx=>(AV.bool x)) p.2)) b8)))]) (λ(b8:Unit)(q:LS)=>False) ?_ ?_ ⟨rfl,hp6⟩ ?_ ?_
 ·intro arh XT QW s7 v w9 Wb hI;obtain⟨rfl,Wo⟩:=hI;refine aB _ (lF Wb)<|ve<|aB _ (kK Wb)<|aB _ rfl<|aB _ rfl<|aB _ (FZ _ _ rfl)<|aB _ rfl ?_;obtain⟨w15,mL,QH⟩:=UP (ek:=(.s [0,2])) (eK:=(λx=>(AV.agg (aX x)))) (eV:=(λx=>(AV.bool x))) Wo 0 rfl tZ QW true rfl;change Hp σ w15 [((AV.om σ.length),(Ct.m (List.map (λp=>((λx=>(AV.agg (aX x))) p.1,(λx=>(AV.bool x)) p.2)) (eH QW true s7))))]at QH;refine aB w15 mL<|aB _ (iF Wb arh) ?_;exact dJ (uY ⟨rfl,QH⟩)
 ·intro hl s7 v w9 hI;obtain⟨rfl,Wo⟩:=hI;refine aB _ (lR _)<|u9 ?_;exact dJ ⟨by simp,⟨_,_,rfl,Wo⟩⟩
 ·intro hl b8 q hq;obtain⟨u37,Ya,rfl,ath⟩:=hq;refine mT rfl<|aB _ (iS _ _ _) ?_;refine uX (B:=Unit) (R:=Int) (λ(XV:Nat)(zG:Unit)v Yg=>∃u6,v=[u6,(AV.ah (XV:Int))]∧Hp σ Yg [((AV.om σ.length),(Ct.m (List.map (λp=>((λx=>(AV.agg (aX x))) p.1,(λx=>(AV.bool x)) p.2)) b8)))]) (λ(GZ:Unit)(q:LS)=>∃u6 ND Ic,q=((AX.exit 2),([u6,ND]:aq),Ic)∧Hp σ Ic [((AV.om σ.length),(Ct.m (List.map (λp=>((λx=>(AV.agg (aX x))) p.1,(λx=>(AV.bool x)) p.2)) b8)))]) (λ(GZ:Int)(q:LS)=>∃ND Ic,q=(AX.ret,([(AV.ah GZ),ND]:aq),Ic)∧Hp σ Ic []) ?_ ?_ ⟨_,rfl,ath⟩ ?_ ?_
  ·intro arl XV MN zG v Yg Wg hI;obtain⟨u6,rfl,Wp⟩:=hI;refine aB _ (lF Wg)<|ve<|aB _ (kK Wg)<|aB _ rfl<|aB _ rfl<|aB _ (Lz _ _ rfl)<|aB (sl 8 gZ MN.eB) rfl<|aB _ (iS _ _ _) ?_;refine uX (B:=Unit) (R:=Int) (λ(i33:Nat)(Rr:Unit)v Rw=>∃u6,v=[u6,(AV.ah (i33:Int))]∧Hp σ Rw [((AV.om σ.length),(Ct.m (List.map (λp=>((λx=>(AV.agg (aX x))) p.1,(λx=>(AV.bool x)) p.2)) b8)))]) (λ(G3:Unit)(q:LS)=>∃u6 NF Ie,q=((AX.exit 4),([u6,NF]:aq),Ie)∧Hp σ Ie [((AV.om σ.length),(Ct.m (List.map (λp=>((λx=>(AV.agg (aX x))) p.1,(λx=>(AV.bool x)) p.2)) b8)))]) (λ(G3:Int)(q:LS)=>∃NF Ie,q=(AX.ret,([(AV.ah G3),NF]:aq),Ie)∧Hp σ Ie []) ?_ ?_ ⟨_,rfl,Wp⟩ ?_ ?_
   ·intro arn i33 JZ Rr v Rw Wh hI;obtain⟨u6,rfl,JK⟩:=hI;refine aB _ (lF Wh)<|ve<|aB _ (kK Wh)<|aB _ rfl<|aB _ rfl<|aB _ (Pv _ _ rfl)<|aB _ rfl<|aB _ (anm (ek:=(.s [0,2])) (eK:=(λx=>(AV.agg (aX x)))) (eV:=(λx=>(AV.bool x))) JK 0 rfl tZ JZ.key false rfl)<|aB _ rfl ?_;refine lg (c:=(!((dh JZ.key b8).getD false))) (λjG=>?_) (λjG=>?_)
    ·exact dJ (jZ (by simp) ⟨_,_,rfl,(UQ JK)⟩)
    refine aB _ rfl<|aB _ rfl ?_;refine nS (λmP:(Int×Int)=>((AV.aL [(AV.ah mP.1),(AV.ah mP.2)]),Rw)) (λmP afj=>Zf afj) (λmP afj=>?_);refine aB _ rfl<|aB _ rfl<|aB _ (fW _ _ _) ?_;refine oc (p:=¬(mP.2=0)) (λjF=>?_) (λjF=>?_)
    ·exact dJ (jZ (by simp) ⟨_,_,rfl,(UQ JK)⟩)
    refine aB _ (iF Wh arn) ?_;exact dJ (uY ⟨_,rfl,JK⟩)
   ·intro hl Rr v Rw hI;obtain⟨u6,rfl,JK⟩:=hI;refine aB _ (lR _)<|u9 ?_;exact dJ ⟨by simp,⟨_,_,_,rfl,JK⟩⟩
   ·intro hl G3 q hq;obtain⟨u6,NF,Ie,rfl,Wq⟩:=hq;refine mT rfl<|aB _ (iF Wg arl) ?_;exact dJ (uY ⟨_,rfl,Wq⟩)
   ·intro hl G3 q hq;obtain⟨NF,Ie,rfl,Wq⟩:=hq;refine Ah rfl<|mT rfl ?_;exact dJ (jZ (by simp) ⟨_,_,rfl,(UQ Wq)⟩)
  ·intro hl zG v Yg hI;obtain⟨u6,rfl,Wp⟩:=hI;refine aB _ (lR _)<|u9 ?_;exact dJ ⟨by simp,⟨_,_,_,rfl,Wp⟩⟩
  ·intro hl GZ q hq;obtain⟨u6,ND,Ic,rfl,JJ⟩:=hq;refine mT rfl ?_;exact gI _ (P8 JJ (adG (fA _ _))) ⟨rfl,rfl⟩
  ·intro hl GZ q hq;obtain⟨ND,Ic,rfl,JJ⟩:=hq;refine Ah rfl<|mT rfl ?_;exact gI _ (P8 JJ (adG (fA _ _))) ⟨rfl,rfl⟩
 ·intro hl b8 q hq;exact False.elim hq
end
section
set_option maxRecDepth 100000
noncomputable def Sv (a0:kL) (a1:Int):Option Bool:=some (decide (a0.aA=a1))
theorem aho{a0:kL}{a1:Int}{σ:Heap}{r:Bool}(h:Sv a0 a1=some r):Kz [(AV.agg (fD a0)),(AV.rp [(AV.ah a1)])] σ=some ((AV.bool r),σ):=by refine zV (f:=Ss) (y0:=(AV.agg (fD a0))) (y1:=(AV.rp [(AV.ah a1)])) (enc:=λr:Bool=>(AV.bool r)) (T:=Sv a0 a1) rfl rfl ?_ r h;unfold Ss Sv;refine aB _ rfl<|aB _ rfl<|aB _ rfl<|aB _ (jU _ _ _) ?_;exact gI _ (cg _ _) ⟨rfl,rfl⟩
noncomputable def IK (a0:iT) (a1:Int):Option (kL×Bool):=
 (tq (a0.cV.length≤bu) (lH (λx=>(decide (x.aA=a1))) a0.cV)).bind λr1=>
 if r1<0 then
  some ((⟨0,[]⟩:kL),false)
 else
 (zH a0.cV r1).bind λx2=>
 some (x2,true)
theorem ZA{a0:iT}{a1:Int}{σ:Heap}{r:(kL×Bool)}(h:IK a0 a1=some r):DU [(AV.agg (bO a0)),(AV.ah a1)] σ=some ((AV.aL [(AV.agg (fD r.1)),(AV.bool r.2)]),σ):=by
 refine zV (f:=OF) (y0:=(AV.agg (bO a0))) (y1:=(AV.ah a1)) (enc:=λr:(kL×Bool)=>(AV.aL [(AV.agg (fD r.1)),(AV.bool r.2)])) (T:=IK a0 a1) rfl rfl ?_ r h;unfold OF IK;refine aB _ rfl<|aB _ rfl<|aB (sl 2 fD a0.cV) rfl ?_;refine nS (λr1:Int=>((AV.ah r1),σ)) (λr1 l9=>(Aj (e:=λr:Int=>((AV.ah r),σ)) (λhs=>afO _ a0.cV hs _ _ (λx=>(decide (x.aA=a1))) σ (λx hx=>aho (σ:=σ) (r:=(decide (x.aA=a1))) rfl))) l9) (λr1 l9=>?_);refine aB _ rfl ?_;refine oc (p:=r1<0) (λc3=>?_) (λc3=>?_)
 ·refine aB [(AV.ah 0),AV.az] rfl<|aB [(AV.ah 0),AV.az] rfl<|aB _ rfl ?_;exact gI _ (cg _ _) ⟨(afr (kM (uv (kM rfl (kM (by first|rfl|exact apm _ _) Jz))) (kM rfl Jz))),rfl⟩
 refine aB (sl 2 fD a0.cV) rfl ?_;refine nS (λx2:kL=>(AV.rp (fD x2))) (λx2 hx2=>Gf hx2) (λx2 hx2=>?_);refine aB _ rfl<|aB _ rfl<|aB _ (Pu _ _ rfl)<|aB _ rfl ?_;exact gI _ (cg _ _) ⟨(afr (kM (uv (kM rfl (kM (xO (λ_=>rfl) _) Jz))) (kM rfl Jz))),rfl⟩
noncomputable def Kw (a0:iT):Option Int:=
 (Fi a0.aZ a0.cA).bind λr1=>
 (tq (([r1,(if(decide (30<(a0.cV.length:Int)))=true then 2 else 0)]:(List Int)).length≤bu) ((([r1,(if(decide (30<(a0.cV.length:Int)))=true then 2 else 0)]:(List Int)).find? λn=>decide (¬n=0)).getD 0)).bind λr2=>
 if ¬(r2=0)then
  some r2
 else
 oa a0.cV (λ(yt:Nat)e9(s3:Unit)=>(show Option (Lr Unit Unit Int)from
   if(!(bf e9.aA 1 999))=true then
    some (.ret 1)
   else
   (if decide (0<(yt:Int))=true then zH a0.cV (IntKind.i64.wrap ((yt:Int) -1))else some default).bind λdH=>
   if((decide (0<(yt:Int)))&&(decide (e9.aA≤dH.aA)))=true then
    some (.ret 7)
   else
   (Iv a0.aZ a0.cA e9.bU).bind λjh=>
   if ¬(jh=0)then
    some (.ret jh)
   else
   some (.go ()))) (λs3=>some ()) () (λb4=>
  if 40<(a0.cm.length:Int)then
   some 2
  else
  oa a0.cm (λ(i23:Nat)zu(jJ:Unit)=>(show Option (Lr Unit Unit Int)from
    if(!(bf zu.aA 1 40))=true then
     some (.ret 1)
    else
    (if decide (0<(i23:Int))=true then zH a0.cm (IntKind.i64.wrap ((i23:Int) -1))else some default).bind λx24=>
    if((decide (0<(i23:Int)))&&(decide (zu.aA≤x24.aA)))=true then
     some (.ret 7)
    else
    (IK a0 zu.list).bind λnI=>
    if(!nI.2)=true then
     some (.ret 8)
    else
    if(!(bf zu.ku 0 100))=true then
     some (.ret 1)
    else
    some (.go ()))) (λjJ=>some ()) () (λGY=>
   some 0) (λGY=>
   some GY)) (λb4=>
  some b4)
theorem YA{a0:iT}{σ:Heap}{r:Int}(h:Kw a0=some r):N8 [(AV.agg (bO a0))] σ=some ((AV.ah r),σ):=by
 refine Bz (f:=Sd) (y0:=(AV.agg (bO a0))) (enc:=λr:Int=>(AV.ah r)) (T:=Kw a0) rfl rfl ?_ r h;unfold Sd Kw;refine aB _ rfl<|aB _ rfl<|aB (sl 3 fq a0.cA) rfl ?_;refine nS (λr1:Int=>(AV.ah r1)) (λr1 l9=>(fM (Yq l9))) (λr1 l9=>?_);refine aB (sl 2 fD a0.cV) rfl<|aB _ (iS _ _ _)<|aB _ rfl<|aB _ (fM (yK (decide (30<(a0.cV.length:Int))) 2 σ))<|aB (sl 1 vq ([r1,(if(decide (30<(a0.cV.length:Int)))=true then 2 else 0)]:(List Int))) rfl ?_;refine nS (λr2:Int=>(AV.ah r2)) (λr2 wS=>(fM ((Aj (e:=λr:Int=>((AV.ah r),σ)) (λhs=>FT ([r1,(if(decide (30<(a0.cV.length:Int)))=true then 2 else 0)]:(List Int)) hs σ)) wS))) (λr2 wS=>?_);refine aB _ (fW _ _ _) ?_;refine oc (p:=¬(r2=0)) (λzl=>?_) (λzl=>?_)
 ·exact gI _ (cg _ _) ⟨rfl,rfl⟩
 refine aB (sl 2 fD a0.cV) rfl<|aB _ (iS _ _ _) ?_;refine uX (B:=Unit) (R:=Int) (λ(yt:Nat)(s3:Unit)v w5=>v=[(AV.lbx (bO a0)),(AV.ah 0),(AV.ah (yt:Int))]∧σ=w5) (λ(b4:Unit)(q:LS)=>∃u2 NA,q=((AX.exit 0),([(AV.lbx (bO a0)),u2,NA]:aq),σ)) (λ(b4:Int)(q:LS)=>∃u1 NA,q=(AX.ret,([u1,(AV.ah b4),NA]:aq),σ)) ?_ ?_ ⟨rfl,rfl⟩ ?_ ?_
 ·intro Wl yt e9 s3 v w5 Ho hI;obtain⟨rfl,rfl⟩:=hI;refine aB _ (lF Ho)<|ve<|aB _ (kK Ho)<|aB _ rfl<|aB _ rfl<|aB _ (Pu _ _ rfl)<|aB _ rfl<|aB _ (mh e9.aA 1 999 σ)<|aB _ rfl ?_;refine lg (c:=(!(bf e9.aA 1 999))) (λmW=>?_) (λmW=>?_)
  ·exact dJ (jZ (by simp) ⟨_,_,rfl⟩)
  refine aB _ rfl<|fH (AV.ah e9.aA) (λhg=>rfl)<|aB _ rfl<|fH (sl 2 fD a0.cV) (λhg=>rfl)<|fH (AV.ah (yt:Int)) (λhg=>rfl)<|fH (AV.ah (IntKind.i64.wrap ((yt:Int) -1))) (λhg=>by(try rw[hg]);exact rfl) ?_;refine BG (ω:=kL) (λdH=>(AV.rp (fD dH))) (λhg dH afm=>by(try rw[hg]);exact Gf afm) (λdH afm=>?_);refine fH (AV.rp (fD dH)) (λhg=>by(try rw[hg]);exact rfl)<|fH (AV.ah dH.aA) (λhg=>by(try rw[hg]);exact rfl)<|fH (AV.bool (decide (e9.aA≤dH.aA))) (λhg=>by(try rw[hg]);exact rfl)<|aB _ (uW _ _) ?_;refine lg (c:=((decide (0<(yt:Int)))&&(decide (e9.aA≤dH.aA)))) (λkP=>?_) (λkP=>?_)
  ·exact dJ (jZ (by simp) ⟨_,_,rfl⟩)
  refine aB _ rfl<|aB _ rfl<|aB _ rfl<|aB (sl 3 fq a0.cA) rfl<|aB (sl 11 bA e9.bU) rfl ?_;refine nS (λjh:Int=>((AV.ah jh),σ)) (λjh aff=>ahm aff) (λjh aff=>?_);refine aB _ (fW _ _ _) ?_;refine oc (p:=¬(jh=0)) (λlI=>?_) (λlI=>?_)
  ·exact dJ (jZ (by simp) ⟨_,_,rfl⟩)
  refine aB _ (iF Ho Wl) ?_;exact dJ (uY ⟨rfl,rfl⟩)
 ·intro hl s3 v w5 hI;obtain⟨rfl,rfl⟩:=hI;refine aB _ (lR _)<|u9 ?_;exact dJ ⟨by simp,⟨_,_,rfl⟩⟩
 ·intro hl b4 q hq;obtain⟨u2,NA,rfl⟩:=hq;refine mT rfl<|aB _ rfl<|aB (sl 3 dI a0.cm) rfl<|aB _ (iS _ _ _)<|aB _ rfl ?_;refine oc (p:=40<(a0.cm.length:Int)) (λxZ=>?_) (λxZ=>?_)
  ·exact gI _ (cg _ _) ⟨rfl,rfl⟩
  refine aB _ rfl<|aB (sl 3 dI a0.cm) rfl<|aB _ (iS _ _ _) ?_;refine uX (B:=Unit) (R:=Int) (λ(i23:Nat)(jJ:Unit)v Yf=>∃u2,v=[(AV.lbx (bO a0)),u2,(AV.ah (i23:Int))]∧σ=Yf) (λ(GY:Unit)(q:LS)=>∃u1 u2 NH,q=((AX.exit 2),([u1,u2,NH]:aq),σ)) (λ(GY:Int)(q:LS)=>∃u1 NH,q=(AX.ret,([u1,(AV.ah GY),NH]:aq),σ)) ?_ ?_ ⟨_,rfl,rfl⟩ ?_ ?_
  ·intro hle22 i23 zu jJ v Yf Wf hI;obtain⟨u2,rfl,rfl⟩:=hI;refine aB _ (lF Wf)<|ve<|aB _ (kK Wf)<|aB _ rfl<|aB _ rfl<|aB _ (Zm _ _ rfl)<|aB _ rfl<|aB _ (mh zu.aA 1 40 σ)<|aB _ rfl ?_;refine lg (c:=(!(bf zu.aA 1 40))) (λuB=>?_) (λuB=>?_)
   ·exact dJ (jZ (by simp) ⟨_,_,rfl⟩)
   refine aB _ rfl<|fH (AV.ah zu.aA) (λhg=>rfl)<|aB _ rfl<|fH (sl 3 dI a0.cm) (λhg=>rfl)<|fH (AV.ah (i23:Int)) (λhg=>rfl)<|fH (AV.ah (IntKind.i64.wrap ((i23:Int) -1))) (λhg=>by(try rw[hg]);exact rfl) ?_;refine BG (ω:=nY) (λx24=>(AV.rp (dI x24))) (λhg x24 afp=>by(try rw[hg]);exact Gf afp) (λx24 afp=>?_);refine fH (AV.rp (dI x24)) (λhg=>by(try rw[hg]);exact rfl)<|fH (AV.ah x24.aA) (λhg=>by(try rw[hg]);exact rfl)<|fH (AV.bool (decide (zu.aA≤x24.aA))) (λhg=>by(try rw[hg]);exact rfl)<|aB _ (uW _ _) ?_;refine lg (c:=((decide (0<(i23:Int)))&&(decide (zu.aA≤x24.aA)))) (λqR=>?_) (λqR=>?_)
   ·exact dJ (jZ (by simp) ⟨_,_,rfl⟩)
   refine aB _ rfl<|aB _ rfl ?_;refine nS (λnI:(kL×Bool)=>((AV.aL [(AV.agg (fD nI.1)),(AV.bool nI.2)]),σ)) (λnI afi=>ZA afi) (λnI afi=>?_);refine aB _ rfl<|aB _ rfl<|aB _ rfl<|aB _ (Pu _ _ rfl)<|aB _ rfl ?_;refine lg (c:=(!nI.2)) (λmH=>?_) (λmH=>?_)
   ·exact dJ (jZ (by simp) ⟨_,_,rfl⟩)
   refine aB _ rfl<|aB _ (mh zu.ku 0 100 σ)<|aB _ rfl ?_;refine lg (c:=(!(bf zu.ku 0 100))) (λgK=>?_) (λgK=>?_)
   ·exact dJ (jZ (by simp) ⟨_,_,rfl⟩)
   refine aB _ (iF Wf hle22) ?_;exact dJ (uY ⟨_,rfl,rfl⟩)
  ·intro hl jJ v Yf hI;obtain⟨u2,rfl,rfl⟩:=hI;refine aB _ (lR _)<|u9 ?_;exact dJ ⟨by simp,⟨_,_,_,rfl⟩⟩
  ·intro hl GY q hq;obtain⟨u1,u2,NH,rfl⟩:=hq;refine mT rfl ?_;exact gI _ (cg _ _) ⟨rfl,rfl⟩
  ·intro hl GY q hq;obtain⟨u1,NH,rfl⟩:=hq;refine Ah rfl<|mT rfl ?_;exact gI _ (cg _ _) ⟨rfl,rfl⟩
 ·intro hl b4 q hq;obtain⟨u1,NA,rfl⟩:=hq;refine Ah rfl<|mT rfl ?_;exact gI _ (cg _ _) ⟨rfl,rfl⟩
end
section
section
variable {κ ν : Type} [DecidableEq κ]
theorem TP(k a:κ)(v:ν):∀(l:List (κ×ν)),dh k (eH a v l)=if k=a then some v else dh k l
 |[]=>by simp [eH,dh]
 |(b,w)::l=>by
  rw[eH];by_cases h:a=b
  ·subst h;rw[aO rfl,dh,dh];split<;>rfl
  ·rw[aK h,dh,dh,TP k a v l];by_cases h2:k=b
   ·subst h2;rw[aO rfl,aO rfl,aK (λe=>h e.symm)]
   ·rw[aK h2,aK h2]
theorem Uh(k:κ):∀(l:List κ)(s:List (κ×Bool)),(dh k (l.foldl (λs x=>eH x true s) s)).getD false=(decide (k∈l)||(dh k s).getD false)
 |[],s=>by simp
 |x::l,s=>by
  rw[List.foldl_cons,Uh k l,TP];by_cases h:k=x
  ·simp [h]
  ·simp [h]
end
theorem ajJ{l:List Int}{n:Int}(h:l.Pairwise (·<·))(k:GH l n=false):(l++[n]).Pairwise (·<·):=by
 rw[List.pairwise_append];refine⟨h,by simp,λa ha b hb=>?_⟩;simp at hb;subst hb;unfold GH at k;cases hl:l.getLast? with
 |none=>rw[List.getLast?_eq_none_iff]at hl;subst hl;simp at ha
 |some m=>
  rw[hl]at k;simp at k;obtain⟨ys,rfl⟩:=List.getLast?_eq_some_iff.1 hl;rw[List.pairwise_append]at h;rcases jP.1 ha with ha|ha
  ·have:=h.2.2 a ha m (by simp);omega
  ·simp at ha;omega
theorem Zr{jl:List cG}:∀(rest pre:List iG),JE jl pre rest=0→(pre.map (·.aA)).Pairwise (·<·)→((pre++rest).map (·.aA)).Pairwise (·<·)
 |[],pre,_,h=>by simpa using h
 |u::rest,pre,hc,h=>by
  rw[JE]at hc;split at hc
  ·cases hc
  split at hc
  ·cases hc
  rename_i ho;split at hc
  ·cases hc
  split at hc
  ·cases hc
  split at hc
  ·cases hc
  have:=Zr rest (pre++[u]) hc (by rw[List.map_append];exact ajJ h (by simpa using ho));simpa using this
theorem ZJ{r:gC}(h:jT r=0):(r.cW.map (·.aA)).Pairwise (·<·):=by
 unfold jT at h;split at h
 ·split at h
  ·cases h
  ·simpa using Zr r.cW [] h (by simp)
 ·rename_i h2;exact absurd h h2
theorem akE(p:cG)(nm:ByteArray):(Ac p nm).2=true↔∃x∈p.params,x.name=nm:=by
 unfold Ac;cases h:p.params.find? λx=>decide (x.name=nm)with
 |none=>simp only[Option.elim_none,Bool.false_eq_true,false_iff];rintro⟨x,hx,e⟩;have:=List.find?_eq_none.1 h x hx;simp [e]at this
 |some x=>simp only[Option.elim_some,true_iff];exact⟨x,An h,by simpa using List.find?_some h⟩
theorem amG{l:List iG}(h:(l.map (·.aA)).Pairwise (·<·)){u v:iG}(hu:u∈l)(hv:v∈l)(e:u.aA=v.aA):u=v:=by
 induction l with
 |nil=>simp at hu
 |cons x l ih=>
  rw[eY,List.pairwise_cons]at h;rcases jt.1 hu with Na|Na<;>rcases jt.1 hv with Nb|Nb
  ·rw[Na,Nb]
  ·have:=h.1 v.aA (ia.2 ⟨v,Nb,rfl⟩);rw[←Na]at this;omega
  ·have:=h.1 u.aA (ia.2 ⟨u,Na,rfl⟩);rw[←Nb]at this;omega
  ·exact ih h.2 Na Nb
def EG(r:gC)(k:aG):Bool:=(nr r k).2
theorem abX{r:gC}(h:jT r=0)(k:aG):EG r k=decide (k∈ql r):=by
 rw[qq,decide_eq_true_iff];unfold EG nr ql;rw[List.mem_flatMap];cases hf:r.cW.find? λu=>decide (u.aA=k.unit)with
 |none=>simp only[Option.elim_none,Bool.false_eq_true,false_iff];rintro⟨u,hu,hk⟩;obtain⟨x,_,rfl⟩:=ia.1 hk;have:=List.find?_eq_none.1 hf u hu;simp at this
 |some u=>
  have hu:=An hf;have hn:u.aA=k.unit:=by simpa using List.find?_some hf
  simp only[Option.elim_some,akE];constructor
  ·rintro⟨x,hx,e⟩;exact⟨u,hu,ia.2 ⟨x,hx,by rw[hn,e]⟩⟩
  ·rintro⟨v,hv,hk⟩;obtain⟨x,hx,rfl⟩:=ia.1 hk;obtain rfl:=amG (ZJ h) hu hv hn;exact⟨x,hx,rfl⟩
theorem Us{r:gC}(h:jT r=0):(ql r).length≤16000:=by have h1:=Tc h r.cW;have h2:=aaj h;show(r.cW.flatMap (uT r.bg)).length≤_;omega
theorem anp{α:Type}{p:Prop}[Decidable p](a b:α):(if p then some a else some b)=some (if p then a else b):=by split<;>rfl
theorem TR{α β:Type}{p:Prop}[Decidable p](a b:α)(f:α→Option β):(if p then some a else some b).bind f=f (if p then a else b):=by split<;>rfl
theorem before_eq(a b:aG):Iz a b=some (gQ a b):=by
 unfold Iz gQ;by_cases h:a.unit=b.unit
 ·simp [h,Pw,UJ]
 ·by_cases h2:a.unit<b.unit<;>simp [h,h2]
theorem compare_eq(a b:aG):Iy a b=some (za a b):=by
 unfold Iy za;by_cases h:a.unit=b.unit
 ·simp [h]
 ·by_cases h2:a.unit<b.unit<;>simp [h,h2]
def Qs(has:aG→Bool)(l:List nK)(i:Nat)(x:nK):Int:=
 if(!has x.key)=true then 8
 else if(!(bf x.level 0 65535))=true then 1
 else if(decide (0<(i:Int))&&!gQ (pv l i).key x.key)=true then 7 else 0
def PT(has:aG→Bool)(l:List mj)(i:Nat)(p:mj):Int:=
 if(!(bf p.aA 1 999))=true then 1
 else if(decide (0<(i:Int))&&decide (p.aA≤(pv l i).aA))=true then 7
 else if(!(F4 p.title))=true then 3
 else if 2000<(p.lZ.length:Int)then 2
 else j0 (Qs has p.lZ) p.lZ 0
def uS(r:gC)(l:List mj):Int:=
 if ¬(jT r=0)then jT r else if 200<(l.length:Int)then 2 else j0 (PT (EG r) l) l 0
theorem aiq(c:Bool)(a b:aG):(c&&!(if c=true then gQ a b else(default:Bool)))=(c&&!gQ a b):=by cases c<;>rfl
theorem alP(c:Bool)(a b:aG):(c&&decide (0≤(if c=true then za a b else(default:Int))))=(c&&!gQ a b):=by
 cases c
 ·rfl
 ·simp only[if_true,Bool.true_and];exact aoz a b
theorem ajc(s:ByteArray):(decide (¬(s=(⟨#[]⟩:ByteArray)))&&!(if decide (¬(s=(⟨#[]⟩:ByteArray)))=true then LI s else(default:Bool)))=!F4 s:=by unfold F4;by_cases h:s=⟨#[]⟩<;>simp [h]
theorem YR(r:gC)(l:List mj)(hr:BM r)(hl:gE Co l):Fi r l=some (uS r l):=by
 unfold Fi uS;simp only[yP hr,aY];rw[yP (by show 2≤bu;unfold bu;omega)];simp only[Vs,aY];by_cases h0:jT r=0;case neg=>simp [h0]
 by_cases h1:200<(l.length:Int)
 ·simp [h0,h1]
 have hk:IJ r=some ((ql r).foldl (λs x=>eH x true s) []):=by unfold IJ;have:=Us h0;simp only[yP hr,aY,h0,if_true];rw[OV (λs x=>eH x true s) (λ_ _=>True) (by unfold bu;omega) trivial (λ_ _ _ _ _=>trivial) (λ_ _ _ _ _=>rfl)];rfl
 simp only[h0,h1,not_true_eq_false,if_false,decide_false,Bool.false_eq_true,hk,aY]
 have has:∀k,(dh k ((ql r).foldl (λs x=>eH x true s) [])).getD false=EG r k:=by intro k;rw[Uh,abX h0];simp [dh]
 rw[D3 (f:=PT (EG r) l) hl.1 ?_]
 ·split
  ·rename_i h;rw[h]
  ·rfl
 intro i p hp;have XM:=hl.2 p (dA hp);obtain⟨_,ht,hs⟩:=XM;simp only[Jg hp hl.1,aY,yP ht,has];rw[D3 (f:=Qs (EG r) p.lZ) hs.1 ?_]
 ·unfold PT;repeat first|exact abJ _|exact go_ret|refine Je (by decide) ?_
 intro j x hx;simp only[Jg hx hs.1,aY,before_eq,TR,aiq];unfold Qs;repeat first|exact go_ret|refine Je (by decide) ?_
def zY(l:List mj)(k:aG)(v:oI):Int×Int:=
 if(decide (¬(v.level=0))&&decide (¬(v.iV=0)))=true then(0,3)
 else if(!(bf v.level 0 65535))=true then(0,1)
 else if v.iV=0 then(v.level,0)
 else match l.find? λp=>decide (p.aA=v.iV)with
  |none=>(0,8)
  |some p=>match p.lZ.find? λs=>decide (s.key=k)with|none=>(0,8)|some s=>(s.level,0)
theorem aka{α γ R:Type}{p:α→Bool}{l:List α}{body:Nat→α→Unit→Option (Lr Unit Unit R)}{r:α→Option R}{fin:Unit→Option Unit}{s:Unit}{K1:Unit→Option γ}{K2:R→Option γ}(hl:l.length≤bu)(hb:∀i x,l[i]? =some x→body i x ()=if p x=true then some (match r x with|some q=>.ret q|none=>.brk ())else some (.go ()))(hf:fin ()=some ():=by rfl):oa l body fin s K1 K2=match l.find? p with|some x=>(match r x with|some q=>K2 q|none=>K1 ())|none=>K1 ():=by
 rw[Lo hl]
 have key:∀(rest pre:List α),l=pre++rest→pN body fin rest pre.length ()=some (match rest.find? p with|some x=>(match r x with|some q=>.inr q|none=>.inl ())|none=>.inl ()):=by
  intro rest;induction rest with
  |nil=>intro pre _;simp [pN,hf]
  |cons x rest ih=>
   intro pre hp;rw[pN,hb pre.length x (by rw[hp];simp),List.find?_cons];cases h:p x
   ·simp only[Bool.false_eq_true,if_false,aY];have:=ih (pre++[x]) (by simpa using hp);simpa using this
   ·simp only[if_true,aY];cases r x<;>rfl
 have k:=key l [] rfl;rw[List.length_nil]at k;rw[show s=()from rfl,k,aY];cases l.find? p with
 |none=>rfl
 |some x=>simp only;cases r x<;>rfl
theorem acB(l:List mj)(hl:gE Co l)(k:aG)(v:oI):ID l k v=some (zY l k v):=by
 unfold ID zY;split
 ·rfl
 split
 ·rfl
 split
 ·rfl
 rw[aka (p:=λp=>decide (p.aA=v.iV)) (r:=λp=>(p.lZ.find? λs=>decide (s.key=k)).map (·.level)) hl.1 ?_]
 ·cases hf:l.find? λp=>decide (p.aA=v.iV)with
  |none=>rfl
  |some p=>simp only;cases p.lZ.find? λs=>decide (s.key=k)<;>rfl
 intro i p hp;have XM:=hl.2 p (dA hp);by_cases hn:p.aA=v.iV
 ·simp only[hn,not_true_eq_false,if_false,decide_true,if_true];rw[alJ (p:=λs=>decide (s.key=k)) (r:=λs=>s.level) XM.2.2.1 (by intro i x _;simp only[decide_eq_true_eq,anp])];cases p.lZ.find? λs=>decide (s.key=k)<;>rfl
 ·simp [hn]
def Jy(l:List gX)(i:Nat)(m:gX):Int:=
 if(!(bf m.key.unit 1 9999))=true then 1
 else if(!(xC m.key.param))=true then 5
 else if((m.release&&(decide (¬(m.value=(⟨0,0⟩:oI)))))||((decide (¬(m.value.level=0)))&&(decide (¬(m.value.iV=0)))))=true then 3
 else if((!(bf m.value.level 0 65535))||(!(bf m.value.iV 0 999)))=true then 1
 else if((!m.BN)&&((decide (¬(m.cD=0)))||(decide (¬(m.time=0)))))=true then 3
 else if((!(bf m.cD 0 36000000))||(!(bf m.time 0 36000000)))=true then 1
 else if(decide (0<(i:Int))&&!gQ (pv l i).key m.key)=true then 7 else 0
def El(l:List gX):Int:=j0 (Jy l) l 0
theorem aio(l:List gX)(hl:gE Qa l):It l=some (El l):=by
 unfold It El;rw[D3 (f:=Jy l) hl.1 ?_]
 ·split
  ·rename_i h;rw[h]
  ·rfl
 intro i m hm;have hmm:=hl.2 m (dA hm);simp only[Jg hm hl.1,aY,yP hmm.1.2,compare_eq,TR,alP];unfold Jy;repeat first|exact go_ret|refine Je (by decide) ?_
def AB(l:List bE)(i:Nat)(c:bE):Int:=
 if(!(bf c.aA 1 9999999))=true then 1
 else if(decide (0<(i:Int))&&decide (c.aA≤(pv l i).aA))=true then 7
 else if(!(F4 c.title))=true then 3
 else if(((((!(bf c.cD 0 36000000))||(!(bf c.up 0 36000000)))||(!(bf c.down 0 36000000)))||(!(bf c.other 0 36000000)))||(!(bf c.eF (-1) 36000000)))=true then 1
 else if ¬(sA c.gP=0)then sA c.gP
 else if 2000<(c.eB.length:Int)then 2
 else El c.eB
def VC(l:List bE):Int:=l.foldl (λs c=>IntKind.i64.wrap (s+(c.eB.length:Int))) 0
def uj(l:List bE):Int:=
 if 300<(l.length:Int)then 2 else if ¬(j0 (AB l) l 0=0)then j0 (AB l) l 0 else if 10000<VC l then 2 else 0
theorem alI{α γ S B:Type}{f:Nat→α→Int}{g:S→α→S}{l:List α}{body:Nat→α→S→Option (Lr S B Int)}{fin:S→Option B}{s:S}{K1:B→Option γ}{K2:Int→Option γ}(hl:l.length≤bu)(hb:∀i x s,l[i]? =some x→body i x s=some (if f i x=0 then .go (g s x)else .ret (f i x))):oa l body fin s K1 K2=if j0 f l 0=0 then(fin (l.foldl g s)).bind K1 else K2 (j0 f l 0):=by
 rw[Lo hl]
 have key:∀(rest pre:List α)(s:S),l=pre++rest→pN body fin rest pre.length s=if j0 f rest pre.length=0 then(fin (rest.foldl g s)).map .inl else some (.inr (j0 f rest pre.length)):=by
  intro rest;induction rest with
  |nil=>intro pre s _;simp [pN,j0]
  |cons x rest ih=>
   intro pre s hp;rw[pN,hb pre.length x s (by rw[hp];simp),aY,j0];by_cases h:f pre.length x=0
   ·simp only[h,if_true];have:=ih (pre++[x]) (g s x) (by simpa using hp);simpa using this
   ·simp only[h,if_false]
 have k:=key l [] s rfl;rw[List.length_nil]at k;rw[k];split
 ·cases fin (l.foldl g s)<;>rfl
 ·rfl
theorem anq{S B:Type}{p:Prop}[Decidable p]{k f:Int}{t:S}{Y:Option (Lr S B Int)}(hk:k≠0)(h:Y=some (if f=0 then .go t else .ret f)):(if p then some (.ret k)else Y)=some (if(if p then k else f)=0 then .go t else .ret (if p then k else f)):=by
 by_cases hp:p
 ·simp [hp,hk]
 ·simp [hp,h]
theorem alT{S B:Type}{k f:Int}{t:S}{Y:Option (Lr S B Int)}(h:Y=some (if f=0 then .go t else .ret f)):(if ¬(k=0)then some (.ret k)else Y)=some (if(if ¬(k=0)then k else f)=0 then .go t else .ret (if ¬(k=0)then k else f)):=by
 by_cases hp:k=0
 ·simp [hp,h]
 ·simp [hp]
theorem T4{S B:Type}{k:Int}{t:S}:(if ¬(k=0)then some (.ret k)else some (.go t):Option (Lr S B Int))=some (if k=0 then .go t else .ret k):=by by_cases hp:k=0<;>simp [hp]
theorem adF(l:List bE)(hl:gE Ew l):IQ l=some (uj l):=by
 unfold IQ uj;split
 ·rfl
 rw[alI (f:=AB l) (g:=λs c=>IntKind.i64.wrap (s+(c.eB.length:Int))) hl.1 ?_]
 ·show(if j0 (AB l) l 0=0 then some (if decide (10000<VC l)=true then(2:Int)else 0)else some (j0 (AB l) l 0))=_;by_cases h:j0 (AB l) l 0=0
  ·by_cases h2:10000<VC l<;>simp [h,h2]
  ·simp [h]
 intro i c s hc;obtain⟨_,ht,_,_,_,_,_,_,hm⟩:=hl.2 c (dA hc);simp only[Jg hc hl.1,aY,yP ht,aio _ hm,TR,ajc];unfold AB;repeat first|exact T4|refine anq (by decide) ?_|refine alT ?_
def QM(r:gC)(cA:List mj)(m:gX):Int:=
 if(!EG r m.key)=true then 8 else(zY cA m.key m.value).2
def VH(r:gC)(cA:List mj)(l:List bE):Int:=j0 (λ_ c=>j0 (λ_ m=>QM r cA m) c.eB 0) l 0
def Qn(r:gC)(cA:List mj)(l:List bE):Int:=
 if ¬(uS r cA=0)then uS r cA else if ¬(uj l=0)then uj l else VH r cA l
theorem SV{r:gC}{l:List mj}(h:uS r l=0):jT r=0:=by
 unfold uS at h;by_cases h0:jT r=0
 ·exact h0
 ·rw[aO h0]at h;exact h
theorem ZF{c:bE}(h:Ew c):gE Qa c.eB:=by obtain⟨_,_,_,_,_,_,_,_,hm⟩:=h;exact hm
theorem aiU(r:gC)(cA:List mj)(l:List bE)(hr:BM r)(hp:gE Co cA)(hl:gE Ew l):Iv r cA l=some (Qn r cA l):=by
 unfold Iv Qn;simp only[YR r cA hr hp,adF l hl,aY];rw[yP (by show 2≤bu;unfold bu;omega)];simp only[Vs,aY];by_cases h0:uS r cA=0;case neg=>simp [h0]
 by_cases h1:uj l=0;case neg=>simp [h0,h1]
 have Mp:=SV h0;have wR:=Us Mp;simp only[h0,h1,not_true_eq_false,if_false,yP hr,aY,Mp,if_true];rw[OV (λs x=>eH x true s) (λ_ _=>True) (by unfold bu;omega) trivial (λ_ _ _ _ _=>trivial) (λ_ _ _ _ _=>rfl)];simp only[aY]
 have has:∀k,(dh k ((ql r).foldl (λs x=>eH x true s) [])).getD false=EG r k:=by intro k;rw[Uh,abX Mp];simp [dh]
 rw[D3 (f:=λ_ c=>j0 (λ_ m=>QM r cA m) c.eB 0) hl.1 ?_]
 ·show(if VH r cA l=0 then some (0:Int)else some (VH r cA l))=_;split
  ·rename_i h;rw[h]
  ·rfl
 intro i c hc;rw[D3 (f:=λ_ m=>QM r cA m) (ZF (hl.2 c (dA hc))).1 ?_]
 ·exact abJ _
 intro j m hm;simp only[has,acB cA hp,aY];unfold QM;repeat first|exact T4|refine Je (by decide) ?_
def wu(l:List kL)(n:Int):kL×Bool:=match l.find? λx=>decide (x.aA=n)with|some x=>(x,true)|none=>(⟨0,[]⟩,false)
theorem adS(s:iT)(hl:s.cV.length≤bu)(n:Int):IK s n=some (wu s.cV n):=by
 unfold IK wu;rw[yP hl,aY];rcases Bs (λx:kL=>decide (x.aA=n)) s.cV with⟨h1,_,h3⟩|⟨k,x,h1,h2,h3,h4,_⟩
 ·rw[h1,h3];rfl
 ·rw[h3,h4,aK (by omega),adj (x:=x) (by omega) (by simpa using h1)];rfl
def F8(s:iT)(i:Nat)(x:kL):Int:=
 if(!(bf x.aA 1 999))=true then 1
 else if(decide (0<(i:Int))&&decide (x.aA≤(pv s.cV i).aA))=true then 7
 else Qn s.aZ s.cA x.bU
def Qp(s:iT)(i:Nat)(p:nY):Int:=
 if(!(bf p.aA 1 40))=true then 1
 else if(decide (0<(i:Int))&&decide (p.aA≤(pv s.cm i).aA))=true then 7
 else if(!(wu s.cV p.list).2)=true then 8
 else if(!(bf p.ku 0 100))=true then 1 else 0
def Ep(s:iT):Int:=
 if ¬(uS s.aZ s.cA=0)then uS s.aZ s.cA
 else if 30<(s.cV.length:Int)then 2
 else if ¬(j0 (F8 s) s.cV 0=0)then j0 (F8 s) s.cV 0
 else if 40<(s.cm.length:Int)then 2
 else j0 (Qp s) s.cm 0
theorem Y7(s:iT)(hs:Cw s):Kw s=some (Ep s):=by
 obtain⟨hr,hp,hl,hb⟩:=hs;unfold Kw Ep;simp only[YR _ _ hr hp,aY];rw[yP (by show 2≤bu;unfold bu;omega)];simp only[Vs,aY];by_cases h0:uS s.aZ s.cA=0;case neg=>simp [h0]
 by_cases h1:30<(s.cV.length:Int)
 ·simp [h0,h1]
 simp only[h0,h1,not_true_eq_false,if_false,decide_false,Bool.false_eq_true];rw[D3 (f:=F8 s) hl.1 ?_]
 ·by_cases h2:j0 (F8 s) s.cV 0=0;case neg=>simp [h2]
  simp only[h2,if_true,not_true_eq_false,if_false];split
  ·rfl
  rw[D3 (f:=Qp s) hb.1 ?_]
  ·split
   ·rename_i h;rw[h]
   ·rfl
  intro i p Kf;simp only[Jg Kf hb.1,aY,adS s hl.1];unfold Qp;repeat first|exact go_ret|refine Je (by decide) ?_
 intro i x hx;simp only[Jg hx hl.1,aY,aiU _ _ _ hr hp (hl.2 x (dA hx)).2];unfold F8;repeat first|exact T4|refine Je (by decide) ?_
end
section
set_option maxRecDepth 100000
noncomputable def Su (a0:bE) (a1:Int):Option Int:=some (IntKind.i64.wrap (a0.aA-a1))
theorem ahn{a0:bE}{a1:Int}{σ:Heap}{r:Int}(h:Su a0 a1=some r):Fk [(AV.agg (bA a0)),(AV.ah a1)] σ=some ((AV.ah r),σ):=by refine zV (f:=Sq) (y0:=(AV.agg (bA a0))) (y1:=(AV.ah a1)) (enc:=λr:Int=>(AV.ah r)) (T:=Su a0 a1) (kM (uv rfl) rfl) rfl ?_ r h;unfold Sq Su;refine aB _ rfl<|aB _ rfl<|aB _ rfl ?_;exact gI _ (cg _ _) ⟨rfl,rfl⟩
noncomputable def KP (a0:(List bE)):Option (List (aG×bD)):=
 oa a0 (λ(yt:Nat)e9(s3:(List (aG×bD)))=>(show Option (Lr (List (aG×bD)) (List (aG×bD)) Unit)from
   oa e9.eB (λ(XU:Nat)mL(wW:(List (aG×bD)))=>(show Option (Lr (List (aG×bD)) (List (aG×bD)) Unit)from
     (show Option (List (aG×bD))from
       if mL.release=true then
        some (sZ mL.key wW)
       else
       some (eH mL.key (⟨(⟨mL.key.unit,mL.key.param⟩:aG),(⟨mL.value.level,mL.value.iV⟩:oI),e9.aA⟩:bD) wW)).bind λRj=>
     some (.go Rj))) (λwW=>some wW) s3 (λGW=>
    some (.go GW)) (λGW=>
    none))) (λs3=>some s3) ([]:List (aG×bD)) (λb4=>
  some b4) (λb4=>
  none)
theorem ajd{a0:(List bE)}{σ:Heap}{r:(List (aG×bD))}(h:KP a0=some r):KL [(sl 11 bA a0)] σ=some ((yg (λx=>(AV.agg (aX x))) (λx=>(AV.agg (dR x))) r),σ):=by
 refine Bz (f:=Th) (y0:=(sl 11 bA a0)) (enc:=λr:(List (aG×bD))=>(yg (λx=>(AV.agg (aX x))) (λx=>(AV.agg (dR x))) r)) (T:=KP a0) (kM (xO (λ_=>rfl) _) rfl) rfl ?_ r h;unfold Th KP;have hp1:Hp σ σ []:=Vc σ;have hp2:Hp σ (σ++[aS.map []]) [((AV.om σ.length),(Ct.m (List.map (λp=>((λx=>(AV.agg (aX x))) p.1,(λx=>(AV.agg (dR x))) p.2)) ([]:List (aG×bD)))))]:=Vw hp1;refine aB _ (iS _ _ _) ?_;refine uX (B:=(List (aG×bD))) (R:=Unit) (λ(yt:Nat)(s3:(List (aG×bD)))v w5=>v=[(AV.ah (yt:Int))]∧Hp σ w5 [((AV.om σ.length),(Ct.m (List.map (λp=>((λx=>(AV.agg (aX x))) p.1,(λx=>(AV.agg (dR x))) p.2)) s3)))]) (λ(b4:(List (aG×bD)))(q:LS)=>∃u11 w6,q=((AX.exit 0),([u11]:aq),w6)∧Hp σ w6 [((AV.om σ.length),(Ct.m (List.map (λp=>((λx=>(AV.agg (aX x))) p.1,(λx=>(AV.agg (dR x))) p.2)) b4)))]) (λ(b4:Unit)(q:LS)=>False) ?_ ?_ ⟨rfl,hp2⟩ ?_ ?_
 ·intro Wl yt e9 s3 v w5 Ho hI;obtain⟨rfl,XK⟩:=hI;refine aB _ (lF Ho)<|ve<|aB _ (kK Ho)<|aB _ rfl<|aB _ rfl<|aB _ (Lz _ _ rfl)<|aB (sl 8 gZ e9.eB) rfl<|aB _ (iS _ _ _) ?_;refine uX (B:=(List (aG×bD))) (R:=Unit) (λ(XU:Nat)(wW:(List (aG×bD)))v Yc=>v=[(AV.lbx (bA e9)),(AV.ah (XU:Int))]∧Hp σ Yc [((AV.om σ.length),(Ct.m (List.map (λp=>((λx=>(AV.agg (aX x))) p.1,(λx=>(AV.agg (dR x))) p.2)) wW)))]) (λ(GW:(List (aG×bD)))(q:LS)=>∃u5 u18 Yd,q=((AX.exit 2),([u5,u18]:aq),Yd)∧Hp σ Yd [((AV.om σ.length),(Ct.m (List.map (λp=>((λx=>(AV.agg (aX x))) p.1,(λx=>(AV.agg (dR x))) p.2)) GW)))]) (λ(GW:Unit)(q:LS)=>False) ?_ ?_ ⟨rfl,XK⟩ ?_ ?_
  ·intro arj XU mL wW v Yc Wd hI;obtain⟨rfl,QG⟩:=hI;refine aB _ (lF Wd)<|ve<|aB _ (kK Wd)<|aB _ rfl<|aB _ rfl<|aB _ (Pv _ _ rfl)<|aB _ rfl ?_
   refine QL (ω:=(List (aG×bD))) (λRj a=>∃Yh,a=(([(AV.lbx (bA e9))]:aq),Yh)∧Hp σ Yh [((AV.om σ.length),(Ct.m (List.map (λp=>((λx=>(AV.agg (aX x))) p.1,(λx=>(AV.agg (dR x))) p.2)) Rj)))]) (
     by
      refine lg (c:=mL.release) (λjx=>?_) (λjx=>?_)
      ·refine aB _ rfl ?_;obtain⟨w19,e21,afd⟩:=ao1 (ek:=(.s [0,2])) (eK:=(λx=>(AV.agg (aX x)))) (eV:=(λx=>(AV.agg (dR x)))) QG 0 rfl tZ mL.key rfl;change Hp σ w19 [((AV.om σ.length),(Ct.m (List.map (λp=>((λx=>(AV.agg (aX x))) p.1,(λx=>(AV.agg (dR x))) p.2)) (sZ mL.key wW))))]at afd;refine aB w19 e21 ?_;exact dJ ⟨_,rfl,afd⟩
      refine aB _ rfl<|aB _ rfl<|aB _ rfl<|aB _ rfl<|aB _ rfl<|aB (AV.agg (dR (⟨(⟨mL.key.unit,mL.key.param⟩:aG),(⟨mL.value.level,mL.value.iV⟩:oI),e9.aA⟩:bD))) rfl ?_;obtain⟨w22,MN,JJ⟩:=UP (ek:=(.s [0,2])) (eK:=(λx=>(AV.agg (aX x)))) (eV:=(λx=>(AV.agg (dR x)))) QG 0 rfl tZ mL.key (⟨(⟨mL.key.unit,mL.key.param⟩:aG),(⟨mL.value.level,mL.value.iV⟩:oI),e9.aA⟩:bD) rfl;change Hp σ w22 [((AV.om σ.length),(Ct.m (List.map (λp=>((λx=>(AV.agg (aX x))) p.1,(λx=>(AV.agg (dR x))) p.2)) (eH mL.key (⟨(⟨mL.key.unit,mL.key.param⟩:aG),(⟨mL.value.level,mL.value.iV⟩:oI),e9.aA⟩:bD) wW))))]at JJ;refine aB w22 MN ?_;exact dJ ⟨_,rfl,JJ⟩
     ) (λRj a ha=>?_)
   obtain⟨Yh,rfl,ati⟩:=ha;refine aB _ (iF Wd arj) ?_;exact dJ (uY ⟨rfl,ati⟩)
  ·intro hl wW v Yc hI;obtain⟨rfl,QG⟩:=hI;refine aB _ (lR _)<|u9 ?_;exact dJ ⟨by simp,⟨_,_,_,rfl,QG⟩⟩
  ·intro hl GW q hq;obtain⟨u5,u18,Yd,rfl,QH⟩:=hq;refine mT rfl<|aB _ (iF Ho Wl) ?_;exact dJ (uY ⟨rfl,QH⟩)
  ·intro hl GW q hq;exact False.elim hq
 ·intro hl s3 v w5 hI;obtain⟨rfl,XK⟩:=hI;refine aB _ (lR _)<|u9 ?_;exact dJ ⟨by simp,⟨_,_,rfl,XK⟩⟩
 ·intro hl b4 q hq;obtain⟨u11,w6,rfl,zB⟩:=hq;refine mT rfl ?_;exact gI _ (P8 zB (adH zB (k:=0) rfl (by intro p hp;obtain⟨x,_,rfl⟩:=ia.1 hp;exact⟨(Ab (Cu _)),(Ab (aaT _))⟩))) ⟨rfl,rfl⟩
 ·intro hl b4 q hq;exact False.elim hq
end
theorem acP{i j:Nat}(h:i+j<9223372036854775808):A.shr (.int .u64 ((i+j:Nat):Int)) (.int .u64 1)=some (.int .u64 (((i+j) / 2:Nat):Int)):=by simp only[A.shr];rw[aK (by decide)];congr 2;rw[show(2:Int) ^ (min (Int.toNat 1) IntKind.u64.bits)=2 from rfl,Int.fdiv_eq_ediv_of_nonneg _ (by decide)];omega
theorem adz{n:Nat}(h:n<9223372036854775808):A.conv .u64 (.ah (n:Int))=some (.int .u64 (n:Int)):=by simp only[A.conv];congr 2;unfold IntKind.wrap;simp [IntKind.bits,IntKind.signed];omega
theorem ady{n:Nat}(h:n<9223372036854775808):A.conv .i64 (.int .u64 (n:Int))=some (.ah (n:Int)):=by simp only[A.conv];rw[cR (by unfold aU;omega)]
theorem WI{a b:Nat}(h:a+b<9223372036854775808):A.add (.ah (a:Int)) (.ah (b:Int))=some (.ah ((a+b:Nat):Int)):=by rw[nv,cR (by unfold aU;omega)];simp
theorem Qv{a:Nat}(h:a+1<9223372036854775808):A.add (.ah (a:Int)) (.ah 1)=some (.ah ((a+1:Nat):Int)):=WI (b:=1) h
theorem JT(a b:Nat):A.lss (.ah (a:Int)) (.ah (b:Int))=some (.bool (decide (a<b))):=by rw[mU];have:((a:Int)<(b:Int))=(a<b):=propext ⟨λh=>by omega,λh=>by omega⟩;simp only[this]
theorem aeP(a:Int):A.lss (.ah a) (.ah 0)=some (.bool (decide (a<0))):=by rw[mU]
theorem Xq{α:Type}{X Y:α}:(bif (AX.exit 0==AX.exit 0)then X else Y)=X:=rfl
theorem aor{f:aq→Heap→Option (AX×aq×Heap)}{σ:Heap}(pv:Nat→Nat→aq){v0:aq}{n p:Nat}(hp:p≤n)(h0:v0=pv 0 n)
  (hs:∀i j,i<j→j≤n→f (pv i j) σ=some (.normal,if(i+j) / 2<p then pv ((i+j) / 2+1) j else pv i ((i+j) / 2),σ))
  (he:∀i,i≤n→f (pv i i) σ=some (.exit 0,pv i i,σ)):A.loop f v0 σ=some (.exit 0,pv p p,σ):=by
 subst h0
 have key:∀k i j,j-i≤k→i≤p→p≤j→j≤n→∃m,A.iter f m (pv i j) σ=some (.exit 0,pv p p,σ):=by
  intro k;induction k with
  |zero=>
   intro i j hk h1 h2 h3;have:i=p:=by omega
   have:j=p:=by omega
   subst i;subst j;exact yF (he p h3) (by simp)
  |succ k ih=>
   intro i j hk h1 h2 h3;by_cases hij:i<j
   ·have hstep:=hs i j hij h3;by_cases hh:(i+j) / 2<p
    ·rw[aO hh]at hstep;exact FL hstep (ih _ _ (by omega) (by omega) h2 h3)
    ·rw[aK hh]at hstep;exact FL hstep (ih _ _ (by omega) h1 (by omega) (by omega))
   ·have:i=p:=by omega
    have:j=p:=by omega
    subst i;subst j;exact yF (he p h3) (by simp)
 obtain⟨m,hm⟩:=key n 0 n (by omega) (by omega) hp (aQ _);exact Fu hm
theorem bsC{dyn:Nat→aq→Heap→aH}{l:List bE}{fn:Nat}{k:Int}{cv:bE→Int}{p:Nat}{σ:Heap}(hl:l.length<4611686018427387904)(hp:p≤l.length)
  (hd:∀x∈l,dyn fn [.agg (bA x),.ah k] σ=some (.ah (cv x),σ)) (hc:∀h x,l[h]? =some x→(cv x<0↔h<p)):
  Ig dyn [sl 11 bA l,.ah k,.fn fn []] σ=some (.aL [.ah (p:Int),.bool ((l[p]?).any λx=>decide (cv x=0))],σ):=by
 refine wrap_eq rfl ?_ rfl;show Ih dyn (sl 11 bA l) (.ah k) (.fn fn []) σ=_;unfold Ih;rw[iS,aY];rw[aor (v0:=[.ah 0,.ah (l.length:Int)]) (λi j=>[.ah (i:Int),.ah (j:Int)]) hp rfl ?_ ?_,aY]
 ·simp only[Xq,cQ,bW];rw[JT,aY];by_cases hpl:p<l.length
  ·have hx:l[p]? =some l[p]:=bR hpl;have mY:=hd _ (dA hx);have lD:=nj 11 bA l hx;have hq:=fM (by show A.lS dyn (.fn fn []) [.agg (bA l[p]),.ah k] σ=_;simp only[A.lS,List.append_nil];exact mY);simp only[ct hpl,A.guard,beq_self_eq_true,cq,aY,cQ,bW,lD,A.deref,Lw,A.lb,A.ak,A.aC,A.pick,hx,Option.any_some];show((A.quiet (A.lS dyn (.fn fn []) [.agg (bA l[p]),.ah k] σ) σ).bind _)=_;rw[hq,aY,jU];exact cg _ _
  ·have hx:l[p]? =none:=oL (by omega);simp only[bZ hpl,A.guard,aY,A.pick,hx,Option.any_none];exact cg _ _
 ·intro i j hij hj;have hlt:(i+j) / 2<l.length:=by omega
  have hx:l[(i+j) / 2]? =some l[(i+j) / 2]:=bR hlt;have mY:=hd _ (dA hx);have lD:=nj 11 bA l hx;have hq:A.lS dyn (.fn fn []) [.agg (bA l[(i+j) / 2]),.ah k] σ=some (.ah (cv l[(i+j) / 2]),σ):=by simp only[A.lS,List.append_nil];exact mY
  simp only[cQ,bW];rw[JT,aY,ct hij];simp only[A.cond,cq];rw[WI (by omega),aY,adz (by omega),aY,acP (by omega),aY,ady (by omega),aY,lD,aY];simp only[A.deref,aY,Lw,A.lb];rw[hq,aY,aeP,aY];by_cases hh:(i+j) / 2<p
  ·have:=(hc _ _ hx).2 hh;rw[ct this,aO hh];simp only[cq,Qv (show(i+j) / 2+1<9223372036854775808 by omega),aY];rfl
  ·have:¬(cv l[(i+j) / 2]<0):=λe=>hh ((hc _ _ hx).1 e)
   rw[bZ this,aK hh];rfl
 ·intro i hi;simp only[cQ,bW];rw[JT,aY,bZ (Nat.lt_irrefl i)];rfl
def WD(l:List gX):Prop:=l.Pairwise λa b=>gQ a.key b.key=true
structure Good (l : List bE) : Prop where
 len:l.length≤300
 num:∀c∈l,1≤c.aA∧c.aA≤9999999
 Nw:l.Pairwise λa b=>a.aA<b.aA
 mv:∀c∈l,c.eB.length≤2000∧WD c.eB
 pts:∀c∈l,c.gP.ck.length≤20
theorem Tr{α:Type}[Inhabited α]{r:α→α→Prop}(tr:∀a b c,r a b→r b c→r a c):∀(l:List α),(∀i x,l[i+1]? =some x→r (l[i]?.getD default) x)→l.Pairwise r
 |[],_=>List.Pairwise.nil
 |[a],_=>by simp
 |a::b::l,h=>by
  have ih:=Tr tr (b::l) (λi x hx=>h (i+1) x hx);have hab:r a b:=h 0 b rfl;refine List.pairwise_cons.2 ⟨λx hx=>?_,ih⟩;rcases jt.1 hx with rfl|hx
  ·exact hab
  ·exact tr _ _ _ hab ((List.pairwise_cons.1 ih).1 x hx)
section
theorem ada{α:Type}[Inhabited α](l:List α)(i:Nat):pv l (i+1)=l[i]?.getD default:=by simp [pv,List.getD_eq_getElem?_getD]
theorem ake{l:List gX}(h:El l=0):WD l:=by
 unfold El at h;refine Tr (r:=λa b:gX=>gQ a.key b.key=true) (λa b c=>IU) l λi x hx=>?_
 have:=(Bv l 0).1 h (i+1) x hx;rw[Nat.zero_add]at this;unfold Jy at this;rw[←ada];by_cases hq:gQ (pv l (i+1)).key x.key=true
 ·exact hq
 ·exfalso
  have e:(decide (0<((i+1:Nat):Int))&&!gQ (pv l (i+1)).key x.key)=true:=by rw[jC];exact⟨ct (by omega),by simpa using hq⟩
  rw[e]at this;repeat (first|(split at this;· cases this)|(simp at this;done)|(rename_i q;exact q rfl))
theorem UO{l:List bE}(h:uj l=0):Good l:=by
 unfold uj at h;by_cases h1:300<(l.length:Int)
 ·simp [h1]at h
 rw[aK h1]at h;by_cases h2:j0 (AB l) l 0=0;case neg=>rw[aO h2]at h;exact absurd h h2
 have hc:∀i x,l[i]? =some x→(1≤x.aA∧x.aA≤9999999)∧(0<i→(pv l i).aA<x.aA)∧x.eB.length≤2000∧El x.eB=0∧x.gP.ck.length≤20:=by
  intro i x hx;have:=(Bv l 0).1 h2 i x hx;rw[Nat.zero_add]at this;unfold AB at this;split at this
  ·cases this
  rename_i a1;split at this
  ·cases this
  rename_i a2;split at this
  ·cases this
  split at this
  ·cases this
  split at this
  ·rename_i a5;exact absurd this a5
  rename_i a5;split at this
  ·cases this
  rename_i a6
  have hpt:x.gP.ck.length≤20:=by
   have a5:sA x.gP=0:=by simpa using a5
   unfold sA at a5;split at a5
   ·cases a5
   split at a5
   ·split at a5
    ·cases a5
    split at a5
    ·cases a5
    omega
   ·split at a5
    ·cases a5
    omega
  refine⟨by simpa [bf]using a1,λhi=>?_,by omega,this,hpt⟩;have hi':decide (0<(i:Int))=true:=ct (by omega);rw[hi',Bool.true_and,decide_eq_true_eq]at a2;omega
 refine⟨by omega,λc yl=>?_,?_,λc yl=>?_,λc yl=>?_⟩
 ·obtain⟨i,hi⟩:=um.1 yl;exact(hc i c hi).1
 ·refine Tr (r:=λa b:bE=>a.aA<b.aA) (λa b c=>Int.lt_trans) l λi x hx=>?_
  rw[←ada];exact(hc (i+1) x hx).2.1 (by omega)
 ·obtain⟨i,hi⟩:=um.1 yl;exact⟨(hc i c hi).2.2.1,ake (hc i c hi).2.2.2.1⟩
 ·obtain⟨i,hi⟩:=um.1 yl;exact(hc i c hi).2.2.2.2
def nQ(l:List bE)(n:Int):Nat:=(l.takeWhile λc=>decide (c.aA<n)).length
def AF(l:List bE)(n:Int):Bool:=l.any λc=>decide (c.aA=n)
theorem ac8(l:List bE)(n:Int):nQ l n≤l.length:=(List.takeWhile_prefix _).length_le
theorem UY{l:List bE}{n:Int}(h:l.Pairwise λa b=>a.aA<b.aA):∀{i:Nat}{x:bE},l[i]? =some x→(x.aA<n↔i<nQ l n):=by
 induction l with
 |nil=>intro i x hx;simp at hx
 |cons a l ih=>
  intro i x hx;have hs:=List.pairwise_cons.1 h;unfold nQ;rw[List.takeWhile_cons];by_cases ha:a.aA<n
  ·rw[ct ha];simp only[if_true,List.length_cons];cases i with
   |zero=>simp at hx;subst hx;simp [ha]
   |succ i=>simp only[List.getElem?_cons_succ]at hx;rw[ih hs.2 hx];unfold nQ;omega
  ·rw[bZ ha];simp only[Bool.false_eq_true,if_false,List.length_nil,Nat.not_lt_zero,iff_false];cases i with
   |zero=>simp at hx;subst hx;exact ha
   |succ i=>simp only[List.getElem?_cons_succ]at hx;have:=hs.1 x (dA hx);omega
theorem apx{l:List bE}{n:Int}(h:l.Pairwise λa b=>a.aA<b.aA) {i:Nat} {x:bE} (hx:l[i]? =some x) (hn:x.aA=n):nQ l n=i:=by
 have h1:¬i<nQ l n:=λq=>by have:=(UY h hx).2 q;omega
 have h2:¬nQ l n<i:=λq=>by
  have hp:nQ l n<l.length:=Nat.lt_trans q (bQ.1 hx).1;have hy:l[nQ l n]? =some l[nQ l n]:=bR hp;have h3:¬l[nQ l n].aA<n:=λq'=>Nat.lt_irrefl _ ((UY h hy).1 q')
  have h4:=List.pairwise_iff_getElem.1 h (nQ l n) i hp (bQ.1 hx).1 q;rw[(bQ.1 hx).2,hn]at h4;exact h3 h4
 omega
theorem ab9{l:List bE}{n:Int}(h:l.Pairwise λa b=>a.aA<b.aA):((l[nQ l n]?).any λx=>decide (x.aA=n))=AF l n:=by
 rw[qq];constructor
 ·intro e;cases hx:l[nQ l n]? with
  |none=>rw[hx]at e;cases e
  |some x=>rw[hx]at e;exact List.any_eq_true.2 ⟨x,dA hx,e⟩
 ·intro e;obtain⟨x,hm,hk⟩:=List.any_eq_true.1 e;have hk:=of_decide_eq_true hk;obtain⟨i,hi⟩:=um.1 hm;rw[apx h hi hk,hi];simp [hk]
theorem aos{f:aq→Heap→Option (AX×aq×Heap)}{σ:Heap}(pv:Nat→Nat→aq){v0:aq}{n:Nat}(h0:v0=pv 0 n)(q:Nat→Bool)
  (hs:∀i j,i<j→j≤n→f (pv i j) σ=some (.normal,if q ((i+j) / 2)=true then pv ((i+j) / 2+1) j else pv i ((i+j) / 2),σ))
  (he:∀i,i≤n→f (pv i i) σ=some (.exit 0,pv i i,σ)):∃p,p≤n∧A.loop f v0 σ=some (.exit 0,pv p p,σ):=by
 subst h0
 have key:∀k i j,j-i≤k→i≤j→j≤n→∃p,p≤n∧∃m,A.iter f m (pv i j) σ=some (.exit 0,pv p p,σ):=by
  intro k;induction k with
  |zero=>
   intro i j hk h1 h3;have:i=j:=by omega
   subst i;exact⟨j,h3,yF (he j h3) (by simp)⟩
  |succ k ih=>
   intro i j hk h1 h3;by_cases hij:i<j
   ·have hstep:=hs i j hij h3;by_cases hh:q ((i+j) / 2)=true
    ·rw[aO hh]at hstep;obtain⟨p,hp,hm⟩:=ih _ _ (by omega) (show(i+j) / 2+1≤j by omega) h3;exact⟨p,hp,FL hstep hm⟩
    ·rw[aK hh]at hstep;obtain⟨p,hp,hm⟩:=ih i ((i+j) / 2) (by omega) (by omega) (by omega);exact⟨p,hp,FL hstep hm⟩
   ·have:i=j:=by omega
    subst i;exact⟨j,h3,yF (he j h3) (by simp)⟩
 obtain⟨p,hp,m,hm⟩:=key n 0 n (by omega) (by omega) (aQ _);exact⟨p,hp,Fu hm⟩
theorem aoq{β:Type}{f:aq→Heap→Option (AX×aq×Heap)}{σ:Heap}{K:AX×aq×Heap→Option β}{r:Nat→β}(pv:Nat→Nat→aq){v0:aq}{n:Nat}(h0:v0=pv 0 n)(q:Nat→Bool)
  (hs:∀i j,i<j→j≤n→f (pv i j) σ=some (.normal,if q ((i+j) / 2)=true then pv ((i+j) / 2+1) j else pv i ((i+j) / 2),σ))
  (he:∀i,i≤n→f (pv i i) σ=some (.exit 0,pv i i,σ)) (hK:∀p,p≤n→K (.exit 0,pv p p,σ)=some (r p)):∃p,p≤n∧(A.loop f v0 σ).bind K=some (r p):=by
 obtain⟨p,hp,h⟩:=aos pv h0 q hs he;exact⟨p,hp,by rw[h,aY,hK p hp]⟩
theorem ap6{dyn:Nat→aq→Heap→aH}{l:List bE}{fn:Nat}{k:Int}{cv:bE→Int}{σ:Heap}(hl:l.length<4611686018427387904)
  (hd:∀x∈l,dyn fn [.agg (bA x),.ah k] σ=some (.ah (cv x),σ)) (hc:∀x∈l,cv x≠0):
  ∃p:Nat,p≤l.length∧Ig dyn [sl 11 bA l,.ah k,.fn fn []] σ=some (.aL [.ah (p:Int),.bool false],σ):=by
 suffices h:∃p:Nat,p≤l.length∧Ih dyn (sl 11 bA l) (.ah k) (.fn fn []) σ=some (.aL [.ah (p:Int),.bool false],σ) by obtain⟨p,hp,h⟩:=h;exact⟨p,hp,wrap_eq rfl h rfl⟩
 unfold Ih;rw[iS,aY];refine aoq (v0:=[.ah 0,.ah (l.length:Int)]) (r:=λp=>((AV.aL [.ah (p:Int),.bool false],σ):AV×Heap)) (λi j=>[.ah (i:Int),.ah (j:Int)]) rfl (λh=>((l[h]?).any λx=>decide (cv x<0))) (λi j hij hj=>?_) (λi hi=>?_) (λp hp=>?_)
 ·have hlt:(i+j) / 2<l.length:=by omega
  have hx:l[(i+j) / 2]? =some l[(i+j) / 2]:=bR hlt;have mY:=hd _ (dA hx);have lD:=nj 11 bA l hx;have hq:A.lS dyn (.fn fn []) [.agg (bA l[(i+j) / 2]),.ah k] σ=some (.ah (cv l[(i+j) / 2]),σ):=by simp only[A.lS,List.append_nil];exact mY
  simp only[cQ,bW];rw[JT,aY,ct hij];simp only[A.cond,cq];rw[WI (by omega),aY,adz (by omega),aY,acP (by omega),aY,ady (by omega),aY,lD,aY];simp only[A.deref,aY,Lw,A.lb];rw[hq,aY,aeP,aY];simp only[hx,Option.any_some];by_cases hh:cv l[(i+j) / 2]<0
  ·rw[ct hh];simp only[cq,if_true,Qv (show(i+j) / 2+1<9223372036854775808 by omega),aY];rfl
  ·rw[bZ hh];rfl
 ·simp only[cQ,bW];rw[JT,aY,bZ (Nat.lt_irrefl i)];rfl
 ·simp only[Xq,cQ,bW];rw[JT,aY];by_cases hpl:p<l.length
  ·have hx:l[p]? =some l[p]:=bR hpl;have mY:=hd _ (dA hx);have hne:=hc _ (dA hx);have lD:=nj 11 bA l hx;have hq:=fM (by show A.lS dyn (.fn fn []) [.agg (bA l[p]),.ah k] σ=_;simp only[A.lS,List.append_nil];exact mY);simp only[ct hpl,A.guard,beq_self_eq_true,cq,aY,cQ,bW,lD,A.deref,Lw,A.lb,A.ak,A.aC,A.pick];show((A.quiet (A.lS dyn (.fn fn []) [.agg (bA l[p]),.ah k] σ) σ).bind _)=_;rw[hq,aY,jU,bZ hne];exact cg _ _
  ·simp only[bZ hpl,A.guard,aY,A.pick];exact cg _ _
structure aei (l : List bE) : Prop where
 len:l.length≤300
 num:∀c∈l,1≤c.aA∧c.aA≤9999999
 Nw:l.Pairwise λa b=>a.aA<b.aA
theorem Good.n{l:List bE}(h:Good l):aei l:=⟨h.len,h.num,h.Nw⟩
theorem apv{l:List bE}(hg:aei l){n:Int}(hn:aU n)(σ:Heap):∃p:Nat,IG [sl 11 bA l,.ah n] σ=some (.aL [.ah (p:Int),.bool (AF l n)],σ)∧p≤l.length∧((1≤n∨AF l n=true)→p=nQ l n):=by
 have hlen:l.length<4611686018427387904:=by have:=hg.len;omega
 have hd:∀x∈l,A.tab (λ_ _=>none) [(177,Fk)] 177 [.agg (bA x),.ah n] σ=some (.ah (IntKind.i64.wrap (x.aA-n)),σ):=λx _=>ahn (r:=IntKind.i64.wrap (x.aA-n)) rfl
 have wr:∀{p:Nat}{b:Bool},Ig (A.tab (λ_ _=>none) [(177,Fk)]) [sl 11 bA l,.ah n,.fn 177 []] σ=some (.aL [.ah (p:Int),.bool b],σ)→
   IG [sl 11 bA l,.ah n] σ=some (.aL [.ah (p:Int),.bool b],σ):=by
  intro p b h;refine wrap_eq rfl ?_ rfl;rw[show A.dr [Sh.e 11 [.k,.k,.k,.k,.k,.k,.k,.s 2,.k,.k,.s 8]] [sl 11 bA l,.ah n]=[sl 11 bA l,.ah n]from kM (xO (λ_=>rfl) _) rfl];show OD (sl 11 bA l) (.ah n) σ=_;unfold OD;rw[h,aY];exact cg _ _
 by_cases avj:-4611686018427387904≤n
 ·refine⟨nQ l n,wr ?_,ac8 _ _,λ_=>rfl⟩
  have hw:∀x∈l,IntKind.i64.wrap (x.aA-n)=x.aA-n:=λx hx=>by have:=hg.num x hx;unfold aU at hn;exact cR (by unfold aU;omega)
  rw[bsC (cv:=λx=>IntKind.i64.wrap (x.aA-n)) (p:=nQ l n) hlen (ac8 _ _) hd ?_]
  ·rw[←ab9 hg.Nw];congr 4;cases hx:l[nQ l n]? with
   |none=>rfl
   |some x=>simp only[Option.any_some];rw[hw x (dA hx),show decide (x.aA-n=0)=decide (x.aA=n)from decide_eq_decide.2 (by omega)]
  ·intro h x hx;rw[hw x (dA hx),←UY hg.Nw hx];omega
 ·have hno:AF l n=false:=by rw[Bool.eq_false_iff];intro e;obtain⟨x,hx,hk⟩:=List.any_eq_true.1 e;have:=hg.num x hx;have:=of_decide_eq_true hk;omega
  obtain⟨p,hp,h⟩:=ap6 hlen hd (λx hx e=>by
   have avl:=hg.num x hx;unfold aU at hn
   have h2:IntKind.i64.wrap (x.aA-n)=x.aA-n∨IntKind.i64.wrap (x.aA-n)=x.aA-n-18446744073709551616:=by
    by_cases hh:x.aA-n<9223372036854775808
    ·exact .inl (cR (by unfold aU;omega))
    ·right;unfold IntKind.wrap;simp [IntKind.bits,IntKind.signed];omega
   rcases h2 with h2|h2<;>rw[h2]at e<;>omega)
  exact⟨p,by rw[hno];exact wr h,hp,λq=>by
   rcases q with q|q
   ·omega
   ·rw[hno]at q;cases q⟩
theorem apw{l:List bE}(hg:Good l){n:Int}(hn:aU n)(σ:Heap):∃p:Nat,IG [sl 11 bA l,.ah n] σ=some (.aL [.ah (p:Int),.bool (AF l n)],σ)∧p≤l.length∧((1≤n∨AF l n=true)→p=nQ l n):=apv hg.n hn σ
section
variable {α R γ S B : Type}
end
end
section
open HP
def Lt(σ:Heap)(sh:Sh)(v t:AV):Prop:=(∃v',A.bM σ 0 8 v=some v'∧A.own v'=false∧A.nn sh v'=A.nn sh t)∧A.own t=false∧(A.own v=false→A.nn sh v=A.nn sh t)
def QU(σ:Heap):List Sh→aq→aq→Prop
 |_,[],[]=>True
 |[],a::dX,t::ts=>Lt σ .k a t∧QU σ [] dX ts
 |s::ss,a::dX,t::ts=>Lt σ s a t∧QU σ ss dX ts
 |_,_,_=>False
theorem kF(v:AV):A.nn .k v=v:=by simp [A.nn]
theorem XX{σ:Heap}:∀{ss:List Sh}{dX ts:aq},QU σ ss dX ts→(∃Ez,A.gm σ 0 8 dX=some Ez∧Ez.any A.own=false∧A.dr ss Ez=A.dr ss ts)∧ts.any A.own=false∧(dX.any A.own=false→A.dr ss dX=A.dr ss ts)
 |ss,[],[],_=>⟨⟨[],by simp [A.gm],rfl,rfl⟩,rfl,λ_=>rfl⟩
 |[],a::dX,t::ts,h=>by obtain⟨⟨⟨v',h1,h2,h3⟩,h4,h5⟩,h6⟩:=h;obtain⟨⟨Ez,k1,k2,k3⟩,k4,k5⟩:=XX h6;rw[kF,kF]at h3;simp only[A.dr]at k3 k5;refine⟨⟨v'::Ez,by simp [A.gm,h1,k1],by simp [h2,k2],by simp [A.dr,h3,k3]⟩,by simp [h4,k4],λh=>?_⟩;simp only[List.any_cons,pK]at h;have:=h5 h.1;rw[kF,kF]at this;simp [A.dr,this,k5 h.2]
 |s::ss,a::dX,t::ts,h=>by obtain⟨⟨⟨v',h1,h2,h3⟩,h4,h5⟩,h6⟩:=h;obtain⟨⟨Ez,k1,k2,k3⟩,k4,k5⟩:=XX h6;refine⟨⟨v'::Ez,by simp [A.gm,h1,k1],by simp [h2,k2],by simp [A.dr,h3,k3]⟩,by simp [h4,k4],λh=>?_⟩;simp only[List.any_cons,pK]at h;simp [A.dr,h5 h.1,k5 h.2]
 |_,[],_::_,h=>by cases h
 |[],_::_,[],h=>by cases h
 |_::_,_::_,[],h=>by cases h
theorem EN{gD:List Sh}{ig:Sh}{r:aq→Heap→aH}{dX ts:aq}{σ:Heap}{v:AV}(h:QU σ gD dX ts)(e:∀σ,A.wrap true gD ig r ts σ=some (v,σ))(hs:A.GL v=true):A.wrap true gD ig r dX σ=some (v,σ):=by
 obtain⟨⟨Ez,k1,k2,k3⟩,k4,k5⟩:=XX h;cases ho:dX.any A.own
 ·rw[U3 (k5 ho) ho k4];exact e σ
 ·exact acz ho k1 k2 (by rw[U3 k3 k2 k4];exact e []) hs
theorem Qo{σ:Heap}{sh:Sh}{v:AV}(h:Fz v)(ho:A.own v=false):Lt σ sh v v:=⟨⟨v,h σ 0 8,ho,rfl⟩,ho,λ_=>rfl⟩
theorem Ve{σ:Heap}(n:Int):Lt σ .k (.ah n) (.ah n):=Qo (fA _ _) rfl
section
variable {α : Type} {c : α → aq} {sz : Nat} {B : aS → Prop} {aJ σ : Heap} {R : HP} {v : AV} {l : List α}
theorem Bw(H:Hs B aJ σ (Sl (fl c) sz v l*R)):(l=[]∧(v=.az∨v=.ez)∧Hs B aJ σ R)∨∃id g,v=.os id g sz 0 l.length∧Hs B aJ σ (blk id (.arr g sz (l.map c))*R):=by
 rcases Cq H with h|⟨id,g,seg,rfl,hl,H⟩
 ·exact .inl h
 ·have K:=P4.1 (eu (show _=els (fl c) seg l*(blk id (.arr g sz seg)*R) by ac_rfl) H);obtain⟨rfl,K⟩:=K;exact .inr ⟨id,g,rfl,K⟩
theorem Qc{id g:Nat}{n:Nat}(H:Hs B aJ σ (blk id (.arr g sz (l.map c))*R))(hn:n=l.length:=by rfl):Hs B aJ σ (Sl (fl c) sz (.os id g sz 0 n) l*R):=
 Qu (id:=id) (g:=g) (seg:=l.map c) (eu (show els (fl c) (l.map c) l*(blk id (.arr g sz (l.map c))*R)=_ by ac_rfl) (P4.2 ⟨rfl,H⟩)) hn
theorem P7(hc:∀x,lC (c x)){id g:Nat}(h:σ[id]? =some (.arr g sz (l.map c))){n:Nat}(hn:¬id<n)(d:Nat):A.bM σ n (d+1) (.os id g sz 0 l.length)=some (sl sz c l):=by simp only[A.bM,aK hn,h];rw[aO (by simp),List.drop_zero,rS (by simp),IZ,V5 hc];rfl
theorem LH(H:Hs B aJ σ (Sl (fl c) sz v l*R))(hc:∀x,lC (c x)){n:Nat}(hn:n≤aJ.length)(d:Nat):∃v',A.bM σ n (d+1) v=some v'∧A.Ww v'=false∧A.nn (.s sz) v'=sl sz c l:=by
 rcases Bw H with⟨rfl,rfl|rfl,_⟩|⟨id,g,rfl,K⟩
 ·exact⟨.az,by simp [A.bM],rfl,rfl⟩
 ·exact⟨.ez,by simp [A.bM],rfl,rfl⟩
 ·obtain⟨h1,h2⟩:=kC K;exact⟨_,P7 hc h2 (by omega) d,rfl,rfl⟩
theorem Vd{P:HP}(H:Hs B aJ σ P):Hs cS aJ σ P:=⟨by obtain⟨bs,h,_⟩:=H.pre;exact⟨bs,h,λ_ _=>trivial⟩,H.own⟩
end
section
variable {α : Type} {E : aq → α → HP} {sz : Nat} {aJ σ : Heap} {R : HP} {v : AV} {l : List α}
end
def aq0(x:bE)(vp vm:AV):aq:=[.ah x.aA,.str x.title,.ah x.cD,.ah x.up,.ah x.down,.ah x.other,.ah x.gP.kind,vp,.bool x.block,.ah x.eF,vm]
def JA:List Sh:=[.k,.k,.k,.k,.k,.k,.k,.s 2,.k,.k,.s 8]
section
variable {B : aS → Prop} {aJ σ : Heap} {R : HP} {M : AV → List gX → HP} {e : aq} {x : bE}
variable {v : AV} {l : List bE}
theorem aiA(l:List bE):A.nn (.e 11 JA) (sl 11 bA l)=sl 11 bA l:=xO (λ_=>rfl) l
end
end
section
open HP
theorem Jo{β:Type}{f:aq→Heap→Option LS}{K:LS→Option β}{v0:aq}{σ:Heap}{P:β→Prop}{Q:LS→Prop}(h:∃q,A.loop f v0 σ=some q∧Q q)(k:∀q,Q q→∃b,K q=some b∧P b):∃b,(A.loop f v0 σ).bind K=some b∧P b:=by obtain⟨q,h1,h2⟩:=h;obtain⟨b,h3,h4⟩:=k q h2;exact⟨b,by rw[h1];exact h3,h4⟩
section
variable {α : Type} {c : α → aq} {sz : Nat} {B : aS → Prop} {aJ σ : Heap} {R : HP} {v : AV} {l : List α}
theorem UH{most:Nat}{m r:aq→Heap→aH}{r0:AV→Heap→aH}(hm:m=A.uc (A.wrap true [(.s sz)] .k (A.dP r0)))(hr:∀a σ,r0 a σ=(A.tH a .az).bind λx1=>A.cond x1 (some (.az,σ)) ((A.append sz most .ez a σ).bind λr2=>some (r2.1,r2.2)))
  (hl:l.length≤most) (hB:∀g g' seg,(seg=[]∨B (.arr g sz seg))→B (.arr g' sz (seg++l.map c))) (H:Hs B aJ σ R):∃v σ',m [sl sz c l] σ=some (v,σ')∧A.cell v=some v∧Hs B aJ σ' (Sl (fl c) sz v l*R):=by
 subst hm;cases l with
 |nil=>exact⟨.ez,σ,rfl,rfl,uL H (.inr rfl)⟩
 |cons x l=>
  obtain⟨v',σ',e1,H2⟩:=LG (B:=B) (E:=fl c) (sz:=sz) (v:=.ez) (l:=[]) (ys:=(x::l).map c) (xs:=x::l) (most:=most) (uL (P4.2 ⟨rfl,H⟩) (.inr rfl)) (by simpa using hl) hB
  have hv:A.cell v'=some v':=by
   rcases Bw H2 with⟨h,_,_⟩|⟨id,g,rfl,_⟩
   ·cases h
   ·rfl
  refine⟨v',σ',?_,hv,H2⟩;show A.wrap true [(.s sz)] .k (A.dP r0) [sl sz c (x::l)] σ=_;refine wrap_eq rfl ?_ rfl;show r0 (sl sz c (x::l)) σ=_;rw[hr,show A.tH (sl sz c (x::l)) .az=some (.bool false)from rfl,aY,dw,show sl sz c (x::l)=.sl sz ((x::l).map c)from rfl,e1];rfl
end
section
variable {aJ σ : Heap} {R : HP}
theorem asK{l:List bE}(hl:l.length≤1099511627776)(H:Hs cS aJ σ R):∃v σ',Fh [sl 11 bA l] σ=some (v,σ')∧A.cell v=some v∧Hs cS aJ σ' (Sl (fl bA) 11 v l*R):=
 UH (most:=140737488355328 / 128) (r:=λ_ _=>none) rfl (λ_ _=>rfl) (by simpa using hl) (λ_ _ _ _=>trivial) H
end
end
section
open HP
theorem pE{f:aq→Heap→Option LS}{Q:LS→Prop}(I:Nat→aq→Heap→Prop)(hstep:∀n v σ,I n v σ→(∃m v' σ',m<n∧f v σ=some (.normal,v',σ')∧I m v' σ')∨∃q,f v σ=some q∧q.1≠.normal∧Q q){n:Nat}{v0:aq}{σ:Heap}(h0:I n v0 σ):∃q,A.loop f v0 σ=some q∧Q q:=by
 have key:∀(k n:Nat)v σ,n≤k→I n v σ→∃q,(∃m,A.iter f m v σ=some q)∧Q q:=by
  intro k;induction k with
  |zero=>
   intro n v σ hn hI;rcases hstep n v σ hI with⟨m,_,_,hm,_⟩|⟨q,h1,h2,h3⟩
   ·omega
   ·exact⟨q,yF h1 h2,h3⟩
  |succ k ih=>
   intro n v σ hn hI;rcases hstep n v σ hI with⟨m,v',σ',hm,h1,h2⟩|⟨q,h1,h2,h3⟩
   ·obtain⟨q,hq,hQ⟩:=ih m v' σ' (by omega) h2;exact⟨q,FL h1 hq,hQ⟩
   ·exact⟨q,yF h1 h2,h3⟩
 obtain⟨q,⟨m,hm⟩,hQ⟩:=key n n v0 σ (aQ _) h0;exact⟨q,Fu hm,hQ⟩
theorem gT(X d:Option AV):A.guard (.bool true) true X d=X:=by have h:A.guard (.bool true) true X d=X:=rfl;exact h.trans (Eq.refl X)
theorem gF(X d:Option AV):A.guard (.bool false) false X d=X:=by have h:A.guard (.bool false) false X d=X:=rfl;exact h.trans (Eq.refl X)
theorem wO(X d:Option AV):A.guard (.bool false) true X d=d:=by have h:A.guard (.bool false) true X d=d:=rfl;exact h.trans (Eq.refl d)
theorem A0(X d:Option AV):A.guard (.bool true) false X d=d:=by have h:A.guard (.bool true) false X d=d:=rfl;exact h.trans (Eq.refl d)
theorem bS{α β:Type}(a:α)(f:α→Option β):(some a).bind f=f a:=by have h:(some a).bind f=f a:=rfl;exact h.trans (Eq.refl (f a))
theorem qx(cs:aq)(σ:Heap):A.deref (.rp cs) σ=some cs:=by have h:A.deref (.rp cs) σ=some cs:=rfl;exact h.trans (Eq.refl _)
theorem oT(n:Nat){α:Type}{X Y:α}:(bif (AX.exit n==AX.exit n)then X else Y)=X:=by rw[show(AX.exit n==AX.exit n)=true from beq_self_eq_true _];rfl
theorem mZ(x y:AV):A.pick (.bool false) x y=some y:=rfl
theorem mM(x y:AV):A.pick (.bool true) x y=some x:=rfl
theorem atw:A.not (.bool true)=some (.bool false):=rfl
end
section
open HP
section
variable {aJ σ : Heap} {R : HP}
theorem P6{v v':AV}(H:Hs cS aJ σ R)(h:A.bM σ aJ.length 8 v=some v')(hv:σ=aJ→v'=v):A.fin aJ v σ=some (v',aJ):=by
 obtain⟨⟨bs,rfl,_⟩,_⟩:=H;by_cases vN:bs=[]
 ·subst vN;rw[List.append_nil]at h ⊢;rw[cg,hv (by simp)]
 ·unfold A.fin;rw[aK (by simpa using vN),aO (by simp),h];rfl
end
end
section
open HP
def Inv(k:Nat)(l:List bE):Prop:=l.length≤1000∧∀c∈l,WD c.eB∧c.eB.length≤2000+k
section
variable {aJ σ : Heap} {R : HP}
end
end
section
open HP
theorem ao0{l:List bE}{n:Int}(hg:Good l)(h:AF l n=true):∃x,l[nQ l n]? =some x∧x.aA=n:=by
 rw[←ab9 hg.Nw]at h;cases hx:l[nQ l n]? with
 |none=>rw[hx]at h;cases h
 |some x=>rw[hx]at h;exact⟨x,rfl,by simpa using h⟩
theorem mo(a b:AV):A.ext 0 (.aL [a,b])=some a:=rfl
theorem ext1(a b:AV):A.ext 1 (.aL [a,b])=some b:=rfl
theorem apl(l:List bE)(dX:aq):A.dr [Sh.e 11 JA] (sl 11 bA l::dX)=sl 11 bA l::dX:=kM (aiA l) rfl
theorem aeW(a:Int):A.neq .i (.ah a) (.ah 0)=some (.bool (decide (¬(a=0)))):=by rw[fW]
end
section
open HP
section
variable {α : Type} {c : α → aq} {sz : Nat} {aJ σ : Heap} {R : HP}
theorem aqn{B:aS→Prop}(H:Hs B aJ σ R)(bs:Heap)(vN:∀b∈bs,B b):Hs B aJ (σ++bs) R:=by obtain⟨⟨b0,rfl,hb0⟩,h,hr,h2⟩:=H;exact⟨⟨b0++bs,by simp,λb hb=>(jP.1 hb).elim (hb0 b) (vN b)⟩,h,hr,λi b hb=>⟨(h2 i b hb).1,by rw[jk (bQ.1 (h2 i b hb).2).1];exact(h2 i b hb).2⟩⟩
end
def pO(l:List bD):Prop:=l.Pairwise λa b=>gQ a.key b.key=true
def qK(l:List bD)(k:aG):Nat:=(l.takeWhile λm=>gQ m.key k).length
def Ml(l:List bD)(k:aG):Bool:=l.any λm=>decide (m.key=k)
theorem apy(l:List bD)(k:aG):qK l k≤l.length:=(List.takeWhile_prefix _).length_le
theorem PS{l:List bD}{k:aG}(h:pO l):∀{i:Nat}{x:bD},l[i]? =some x→(gQ x.key k=true↔i<qK l k):=by
 induction l with
 |nil=>intro i x hx;simp at hx
 |cons a l ih=>
  intro i x hx;have hs:=List.pairwise_cons.1 h;unfold qK;rw[List.takeWhile_cons];cases ha:gQ a.key k
  ·simp only[Bool.false_eq_true,if_false,List.length_nil,Nat.not_lt_zero,iff_false,Bool.not_eq_true];cases i with
   |zero=>simp at hx;subst hx;exact ha
   |succ i=>
    simp only[List.getElem?_cons_succ]at hx;have:=hs.1 x (dA hx);cases hq:gQ x.key k
    ·rfl
    ·rw[IU this hq]at ha;cases ha
  ·simp only[if_true,List.length_cons];cases i with
   |zero=>simp at hx;subst hx;simp [ha]
   |succ i=>simp only[List.getElem?_cons_succ]at hx;rw[ih hs.2 hx];unfold qK;omega
theorem PR{l:List bD}{k:aG}(h:pO l){i:Nat}{x:bD}(hi:l[i]? =some x)(hk:x.key=k):qK l k=i:=by
 have h1:¬i<qK l k:=λq=>by have:=(PS h hi).2 q;rw[hk,Ed]at this;cases this
 have h2:¬qK l k<i:=λq=>by
  have hp:qK l k<l.length:=Nat.lt_trans q (bQ.1 hi).1;have hy:l[qK l k]? =some l[qK l k]:=bR hp;have h3:¬gQ l[qK l k].key k=true:=λq'=>Nat.lt_irrefl _ ((PS h hy).1 q')
  have h4:=List.pairwise_iff_getElem.1 h (qK l k) i hp (bQ.1 hi).1 q;rw[(bQ.1 hi).2,hk]at h4;exact h3 h4
 omega
theorem acd{l:List bD}{k:aG}(h:pO l):((l[qK l k]?).any λx=>decide (x.key=k))=Ml l k:=by
 rw[qq];constructor
 ·intro e;cases hx:l[qK l k]? with
  |none=>rw[hx]at e;cases e
  |some x=>rw[hx]at e;exact List.any_eq_true.2 ⟨x,dA hx,e⟩
 ·intro e;obtain⟨x,hm,hk⟩:=List.any_eq_true.1 e;have hk:=of_decide_eq_true hk;obtain⟨i,hi⟩:=um.1 hm;rw[PR h hi hk,hi];simp [hk]
def yX(n:Int)(st:List bD)(m:gX):List bD:=
 let st1:=if Ml st m.key=true then st.eraseIdx (qK st m.key)else st
 if m.release=true then st1 else st1.take (qK st m.key)++[⟨m.key,m.value,n⟩]++st1.drop (qK st m.key)
def Ji(st:List bD)(c:bE):List bD:=c.eB.foldl (yX c.aA) st
def D7(l:List bE):List bD:=l.foldl Ji []
def nM(st:List bD)(k:aG):Option bD:=st.find? λe=>decide (e.key=k)
theorem aaw{n:Int}{st:List bD}(h:pO st)(m:gX):pO (yX n st m)∧(∀k,nM (yX n st m) k=if k=m.key then(if m.release=true then none else some ⟨m.key,m.value,n⟩)else nM st k)∧(yX n st m).length≤st.length+1:=by
 obtain⟨p,hp⟩:∃p,p=qK st m.key:=⟨_,rfl⟩
 obtain⟨st1,JM⟩:∃st1,st1=if Ml st m.key=true then st.eraseIdx p else st:=⟨_,rfl⟩
 have avo:p≤st.length:=by rw[hp];exact apy _ _
 have e1:st1.take p=st.take p:=by
  rw[JM];split
  ·rw[List.eraseIdx_eq_take_drop_succ,List.take_append_of_le_length (by simp;omega),List.take_take,Nat.min_self]
  ·rfl
 have e2:st1.drop p=if Ml st m.key=true then st.drop (p+1)else st.drop p:=by
  rw[JM];split
  ·rw[List.eraseIdx_eq_take_drop_succ,List.drop_append_of_le_length (by simp;omega),List.drop_of_length_le (by simp;omega),List.nil_append]
  ·rfl
 have hlt:∀x∈st.take p,gQ x.key m.key=true:=λx hx=>by
  obtain⟨i,hi⟩:=um.1 hx;rw[List.getElem?_take]at hi;split at hi
  ·rename_i q;exact(PS h hi).2 (by omega)
  ·cases hi
 have hgt:∀x∈st1.drop p,gQ m.key x.key=true:=λx hx=>by
  rw[e2]at hx
  have key:∀i,p≤i→st[i]? =some x→x.key≠m.key→gQ m.key x.key=true:=by
   intro i hpi hi hne;cases hq:gQ m.key x.key
   ·exfalso
    have h1:gQ x.key m.key=false:=by
     cases vP:gQ x.key m.key
     ·rfl
     ·have:=(PS h hi).1 vP;omega
    exact hne (UT h1 hq)
   ·rfl
  split at hx
  ·rename_i hh;obtain⟨i,hi⟩:=um.1 hx;rw[List.getElem?_drop]at hi;refine key _ (by omega) hi λe=>?_
   have:=PR h hi e;omega
  ·rename_i hh;obtain⟨i,hi⟩:=um.1 hx;rw[List.getElem?_drop]at hi;refine key _ (by omega) hi λe=>?_
   exact hh (List.any_eq_true.2 ⟨x,dA hi,by simp [e]⟩)
 have hs1:pO st1:=by
  rw[JM];split
  ·exact h.sublist (List.eraseIdx_sublist _ _)
  ·exact h
 have zA:st1.length≤st.length:=by
  rw[JM];split
  ·exact List.length_eraseIdx_le _ _
  ·exact aQ _
 have hno:∀k,k=m.key→nM st1 k=none:=by
  rintro k rfl;unfold nM;rw[List.find?_eq_none];intro x hx hk;have hk:=of_decide_eq_true hk;rw[←List.take_append_drop p st1,jP]at hx;rcases hx with hx|hx
  ·rw[e1]at hx;have:=hlt x hx;rw[hk,Ed]at this;cases this
  ·have:=hgt x hx;rw[hk,Ed]at this;cases this
 have afb:∀k,k≠m.key→nM st1 k=nM st k:=by
  intro k hk;rw[JM];split
  ·rename_i hh;unfold nM;rw[List.eraseIdx_eq_take_drop_succ]
   have hx:st[p]? ≠none:=λe=>by have:=acd (k:=m.key) h;rw[hh,←hp,e]at this;cases this
   obtain⟨x,hx⟩:=Option.ne_none_iff_exists'.1 hx
   have hxk:x.key=m.key:=by have:=acd (k:=m.key) h;rw[hh,←hp,hx]at this;simpa using this
   have e:st=st.take p++x::st.drop (p+1):=by rw[←(bQ.1 hx).2,List.getElem_cons_drop,List.take_append_drop]
   conv=>rhs;rw[e]
   rw[List.find?_append,List.find?_append,List.find?_cons,bZ (λq=>hk (by rw[←q,hxk]))]
  ·rfl
 have as4:yX n st m=if m.release=true then st1 else st1.take p++[⟨m.key,m.value,n⟩]++st1.drop p:=by unfold yX;rw[←hp,←JM]
 rw[as4];split
 ·rename_i hr;refine⟨hs1,λk=>?_,by omega⟩;by_cases hk:k=m.key
  ·rw[aO hk];exact hno k hk
  ·rw[aK hk];exact afb k hk
 ·rename_i hr;refine⟨?_,λk=>?_,by simp;omega⟩
  ·unfold pO;rw[mm,List.pairwise_append];refine⟨hs1.sublist (List.take_sublist _ _),?_,λx hx y hy=>?_⟩
   ·rw[List.singleton_append,List.pairwise_cons];exact⟨λy hy=>hgt y hy,hs1.sublist (List.drop_sublist _ _)⟩
   ·rw[e1]at hx;rcases jP.1 hy with hy|hy
    ·simp at hy;subst hy;exact hlt x hx
    ·exact IU (hlt x hx) (hgt y hy)
  ·by_cases hk:k=m.key
   ·rw[aO hk];subst hk;unfold nM;rw[mm,List.find?_append]
    have:(st1.take p).find? (λe=>decide (e.key=m.key))=none:=by rw[List.find?_eq_none];intro x hx q;rw[e1]at hx;have:=hlt x hx;rw[of_decide_eq_true q,Ed]at this;cases this
    rw[this];simp
   ·rw[aK hk,←afb k hk];unfold nM;rw[mm,List.find?_append,List.singleton_append,List.find?_cons,bZ (λq=>hk q.symm)];conv=>rhs;rw[←List.take_append_drop p st1,List.find?_append]
end
section
open HP
section
variable {B : aS → Prop} {aJ σ : Heap} {R : HP}
theorem aj9{n:Int}(ms:List gX):∀{st:List bD},pO st→pO (ms.foldl (yX n) st)∧(ms.foldl (yX n) st).length≤st.length+ms.length:=by
 induction ms with
 |nil=>intro st h;exact⟨h,aQ _⟩
 |cons m ms ih=>intro st h;obtain⟨h1,_,h3⟩:=aaw (n:=n) h m;obtain⟨h4,h5⟩:=ih h1;exact⟨h4,by simp only[List.foldl_cons,List.length_cons];omega⟩
theorem ajV{l:List bE}(hl:∀c∈l,c.eB.length≤2000000):∀(k:Nat)(st:List bD),pO st→st.length≤k*2000000→pO (l.foldl Ji st)∧(l.foldl Ji st).length≤(k+l.length)*2000000:=by
 induction l with
 |nil=>intro k st h1 h2;exact⟨h1,h2⟩
 |cons c l ih=>intro k st h1 h2;obtain⟨h3,h4⟩:=aj9 (n:=c.aA) c.eB h1;have hc:=hl c (by simp);obtain⟨h5,h6⟩:=ih (λx hx=>hl x (by simp [hx])) (k+1) (Ji st c) h3 (by show(c.eB.foldl _ st).length≤_;omega);refine⟨h5,?_⟩;rw[List.length_cons,show k+(l.length+1)=k+1+l.length from by omega];exact h6
end
def sK(n:Int)(s:List (aG×bD))(m:gX):List (aG×bD):=if m.release=true then sZ m.key s else eH m.key ⟨m.key,m.value,n⟩ s
def Gc(l:List bE):List (aG×bD):=l.foldl (λs c=>c.eB.foldl (sK c.aA) s) []
def sX(s:List (aG×bD)):Prop:=(s.map (·.1)).Nodup
theorem abw{ν:Type}(k k':aG)(v:ν):∀s:List (aG×ν),dh k (eH k' v s)=if k=k' then some v else dh k s
 |[]=>by by_cases h:k=k'<;>simp [eH,dh,h]
 |(a,b)::s=>by
  rw[eH];by_cases h1:k'=a
  ·subst h1;simp only[if_true,dh];by_cases h:k=k'<;>simp [h]
  ·rw[aK h1,dh,dh,abw k k' v s];by_cases h2:k=a
   ·have:k≠k':=λe=>h1 (by rw[←e,h2])
    simp [h2,this];intro e;exact absurd (e.symm) h1
   ·simp [h2]
theorem UU{ν:Type}{k:aG}:∀{s:List (aG×ν)}{x:aG×ν},x∈sZ k s→x∈s
 |[],x,h=>h
 |(a,b)::s,x,h=>by
  rw[sZ]at h;split at h
  ·exact sM _ h
  ·rcases jt.1 h with rfl|h
   ·exact List.mem_cons_self
   ·exact sM _ (UU h)
theorem aay{ν:Type}{k:aG}:∀{s:List (aG×ν)},(∀p∈s,p.1≠k)→dh k s=none
 |[],_=>rfl
 |(a,b)::s,h=>by rw[dh,aK (λe=>h (a,b) (by simp) e.symm)];exact aay (λp hp=>h p (by simp [hp]))
theorem abv(k k':aG):∀{s:List (aG×bD)},sX s→dh k (sZ k' s)=if k=k' then none else dh k s
 |[],_=>by simp [sZ,dh]
 |(a,b)::s,h=>by
  unfold sX at h;rw[eY,qt]at h;rw[sZ];by_cases h1:k'=a
  ·subst h1;rw[aO rfl];by_cases h2:k=k'
   ·subst h2;rw[aO rfl];exact aay λp hp e=>h.1 (ia.2 ⟨p,hp,e⟩)
   ·rw[aK h2,dh,aK h2]
  ·rw[aK h1,dh,dh,abv k k' (s:=s) h.2];by_cases h2:k=a
   ·have:k≠k':=λe=>h1 (by rw[←e,h2])
    rw[aO h2,aO h2,aK this]
   ·rw[aK h2,aK h2]
theorem acX{k:aG}{v:bD}:∀{s:List (aG×bD)},sX s→sX (eH k v s)∧∀x∈(eH k v s).map (·.1),x∈s.map (·.1)∨x=k
 |[],_=>⟨by simp [sX,eH],by simp [eH]⟩
 |(a,b)::s,h=>by
  unfold sX at h;rw[eY,qt]at h;rw[eH];split
  ·rename_i e;subst e;exact⟨by unfold sX;rw[eY,qt];exact h,λx hx=>.inl hx⟩
  ·rename_i e;obtain⟨h1,h2⟩:=acX (k:=k) (v:=v) h.2;refine⟨?_,λx hx=>?_⟩
   ·unfold sX;rw[eY,qt];refine⟨λhm=>?_,h1⟩;rcases h2 _ hm with h3|h3
    ·exact h.1 h3
    ·exact e h3.symm
   ·rw[eY]at hx ⊢;rcases jt.1 hx with rfl|hx
    ·exact .inl List.mem_cons_self
    ·rcases h2 x hx with h3|h3
     ·exact .inl (sM _ h3)
     ·exact .inr h3
theorem acW{k:aG}:∀{s:List (aG×bD)},sX s→sX (sZ k s)
 |[],h=>h
 |(a,b)::s,h=>by
  unfold sX at h;rw[eY,qt]at h;rw[sZ];split
  ·exact h.2
  ·unfold sX;rw[eY,qt];refine⟨λhm=>?_,acW h.2⟩;obtain⟨p,hp,e⟩:=ia.1 hm;exact h.1 (ia.2 ⟨p,UU hp,e⟩)
def CK(s:List (aG×bD))(st:List bD):Prop:=sX s∧pO st∧∀k,dh k s=nM st k
theorem amv{n:Int}{s:List (aG×bD)}{st:List bD}(h:CK s st)(m:gX):CK (sK n s m) (yX n st m):=by
 obtain⟨h1,h2,h3⟩:=h;obtain⟨k1,k2,_⟩:=aaw (n:=n) h2 m;unfold sK;refine⟨?_,k1,λk=>?_⟩
 ·split
  ·exact acW h1
  ·exact(acX h1).1
 ·rw[k2 k];split
  ·rw[abv k m.key h1,h3 k]
  ·rw[abw,h3 k]
theorem abg{n:Int}:∀(ms:List gX){s:List (aG×bD)}{st:List bD},CK s st→CK (ms.foldl (sK n) s) (ms.foldl (yX n) st)
 |[],_,_,h=>h
 |m::ms,_,_,h=>abg ms (amv h m)
theorem acp:∀(l:List bE){s:List (aG×bD)}{st:List bD},CK s st→CK (l.foldl (λs c=>c.eB.foldl (sK c.aA) s) s) (l.foldl Ji st)
 |[],_,_,h=>h
 |c::l,_,_,h=>acp l (abg c.eB h)
theorem akW(l:List bE):CK (Gc l) (D7 l):=acp l ⟨List.Pairwise.nil,List.Pairwise.nil,λk=>rfl⟩
theorem apM{l:List bE}(hl:l.length≤bu)(hm:∀c∈l,c.eB.length≤bu):KP l=some (Gc l):=by
 unfold KP Gc;rw[OV (g:=λs c=>c.eB.foldl (sK c.aA) s) (P:=λ_ _=>True) hl trivial (λ_ _ _ _ _=>trivial) ?_]
 ·rfl
 intro i c s hc _;rw[OV (g:=λs m=>sK c.aA s m) (P:=λ_ _=>True) (hm c (dA hc)) trivial (λ_ _ _ _ _=>trivial) ?_]
 ·rfl
 intro j m s hm _;unfold sK;by_cases hr:m.release=true<;>simp [hr]
end
section
open HP
def aqq(n:Int):bE:=⟨n,⟨#[]⟩,0,0,0,0,⟨1,[]⟩,false,-1,[]⟩
def newRow(n:Int):aq:=aq0 (aqq n) .az .az
section
variable {aJ σ : Heap} {R : HP}
end
end
section
open HP
section
variable {aJ σ : Heap} {R : HP}
theorem aoM{α:Type}{c:α→aq}{sz:Nat}{B:aS→Prop}{v:AV}{l:List α}(hc:∀x,lC (c x))(H:Hs B aJ σ (Sl (fl c) sz v l*R)):∃v',A.fin aJ v σ=some (v',aJ)∧A.nn (.s sz) v'=sl sz c l:=by
 obtain⟨v',h1,h2,h3⟩:=LH H hc (aQ _) 7;refine⟨v',P6 (Vd H) h1 (λe=>?_),h3⟩;rcases Bw H with⟨rfl,rfl|rfl,_⟩|⟨id,g,rfl,K⟩
 ·simp [A.bM]at h1;rw[h1]
 ·simp [A.bM]at h1;rw[h1]
 ·obtain⟨k1,k2⟩:=kC K;have:=(bQ.1 k2).1;subst e;omega
end
end
section
open HP
theorem ara{f:Nat}{l:aq}(h:lC l):Fz (.fn f l):=λσ n d=>by cases d<;>simp [A.bM,h σ n]
theorem arc{l:aq}(h:lC l):Fz (.rp l):=λσ n d=>by cases d<;>simp [A.bM,h σ n]
def fmS(st:List (aG×bD)):AV:=yg (λx=>(AV.agg (aX x))) (λx=>(AV.agg (dR x))) st
section
variable {aJ σ : Heap} {R : HP}
end
end
section
open HP
theorem anx{R:Type}{f:aq→Heap→(AX×aq×Heap→Option R)→Option R}{v:aq}{σ:Heap}{K:AX×aq×Heap→Option R}{r:R}(h:∃n,∀m,n≤m→A.Af f m v σ K=some r):A.CO f v σ K=some r:=by
 have hx:∃r,∃n,∀m,n≤m→A.Af f m v σ K=some r:=⟨r,h⟩
 unfold A.CO;rw[dif_pos hx];obtain⟨n,hn⟩:=h;obtain⟨n',hn'⟩:=Classical.choose_spec hx;have a:=hn (n+n') (by omega);have b:=hn' (n+n') (by omega);rw[a]at b;exact b.symm
theorem bounds{P:Nat→Nat→Prop}:∀(n:Nat),(∀j,j<n→∃N,∀m,N≤m→P j m)→∃N,∀j,j<n→∀m,N≤m→P j m
 |0,_=>⟨0,λj h=>by omega⟩
 |n+1,h=>by
  obtain⟨N,hN⟩:=bounds n (λj hj=>h j (by omega));obtain⟨M,hM⟩:=h n (by omega);refine⟨N+M,λj hj m hm=>?_⟩;by_cases e:j=n
  ·subst e;exact hM m (by omega)
  ·exact hN j (by omega) m (by omega)
theorem map_erase{α β:Type}(f:α→β)(l:List α)(j:Nat):(l.map f).eraseIdx j=(l.eraseIdx j).map f:=by rw[List.eraseIdx_eq_take_drop_succ,List.eraseIdx_eq_take_drop_succ,List.map_append,List.map_take,List.map_drop]
theorem apt{α:Type}{l:List α}{j:Nat}(hj:j<l.length):(l[j]::l.eraseIdx j).Perm l:=by
 have e:l=l.take j++l[j]::l.drop (j+1):=by rw[List.getElem_cons_drop,List.take_append_drop]
 rw[List.eraseIdx_eq_take_drop_succ];conv=>rhs;rw[e]
 exact List.perm_middle.symm
theorem TM{α R:Type}{ex:Nat}{enc:α→AV×AV}{it:Nat}{f:aq→Heap→(AX×aq×Heap→Option R)→Option R}{K:AX×aq×Heap→Option R}{r:R}{es:List α}
  (body:aq→Heap→(AX×aq×Heap→Option R)→Option R) (ev:aq→aq)
  (hf:∀v s k,f v s k=A.wA (.op it 0) s λx s'=>(A.ext 0 x).bind λc=>A.cond c (body v s' k) (k (.exit ex,ev v,s')))
  (I:List α→List α→aq→Heap→Prop) (mu:∀d l v s,I d l v s→∃c,s[it]? =some (.it c (l.map enc)))
  (hstep:∀d l v s j p,(d++l).Perm es→I d l v s→l[j]? =some p→∃v' s',(∀k,body v (s.set it (.it [enc p] ((l.eraseIdx j).map enc))) k=k (.normal,v',s'))∧I (d++[p]) (l.eraseIdx j) v' s')
  (hend:∀d v s,d.Perm es→I d [] v s→K (.exit ex,ev v,s)=some r) {v0:aq} {s0:Heap} (h0:I [] es v0 s0):A.CO f v0 s0 K=some r:=by
 have key:∀(n:Nat)(d l:List α)v s,l.length=n→(d++l).Perm es→I d l v s→∃N,∀m,N≤m→A.Af f m v s K=some r:=by
  intro n;induction n with
  |zero=>
   intro d l v s hl hp hI;have:l=[]:=Am hl;subst this;refine⟨1,λm hm=>?_⟩;obtain⟨m',rfl⟩:∃m',m=m'+1:=⟨m-1,by omega⟩
   obtain⟨c,hc⟩:=mu _ _ _ _ hI;rw[A.Af,hf];simp only[A.wA,hc,List.map_nil];exact hend d v s (by simpa using hp) hI
  |succ n ih=>
   intro d l v s hl hp hI;obtain⟨c,hc⟩:=mu _ _ _ _ hI
   have hb:∀j,j<l.length→∃N,∀m,N≤m→∀p,l[j]? =some p→body v (s.set it (.it [enc p] ((l.eraseIdx j).map enc))) (λq=>match q.1 with|.normal=>A.Af f m q.2.1 q.2.2 K|_=>K q)=some r:=by
    intro j hj;have hx:l[j]? =some l[j]:=bR hj;obtain⟨v',s',h1,h2⟩:=hstep d l v s j _ hp hI hx
    have hp2:((d++[l[j]])++l.eraseIdx j).Perm es:=by rw[mm,List.singleton_append];exact((apt hj).append_left d).trans hp
    obtain⟨N,hN⟩:=ih _ _ _ _ (by rw[List.length_eraseIdx,aO hj];omega) hp2 h2;refine⟨N,λm hm p Kf=>?_⟩;rw[hx]at Kf;injection Kf with Kf;subst Kf
    rw[h1];exact hN m hm
   obtain⟨N,hN⟩:=bounds l.length hb;refine⟨N+1,λm hm=>?_⟩;obtain⟨m',rfl⟩:∃m',m=m'+1:=⟨m-1,by omega⟩
   rw[A.Af,hf];cases l with
   |nil=>simp at hl
   |cons e l=>
    simp only[A.wA,hc,eY];refine ap4 0 (by simp) λj hj=>?_
    have hj':j<(e::l).length:=by simpa using hj
    have hx:(e::l)[j]? =some (e::l)[j]:=bR hj'
    have hx2:(enc e::l.map enc)[j]? =some (enc (e::l)[j]):=by rw[←eY,qH,hx];rfl
    have:=hN j hj' m' (by omega) _ hx;simp only[hx2];rw[←eY,map_erase];exact this
 exact anx (key _ [] es v0 s0 rfl (List.Perm.refl _) h0)
def AE(p:aG×bD):AV×AV:=(.agg (aX p.1),.agg (dR p.2))
section
variable {aJ σ : Heap} {R : HP}
end
end
section
open HP
theorem acu{ν:Type}(k:aG)(v:ν):∀s:List (aG×ν),(eH k v s).length≤s.length+1
 |[]=>by simp [eH]
 |(a,b)::s=>by
  rw[eH];split
  ·simp
  ·have:=acu k v s;simp;omega
theorem acs{ν:Type}(k:aG):∀s:List (aG×ν),(sZ k s).length≤s.length
 |[]=>by simp [sZ]
 |(a,b)::s=>by
  rw[sZ];split
  ·simp
  ·have:=acs k s;simp;omega
theorem amC(n:Int)(s:List (aG×bD))(m:gX):(sK n s m).length≤s.length+1:=by
 unfold sK;split
 ·have:=acs m.key s;omega
 ·exact acu _ _ _
theorem aax(n:Int):∀(ms:List gX)(s:List (aG×bD)),(ms.foldl (sK n) s).length≤s.length+ms.length
 |[],s=>aQ _
 |m::ms,s=>by rw[List.foldl_cons];have:=aax n ms (sK n s m);have:=amC n s m;simp;omega
theorem amB{l:List bE}(hm:∀c∈l,c.eB.length≤2000):(Gc l).length≤l.length*2000:=by
 unfold Gc
 have key:∀(l:List bE)(s:List (aG×bD)),(∀c∈l,c.eB.length≤2000)→(l.foldl (λs c=>c.eB.foldl (sK c.aA) s) s).length≤s.length+l.length*2000:=by
  intro l;induction l with
  |nil=>intro s _;simp
  |cons c l ih=>intro s h;rw[List.foldl_cons];have h1:=ih (c.eB.foldl (sK c.aA) s) (λx hx=>h x (by simp [hx]));have h2:=aax c.aA c.eB s;have h3:=h c (by simp);simp only[List.length_cons,gJ];omega
 have:=key l [] hm;simpa using this
section
variable {aJ σ : Heap} {R : HP}
end
end
section
open HP
section
variable {aJ σ : Heap} {R : HP}
theorem anb{α:Type}{c:α→aq}{sz:Nat}{B:aS→Prop}{v:AV}{l:List α}{e:Int}(hc:∀x,lC (c x))(H:Hs B aJ σ (Sl (fl c) sz v l*R)):∃v',A.fin aJ (.aL [v,.ah e]) σ=some (.aL [v',.ah e],aJ)∧A.nn (.s sz) v'=sl sz c l:=by
 obtain⟨v',h1,h2,h3⟩:=LH H hc (aQ _) 7;refine⟨v',P6 (Vd H) (by simp [A.bM,A.gm,h1]) (λe=>?_),h3⟩;rcases Bw H with⟨rfl,rfl|rfl,_⟩|⟨id,g,rfl,K⟩
 ·simp [A.bM]at h1;rw[h1]
 ·simp [A.bM]at h1;rw[h1]
 ·obtain⟨k1,k2⟩:=kC K;have:=(bQ.1 k2).1;subst e;omega
theorem PM{α:Type}{c:α→aq}{sz:Nat}{v:AV}{l:List α}{e:Int}(h:A.nn (.s sz) v=sl sz c l):A.nn (.t [(.s sz),.k]) (.aL [v,.ah e])=.aL [sl sz c l,.ah e]:=by simp only[A.nn,A.dr]at h ⊢;rw[h]
def BA(l:List bE)(n:Int):List bD×Int:=
 if ¬(uj l=0)then([],uj l)else if AF l n=false then([],8)else(D7 (l.take (nQ l n+1)),0)
theorem ahY{l:List bE}(hlen:l.length≤300)(hm:∀c∈l,c.eB.length≤2000):pO (D7 l)∧(D7 l).length≤600000000:=by obtain⟨b1,b2⟩:=ajV (l:=l) (λc hc=>by have:=hm c hc;omega) 0 [] List.Pairwise.nil (jQ _);exact⟨b1,by unfold D7;omega⟩
end
end
end Go.Proofs.YtooknfkholjpbaaGreat
