/- Parts of the proof of PickUnitsMatchSpec, in order. -/
import Derived.WalkSpells
import Derived.ProofKit
import Derived.OpenShut
import Derived.Deep.QuietTactic
import Derived.BigQuiet
import Derived.Lib.Hide
import Derived.Deep.RegionHeld3
import Derived.Deep.Slices
import Derived.Lib.SmallJoins
import Derived.Test.YtgjglkakhmikjaaKPickUnitsMatchSpec4
namespace Go.Proofs.Ytgjglkakhmikjaa
set_option linter.unusedVariables false
set_option linter.unusedSimpArgs false
set_option linter.unusedSectionVars false
set_option maxRecDepth 1000000
noncomputable section
open AV renaming om->V9,op->UX,bool->χ,sl->U0,aJ->Zz,aC->ZK,lbx->Z1,agg->Y8,ah->ε
open List renaming sum_cons->Xg,getD->RU,range'_succ->aqq,take_length->ZP,mem_filter->Ve,length_cons->ZT,length_singleton->Zy,range_eq_range'->TF,length->Ym,mem_singleton->Yg,mem_cons_self->ZA,all_cons->ap8,range'->apN,mem_append_left->SB,take_append_drop->Wq,take_add_one->Z9,length_filter_le->Wf,length_append->PU,getElem?_take->Vj,pairwise_iff_getElem->aqI,map_append->Zw,foldl_cons->Wv,length_map->Zk,flatMap_cons->apQ,length_take_le'->R8,map->Td,getD_eq_getElem?_getD->VY,filter_cons->Sn,mem_flatten->apY
open AX renaming normal->Λ,ret->Ω,exit->φ
open Bool renaming false_and->Xp,not_true->YV,false->ι,false_eq_true->ZD,true->η
open A renaming cells->Φ,storeAt->ZX,dL->Uj,append->ZI,cZ->Ug,aQ->Zv,entries->R2,aS->Zp,cell->ZS,nn->S7,dh->SN,ay->Δ,cond->ξ,add->Zn,bA->X0,dF->Xu,deref->Γ,aR->Z0,fin->wh,lss->ZN,loop->Zo,tab->Z5,wrap->Ξ,not->ZR,quiet->Zu,cC->RV
open Nat renaming le_succ_of_le->Sp,le_trans->ZL,zero_add->Z3
open Decidable renaming not_not->T6
open Option renaming toList_some->YA,some->δ,isSome_iff_exists->apS,getD_some->Sk,getD_none->UG,none->μ
open Go.IntKind renaming i64->Θ
open aP renaming box->apF,map->ZH
open Go.World renaming cell?->apP
open IntKind renaming i64->Θ
open Go.DataW renaming trod_struct->Sw
section
section
variable {f : Int -> List Int} {V : List Int} {a n : Int}
theorem I4(hV:∀n k,k∈f n->k∈V):∀(r st seen:List Int),gA f V a (δ (n,r)) st seen->seen.length+jk V seen<=V.length->
  gA f V a μ (fM r st seen).1 (fM r st seen).2/\iA V (fM r st seen).1 (fM r st seen).2<=iA V st seen/\(fM r st seen).2.length+jk V (fM r st seen).2<=V.length
 |[],st,seen,H,hK=>⟨H.done,bR _,hK⟩
 |k::r,st,seen,H,hK=>by
  rw[fM];by_cases hk:k∈seen
  ·rw[aH hk];exact I4 hV r st seen (H.skip hk) hK
  ·rw[aF hk];have YO:k∈V:=hV n k ((H.here n _ rfl).2 k (by simp));have hlt:=zE YO hk;obtain⟨h1,h2,h3⟩:=I4 hV r (st++[k]) (seen++[k]) (H.push hk YO) (by rw[PU,Zy];omega);refine⟨h1,ZL h2 ?_,h3⟩;unfold iA;rw[PU,Zy];omega
theorem apd(hV:∀n k,k∈f n->k∈V):∀(m:Nat)(st seen:List Int),gA f V a μ st seen->iA V st seen<=m->seen.length+jk V seen<=V.length->gA f V a μ [] (xp f m st seen)/\(xp f m st seen).length<=V.length
 |0,st,seen,H,hM,hK=>by have:st=[]:=tE (by unfold iA at hM;omega);subst this;exact⟨H,by show seen.length<=_;omega⟩
 |m+1,st,seen,H,hM,hK=>by
  rcases List.eq_nil_or_concat st with rfl|⟨st',n,rfl⟩
  ·rw[Vx];exact⟨H,by omega⟩
  ·rw[List.concat_eq_append]at *
   rw[Uz];obtain⟨h1,h2,h3⟩:=I4 hV (f n) st' seen (H.pop (λx=>by simp [or_comm]) (by simp)) hK;exact apd hV m _ _ h1 (by unfold iA at hM h2 ⊢;simp at hM;omega) h3
theorem an0(hV:∀n k,k∈f n->k∈V):∀(m:Nat)(st seen:List Int),gA f V a μ st seen->iA V st seen<=m->seen.length+jk V seen<=V.length->gA f V a μ [] (yH f m st seen)/\(yH f m st seen).length<=V.length
 |0,st,seen,H,hM,hK=>by have:st=[]:=tE (by unfold iA at hM;omega);subst this;exact⟨H,by show seen.length<=_;omega⟩
 |m+1,[],seen,H,hM,hK=>by rw[Uy];exact⟨H,by omega⟩
 |m+1,n::st',seen,H,hM,hK=>by rw[yH];obtain⟨h1,h2,h3⟩:=I4 hV (f n) st' seen (H.pop (λx=>by simp) (by simp)) hK;exact an0 hV m _ _ h1 (by unfold iA at hM h2 ⊢;simp at hM;omega) h3
end
theorem SV(U:List (Int×List Int))(a x:Int):x∈qY U a↔mB (nx U) a x:=
 (apd (V:=iN U) (λ_ _ h=>IP h) _ [a] [] .start (by have:=uS (iN U) [];unfold iA;simp;omega) (by have:=uS (iN U) [];simp;omega)).1.fin x
theorem SW(l:List bl)(a:Int):gA (fV l) (fI l) a μ [] (td l a)/\(td l a).length<=(fI l).length:=
 an0 (λn k h=>by rw[IN]at h;rw[Ic];exact IP h) _ [a] [] .start (by have:=uS (fI l) [];unfold iA;simp;omega) (by have:=uS (fI l) [];simp;omega)
theorem ace(l:List bl)(a x:Int):x∈td l a↔x∈qY (gp l) a:=by rw[(SW l a).1.fin x,SV,show fV l=nx (gp l)from funext (IN l)]
theorem aew(l:List bl)(n:Int):(bh n (gp l)).isSome=(jE l n).isSome:=by
 unfold gp jE;induction l with
 |nil=>rfl
 |cons g l ih=>
  rw[dH,bh,List.find?_cons];by_cases h:g.aE=n
  ·rw[aH h.symm,fF h];rfl
  ·rw[aF (Ne.symm h),gq h];exact ih
theorem afm{l:List bl}(hn:(l.map bl.aE).Nodup){g:bl}(hg:g∈l):(bh g.aE (gp l)).getD []=eN 2 g.pick:=by
 unfold gp;induction l with
 |nil=>cases hg
 |cons x l ih=>
  rw[dH,zN]at hn;rw[dH,bh];rcases fA.1 hg with rfl|hg
  ·rw[aH rfl];rfl
  ·rw[aF (λe=>hn.1 (i6.2 ⟨g,hg,e⟩))];exact ih hn.2 hg
theorem VM{l:List Int}(h:∀j (hj:j+1<l.length),l[j]<l[j+1]):l.Pairwise (·<·):=by
 rw[aqI];intro i j hi hj hij;obtain⟨d,rfl⟩:∃d,j=i+1+d:=⟨j-i-1,by omega⟩
 clear hij;induction d with
 |zero=>exact h i hj
 |succ d ih=>exact Int.lt_trans (ih (by omega)) (h (i+1+d) hj)
def sG(l:List bl)(i:Nat)(g:bl):Int:=if ¬(aU g.aE 1 999=η)then 1 else if 0<i/\g.aE<=(pv l i).aE then 7 else oS g.pick
def sO(l:List bl):Prop:=l.length<=bf/\(∀g∈l,bH g.pick<=2000000)/\(fI l).length+1<=cu
theorem agZ{l:List bl}(h1:l.length<=bf)(h2:(l.map λg=>bH g.pick).sum<=1048576):sO l:=by
 have hm:∀(l:List bl)g,g∈l->bH g.pick<=(l.map λg=>bH g.pick).sum:=by
  intro l;induction l with
  |nil=>intro g hg;cases hg
  |cons x l ih=>
   intro g hg;rw[dH,Xg];rcases fA.1 hg with rfl|hg
   ·omega
   ·have:=ih g hg;omega
 have hv:∀l:List bl,(fI l).length<=(l.map λg=>bH g.pick).sum:=by
  intro l;unfold fI;induction l with
  |nil=>simp
  |cons x l ih=>rw[apQ,PU,dH,Xg];have:=BZ 2 x.pick;omega
 refine⟨h1,λg hg=>ZL (hm l g hg) (by omega),?_⟩;have:=hv l;unfold cu;omega
theorem Tl{p:aK}(h:bH p<=2000000):BN p=δ (oS p):=by
 unfold BN oS;rw[nB h,nB h,aO,aO];by_cases hc:200<bH p\/12<eu p
 ·rw[aH hc,aH (by simp;omega)]
 ·rw[aF hc,aF (by simp;omega)]
theorem aoa{p:aK}(h:bH p<=2000000):B4 p=δ (oS p):=by
 unfold B4 oS;rw[nB ⟨h,rfl⟩,nB h,aO,aO];have hl:=ad4 p;by_cases hc:200<bH p\/12<eu p
 ·rw[aH hc,aH (by have:=hl.2 hc;simp;omega)]
 ·rw[aF hc,aF (by have:=λk=>hc (hl.1 k);simp;omega)]
theorem Uw{l:List bl}(h:gR (sG l) l 0=0):(l.map bl.aE).Nodup:=by
 have h0:=(D6 l 0).1 h
 have:(l.map bl.aE).Pairwise (·<·):=by
  refine VM λj hj=>?_
  rw[Zk]at hj;have hx:l[j+1]? =δ l[j+1]:=dg hj;have h1:=h0 (j+1) _ hx;unfold sG at h1;rw[Z3]at h1;have hp:pv l (j+1)=l[j]:=by unfold pv;simp [RU,dg (by omega:j<l.length)]
  rw[hp]at h1;split at h1
  ·cases h1
  ·split at h1
   ·cases h1
   ·rename_i q;simp only[List.getElem_map];by_cases hq:l[j].aE<l[j+1].aE
    ·exact hq
    ·exact absurd ⟨by omega,by omega⟩ q
 exact this.imp λh=>Int.ne_of_lt h
def lI (l:List bl):Int:=
 if 200<l.length then 2 else if gR (sG l) l 0≠0 then gR (sG l) l 0
 else if gR (λ_ g=>gR (λ_ n=>if(jE l n).isSome then 0 else 8) (eN 2 g.pick) 0) l 0≠0 then gR (λ_ g=>gR (λ_ n=>if(jE l n).isSome then 0 else 8) (eN 2 g.pick) 0) l 0
 else gR (λ_ g=>if g.aE∈qY (gp l) g.aE then 11 else 0) l 0
theorem Xf{q:aK->Option Int}{l:List bl}{i:Nat}{x:bl}(hl:l.length<=bf)(hx:l[i]? =δ x)(hq:q x.pick=δ (oS x.pick)):(if(!(aU x.aE 1 999))=η then δ (.ret 1)else(if decide (0<(i:Int))=η then sk l (Θ.wrap ((i:Int) -1))else δ default).bind λx9=>
   if((decide (0<(i:Int)))&&(decide (x.aE<=x9.aE)))=η then δ (.ret 7)else(q x.pick).bind λfH=>if ¬(fH=0)then δ (.ret fH)else δ (.go ()):Option (Lr Unit Unit Int))=δ (if sG l i x=0 then .go ()else .ret (sG l i x)):=by
 rw[EA hx hl,aO,hq,aO];unfold sG;cases hw:aU x.aE 1 999
 ·simp
 ·by_cases hp:0<i/\x.aE<=(pv l i).aE
  ·simp [hp]
  ·have:¬((decide (0<(i:Int)))&&(decide (x.aE<=(pv l i).aE)))=η:=by simp only[fy,decide_eq_true_eq];omega
   rw[aF this];simp only[YV,ZD,if_false,not_true_eq_false,aF hp];by_cases hc:oS x.pick=0<;>simp [hc]
theorem ae2{l:List bl}(h:sO l):(iN (gp l)).length+1<=cu:=by rw[<-Ic];exact h.2.2
theorem Uv{l:List bl}(h:sO l){g:bl}(hg:g∈l):(eN 2 g.pick).length<=bf:=by have:=BZ 2 g.pick;have:=h.2.1 g hg;unfold bf;omega
theorem aft(n:Int)(S:List Int):(S.any λx=>decide (n=x))=decide (n∈S):=by rw[kE];simp
theorem aaW{l:List bl}(h:sO l):DD l=δ (lI l):=by
 unfold DD lI;by_cases h2:200<l.length
 ·rw[aH (by omega),aH h2]
 ·rw[aF (by omega),aF h2];rw[qT (f:=sG l) h.1 (λi x hx=>Xf h.1 hx (Tl (h.2.1 x (ct hx)))) rfl];by_cases h1:gR (sG l) l 0=0
  ·rw[aH h1,aF (λk=>k h1)];have hn:=Uw h1;rw[nB ⟨hn,h.2.1,h.1⟩,aO]
   rw[qT (f:=λ_ g=>gR (λ_ n=>if(jE l n).isSome then 0 else 8) (eN 2 g.pick) 0) h.1 (λi x hx=>by
    have hm:=ct hx;simp only[afm hn hm]
    rw[qT (f:=λ_ n=>if(jE l n).isSome then 0 else 8) (Uv h hm) (λj n _=>by
     rw[aew];cases(jE l n).isSome<;>rfl) rfl]
    exact HZ _) rfl]
   by_cases h3:gR (λ_ g=>gR (λ_ n=>if(jE l n).isSome then 0 else 8) (eN 2 g.pick) 0) l 0=0
   ·rw[aH h3,aF (λk=>k h3)]
    rw[qT (f:=λ_ g=>if g.aE∈qY (gp l) g.aE then 11 else 0) h.1 (λi x hx=>by
     rw[nB (ae2 h),aO,Tc]
     by_cases hr:x.aE∈qY (gp l) x.aE<;>simp [hr]) rfl]
    split
    ·rename_i q;rw[q]
    ·rfl
   ·rw[aF h3,aH h3]
  ·rw[aF h1,aH h1]
theorem aaX{l:List bl}(h:sO l):DG l=δ (lI l):=by
 unfold DG lI;by_cases h2:200<l.length
 ·rw[aH (by omega),aH h2]
 ·rw[aF (by omega),aF h2];rw[qT (f:=sG l) h.1 (λi x hx=>Xf h.1 hx (aoa (h.2.1 x (ct hx)))) rfl];by_cases h1:gR (sG l) l 0=0
  ·rw[aH h1,aF (λk=>k h1)]
   rw[qT (f:=λ_ g=>gR (λ_ n=>if(jE l n).isSome then 0 else 8) (eN 2 g.pick) 0) h.1 (λi x hx=>by
    have hm:=ct hx;simp only[nB (h.2.1 x hm),aO]
    rw[qT (f:=λ_ n=>if(jE l n).isSome then 0 else 8) (Uv h hm) (λj n _=>by
     rw[HI l h.1 n,aO];cases(jE l n).isSome<;>rfl) rfl]
    exact HZ _) rfl]
   by_cases h3:gR (λ_ g=>gR (λ_ n=>if(jE l n).isSome then 0 else 8) (eN 2 g.pick) 0) l 0=0
   ·rw[aH h3,aF (λk=>k h3)]
    rw[qT (f:=λ_ g=>if g.aE∈qY (gp l) g.aE then 11 else 0) h.1 (λi x hx=>by
     have hL:=(SW l x.aE).2;have hb:=h.2.2;rw[nB ⟨h.1,h.2.1,h.2.2⟩,aO,nB (by unfold cu at hb;unfold bf;omega),aO,aft];have e:=ace l x.aE x.aE;by_cases hr:x.aE∈qY (gp l) x.aE
     ·simp [hr,e.2 hr]
     ·have hr':¬x.aE∈td l x.aE:=λk=>hr (e.1 k)
      simp [hr,hr']) rfl]
    split
    ·rename_i q;rw[q]
    ·rfl
   ·rw[aF h3,aH h3]
  ·rw[aF h1,aH h1]
theorem MG{l:List bl}(h:lI l=0):l.length<=200:=by
 unfold lI at h;split at h
 ·cases h
 ·omega
theorem acR{l:List bl}(h:lI l=0):(l.map bl.aE).Nodup:=by
 unfold lI at h;split at h
 ·cases h
 ·split at h
  ·rename_i q;exact absurd h q
  ·rename_i q;exact Uw (by simpa using q)
theorem aeM(l:List Int)(hl:l.length<=bf):Bv l l=δ η:=by
 unfold Bv;rw[aF (λk=>k rfl),It (λ_=>()) hl rfl]
 ·rfl
 ·intro i x hx;rw[VE (by omega) (by simpa using hx),aO,aF (λk=>k rfl)]
end
section
mutual
theorem Ea(k x:Int):∀p:aK,(k,x)∈jB p↔(k=2\/k=3)/\x∈eN k p
 |.mk kd f t l=>by
  rw[jB,eN,fB,fB,SJ k x l];by_cases h:kd=k
  ·subst h;by_cases h2:kd=2\/kd=3
   ·simp [h2]
   ·simp [h2]
  ·have h1:¬k=kd:=λe=>h e.symm
   by_cases h2:kd=2\/kd=3
   ·simp [h,h1,h2]
   ·simp [h,h2]
theorem SJ(k x:Int):∀l:List aK,(k,x)∈iL l↔(k=2\/k=3)/\x∈lF k l
 |[]=>by simp [iL,lF]
 |p::l=>by
  rw[iL,lF,fB,fB,Ea k x p,SJ k x l];constructor
  ·rintro(h|h)
   ·exact⟨h.1,.inl h.2⟩
   ·exact⟨h.1,.inr h.2⟩
  ·rintro⟨h,h'|h'⟩
   ·exact .inl ⟨h,h'⟩
   ·exact .inr ⟨h,h'⟩
end
theorem ac1{k x:Int}{p:aK}(h:(k,x)∈jB p):k=2\/k=3:=((Ea k x p).1 h).1
theorem LF{k:Int}{q:aK}{x:Int}:∀{l:List aK},q∈l->x∈eN k q->x∈lF k l
 |p::l,h,hx=>by
  rw[lF,fB];rcases fA.1 h with rfl|h
  ·exact .inl hx
  ·exact .inr (LF h hx)
section
variable (gs : List (Int × aK)) (ps : List (Int × List Int))
def ru(f:aK->List Int->Bool×List Int)(st:Bool×List Int)(x:Int×Int):Bool×List Int:=
 if st.1=η then st else if x.1=3 then((bh x.2 ps).isNone,st.2)
 else match bh x.2 gs with
  |none=>(η,st.2)
  |some g=>if x.2∈st.2 then st else f g (st.2++[x.2])
def iZ:Nat->aK->List Int->Bool×List Int
 |0,_,S=>(ι,S)
 |n+1,p,S=>(jB p).foldl (ru gs ps (iZ n)) (ι,S)
def jF:Nat->aK->Bool
 |0,_=>ι
 |n+1,p=>((eN 3 p).all λx=>(bh x ps).isSome)&&((eN 2 p).all λx=>match bh x gs with|none=>ι|some g=>jF n g)
def Dp:Nat->aK->Prop
 |0,_=>False
 |n+1,p=>∀x∈eN 2 p,∀g,bh x gs=δ g->Dp n g
def wD(l:List (Int×Int))(S:List Int):Prop:=∀x∈l,if x.1=3 then(bh x.2 ps).isSome=η else(bh x.2 gs).isSome=η/\x.2∈S
def Pu(S0 S:List Int):Prop:=∀y∈S,y∉S0->∃g,bh y gs=δ g/\wD gs ps (jB g) S
def zO(x:Int×Int):Prop:=if x.1=3 then bh x.2 ps=μ else ∀g,bh x.2 gs=δ g->∀m,jF gs ps m g=ι
theorem wD.mono{l:List (Int×Int)}{S S':List Int}(h:wD gs ps l S)(hs:∀x∈S,x∈S'):wD gs ps l S':=by
 intro x hx;have:=h x hx;split
 ·rename_i q;rw[aH q]at this;exact this
 ·rename_i q;rw[aF q]at this;exact⟨this.1,hs _ this.2⟩
theorem Ix(f:aK->List Int->Bool×List Int)(S:List Int):∀l:List (Int×Int),l.foldl (ru gs ps f) (η,S)=(η,S)
 |[]=>rfl
 |x::l=>by rw[Wv,show ru gs ps f (η,S) x=(η,S)from aH rfl,Ix f S l]
theorem MO{S S':List Int}(h:∀x∈S,x∈S'):∀V:List Int,jk V S'<=jk V S
 |[]=>bR _
 |x::V=>by
  have:=MO h V;unfold jk at this ⊢;simp only[Sn];by_cases h1:x∈S
  ·rw[aF (by simp [h x h1]),aF (by simp [h1])];exact this
  ·by_cases h2:x∈S'
   ·rw[aF (by simp [h2]),aH (by simp [h1]),ZT];omega
   ·rw[aH (by simp [h2]),aH (by simp [h1]),ZT,ZT];omega
theorem M1{k:Int}{g:aK}(h:bh k gs=δ g):k∈gs.map (·.1):=i6.2 ⟨(k,g),HS h,rfl⟩
theorem UR{n:Nat}{p:aK}{x:Int×Int}(hx:x∈jB p)(hb:zO gs ps x):jF gs ps n p=ι:=by
 cases n with
 |zero=>rfl
 |succ n=>
  obtain⟨k,y⟩:=x;obtain⟨h1,h2⟩:=(Ea k y p).1 hx;unfold zO at hb;rw[jF,Bool.and_eq_false_iff];by_cases h3:k=3
  ·subst h3;simp only[if_true]at hb;left;rw[List.all_eq_false];exact⟨y,h2,by rw[hb];decide⟩
  ·simp only[h3,if_false]at hb;right;have h4:k=2:=by rcases h1 with h|h;exact h;exact absurd h h3
   subst h4;rw[List.all_eq_false];refine⟨y,h2,?_⟩;cases hg:bh y gs with
   |none=>simp
   |some g=>simp [hb g hg n]
theorem Mk:∀(n:Nat)(p:aK)(S:List Int),jk (gs.map (·.1)) S<n->
  (∀x∈S,x∈(iZ gs ps n p S).2)/\((iZ gs ps n p S).1=ι->wD gs ps (jB p) (iZ gs ps n p S).2/\Pu gs ps S (iZ gs ps n p S).2)/\((iZ gs ps n p S).1=η->∃x∈jB p,zO gs ps x)
 |0,p,S,h=>by omega
 |n+1,p,S,h=>by
  have hf:∀(l:List (Int×Int))(S:List Int),(∀x∈l,x.1=2\/x.1=3)->jk (gs.map (·.1)) S<n+1->∀r,l.foldl (ru gs ps (iZ gs ps n)) (ι,S)=r->
    (∀x∈S,x∈r.2)/\(r.1=ι->wD gs ps l r.2/\Pu gs ps S r.2)/\(r.1=η->∃x∈l,zO gs ps x):=by
   intro l;induction l with
   |nil=>rintro S _ _ r rfl;exact⟨λx hx=>hx,λ_=>⟨λx hx=>(by cases hx),λy hy hn=>absurd hy hn⟩,λh=>by cases h⟩
   |cons x l ih=>
    rintro S hl hS r hr;have hl':∀y∈l,y.1=2\/y.1=3:=λy hy=>hl y (jU _ hy)
    rw[Wv]at hr;unfold ru at hr;simp only[ZD,if_false]at hr;by_cases h3:x.1=3
    ·rw[aH h3]at hr;cases hp:bh x.2 ps with
     |none=>rw[hp]at hr;have mE:r=(η,S):=hr.symm.trans (Ix gs ps (iZ gs ps n) S l);subst mE;exact⟨λy hy=>hy,λh=>(by cases h),λ_=>⟨x,ZA,by unfold zO;rw[aH h3];exact hp⟩⟩
     |some v=>
      rw[hp]at hr;obtain⟨q1,q2,q3⟩:=ih S hl' hS r hr;refine⟨q1,λh=>⟨λy hy=>?_,(q2 h).2⟩,λh=>?_⟩
      ·rcases fA.1 hy with rfl|hy
       ·rw[aH h3,hp];rfl
       ·exact(q2 h).1 y hy
      ·obtain⟨y,hy,hb⟩:=q3 h;exact⟨y,jU _ hy,hb⟩
    ·rw[aF h3]at hr;cases hg:bh x.2 gs with
     |none=>simp only[hg]at hr;have mE:r=(η,S):=hr.symm.trans (Ix gs ps (iZ gs ps n) S l);subst mE;exact⟨λy hy=>hy,λh=>(by cases h),λ_=>⟨x,ZA,by unfold zO;rw[aF h3];intro g hg';rw[hg]at hg';cases hg'⟩⟩
     |some g=>
      simp only[hg]at hr;by_cases hx:x.2∈S
      ·rw[aH hx]at hr;obtain⟨q1,q2,q3⟩:=ih S hl' hS r hr;refine⟨q1,λh=>⟨λy hy=>?_,(q2 h).2⟩,λh=>?_⟩
       ·rcases fA.1 hy with rfl|hy
        ·rw[aF h3,hg];exact⟨rfl,q1 _ hx⟩
        ·exact(q2 h).1 y hy
       ·obtain⟨y,hy,hb⟩:=q3 h;exact⟨y,jU _ hy,hb⟩
      ·rw[aF hx]at hr;have hlt:=zE (M1 gs hg) hx;obtain⟨p1,p2,p3⟩:=Mk n g (S++[x.2]) (by omega);generalize iZ gs ps n g (S++[x.2])=w at hr p1 p2 p3;obtain⟨b,S2⟩:=w;have P3:∀y∈S,y∈S2:=λy hy=>p1 y (SB _ hy)
       cases b with
       |true=>
        have mE:r=(η,S2):=hr.symm.trans (Ix gs ps (iZ gs ps n) S2 l);subst mE;refine⟨P3,λh=>(by cases h),λ_=>⟨x,ZA,?_⟩⟩;unfold zO;rw[aF h3];intro g' hg' m;rw[hg]at hg';injection hg' with hg'
        subst hg';obtain⟨y,hy,hb⟩:=p3 rfl;exact UR gs ps hy hb
       |false=>
        obtain⟨p4,p5⟩:=p2 rfl;obtain⟨q1,q2,q3⟩:=ih S2 hl' (Nat.lt_of_le_of_lt (MO P3 _) hS) r hr;refine⟨λy hy=>q1 y (P3 y hy),λh=>⟨λy hy=>?_,λy hy hn=>?_⟩,λh=>?_⟩
        ·rcases fA.1 hy with rfl|hy
         ·rw[aF h3,hg];exact⟨rfl,q1 _ (p1 _ (by simp))⟩
         ·exact(q2 h).1 y hy
        ·by_cases h2:y∈S2
         ·by_cases apj:y=x.2
          ·subst apj;exact⟨g,hg,wD.mono gs ps p4 q1⟩
          ·obtain⟨g',e1,e2⟩:=p5 y h2 (by simp [hn,apj]);exact⟨g',e1,wD.mono gs ps e2 q1⟩
         ·exact(q2 h).2 y hy h2
        ·obtain⟨y,hy,hb⟩:=q3 h;exact⟨y,jU _ hy,hb⟩
  exact hf (jB p) S (λx hx=>ac1 (k:=x.1) (x:=x.2) hx) h _ rfl
theorem aoL{S:List Int}(hc:Pu gs ps [] S):∀(m:Nat)(q:aK),Dp gs m q->wD gs ps (jB q) S->jF gs ps m q=η
 |0,q,hd,_=>hd.elim
 |m+1,q,hd,hn=>by
  rw[Dp]at hd;rw[jF,fy,jC,jC];refine⟨λx hx=>?_,λx hx=>?_⟩
  ·have:=hn (3,x) ((Ea 3 x q).2 ⟨.inr rfl,hx⟩);simpa using this
  ·have h1:=hn (2,x) ((Ea 2 x q).2 ⟨.inl rfl,hx⟩);simp only[show ¬(2:Int)=3 by decide,if_false]at h1;obtain⟨h1,h2⟩:=h1;obtain⟨g,hg⟩:=apS.1 h1;simp only[hg];obtain⟨g',e1,e2⟩:=hc x h2 (by simp);rw[hg]at e1;injection e1 with e1
   subst e1;exact aoL hc m g (hd x hx g hg) e2
theorem ae1{n m:Nat}{p:aK}(hn:gs.length<n)(hd:Dp gs m p):(iZ gs ps n p []).1=!jF gs ps m p:=by
 have hu:jk (gs.map (·.1)) []<n:=by have:=uS (gs.map (·.1)) [];rw[Zk]at this;omega
 obtain⟨_,h2,h3⟩:=Mk gs ps n p [] hu;cases hb:(iZ gs ps n p []).1 with
 |true=>obtain⟨x,hx,hb'⟩:=h3 hb;rw[UR gs ps hx hb'];rfl
 |false=>obtain⟨e1,e2⟩:=h2 hb;rw[aoL gs ps e2 m p hd e1];rfl
theorem WI{gs:List (Int×aK)}:∀{n:Nat}{p:aK},Dp gs n p->∀{m:Nat},n<=m->Dp gs m p
 |0,p,h,m,_=>h.elim
 |n+1,p,h,0,hm=>by omega
 |n+1,p,h,m+1,hm=>by rw[Dp]at h ⊢;exact λx hx g hg=>WI (h x hx g hg) (by omega)
theorem Nl{gs:List (Int×aK)}{ps:List (Int×List Int)}:∀{n:Nat}{p:aK},Dp gs n p->∀{m:Nat},n<=m->jF gs ps m p=jF gs ps n p
 |0,p,h,m,_=>h.elim
 |n+1,p,h,0,hm=>by omega
 |n+1,p,h,m+1,hm=>by
  rw[Dp]at h;rw[jF,jF];congr 1;rw[kE,jC,jC];refine⟨λk x hx=>?_,λk x hx=>?_⟩
  ·have:=k x hx;cases hg:bh x gs with
   |none=>rw[hg]at this;cases this
   |some g=>rw[hg]at this;exact(Nl (h x hx g hg) (by omega)).symm.trans this
  ·have:=k x hx;cases hg:bh x gs with
   |none=>rw[hg]at this;cases this
   |some g=>rw[hg]at this;exact(Nl (h x hx g hg) (by omega)).trans this
theorem aeb{p:aK}(h:iq p=0):nF p.kind p.bg p.to p.args.length=0/\∀a∈p.args,iq a=0:=by
 have hl:∀l:List aK,tD l=0->∀a∈l,iq a=0:=by
  intro l;induction l with
  |nil=>intro _ a ha;cases ha
  |cons x l ih=>
   intro h a ha;rw[tD]at h;split at h
   ·rcases fA.1 ha with rfl|ha
    ·assumption
    ·exact ih h a ha
   ·rename_i q;exact absurd h q
 cases p with
 |mk k f t l=>
  rw[iq]at h;split at h
  ·rename_i q;exact⟨q,hl l h⟩
  ·rename_i q;exact absurd h q
def EH(p:aK):Prop:=bH p<=200/\eu p<=12/\iq p=0
theorem Er{p:aK}(h:oS p=0):EH p:=by
 unfold oS at h;split at h
 ·cases h
 ·rename_i q;exact⟨by omega,by omega,h⟩
theorem adF(p:aK):p.args.length<=bH p:=by
 have:∀l:List aK,l.length<=eo l:=by
  intro l;induction l with
  |nil=>simp [eo]
  |cons x l ih=>
   rw[eo,ZT];have:1<=bH x:=by rw[uH];omega
   omega
 rw[uH];have:=this p.args;omega
theorem W4(M:Nat):∀(d:Nat)(p:aK),eu p<=d->bH p<=200->iq p=0->(∀x∈eN 3 p,(bh x ps).isSome=η)->(∀x∈eN 2 p,∃g,bh x gs=δ g/\Rk gs ps M g)->Rk gs ps (M+d) p
 |0,p,h,_,_,_,_=>by have:=B8 p;omega
 |d+1,p,h,hs,hc,h3,h2=>by
  obtain⟨c1,c2⟩:=aeb hc;rw[<-kU,Rk];refine⟨c1,by have:=adF p;omega,λa ha=>?_,λhk=>?_,λhk=>?_⟩
  ·have hsz:=Ec ha;have hdp:=zm ha;rw[Cg]at h;refine W4 M d a (by omega) (by omega) (c2 a ha) (λx hx=>h3 x ?_) (λx hx=>h2 x ?_)
   ·rw[Eb,fB];exact .inr (LF ha hx)
   ·rw[Eb,fB];exact .inr (LF ha hx)
  ·obtain⟨g,e1,e2⟩:=h2 p.bg (by rw[Eb,aH hk];simp);exact⟨g,e1,Nx gs ps e2 (by omega)⟩
  ·exact apS.1 (h3 p.bg (by rw[Eb,aH hk];simp))
theorem Vz(YN:∀k g,bh k gs=δ g->EH g):∀(m:Nat)(p:aK),EH p->jF gs ps m p=η->Rk gs ps (m*12) p
 |0,p,_,h=>by cases h
 |m+1,p,hp,h=>by
  rw[jF,fy,jC,jC]at h;rw[fQ,Nat.one_mul];refine W4 gs ps (m*12) 12 p hp.2.1 hp.1 hp.2.2 h.1 λx hx=>?_
  have:=h.2 x hx;cases hg:bh x gs with
  |none=>rw[hg]at this;cases this
  |some g=>rw[hg]at this;exact⟨g,rfl,Vz YN m g (YN x g hg) this⟩
end
theorem VV{P Q:Int->Bool}:∀{V:List Int},(∀x∈V,P x=η->Q x=η)->∀{z:Int},z∈V->Q z=η->P z=ι->(V.filter P).length<(V.filter Q).length
 |[],_,z,hz,_,_=>by cases hz
 |x::V,h,z,hz,h1,h2=>by
  have hle:∀V:List Int,(∀x∈V,P x=η->Q x=η)->(V.filter P).length<=(V.filter Q).length:=by
   intro V;induction V with
   |nil=>intro _;exact bR _
   |cons y V ih=>
    intro hV;have:=ih λy hy=>hV y (jU _ hy)
    simp only[Sn];cases hp:P y
    ·cases hq:Q y
     ·simpa using this
     ·simp;omega
    ·rw[hV y ZA hp];simpa using this
  have h':∀y∈V,P y=η->Q y=η:=λy hy=>h y (jU _ hy)
  simp only[Sn];by_cases Y5:z=x
  ·subst Y5;rw[h1,h2];have:=hle V h';simp;omega
  ·have hzV:z∈V:=by simpa [Y5]using hz
   have:=VV h' hzV h1 h2;cases hp:P x
   ·cases hq:Q x
    ·simpa using this
    ·simp;omega
   ·rw[h x ZA hp];simpa using this
theorem mB.trans{f:Int->List Int}{x y z:Int}(h:mB f x y)(k:mB f y z):mB f x z:=by
 induction k with
 |one q=>exact .step h q
 |step _ q ih=>exact .step ih q
theorem ags(gl:List bl)(x:Int):bh x (gp gl)=(bh x (cG gl)).map (eN 2):=by
 unfold gp cG;induction gl with
 |nil=>rfl
 |cons g l ih=>
  rw[dH,dH,bh,bh];by_cases h:x=g.aE
  ·rw[aH h,aH h];rfl
  ·rw[aF h,aF h];exact ih
open Classical in
theorem Uf{gl:List bl}(hl:∀g∈gl,¬mB (nx (gp gl)) g.aE g.aE):∀(n:Nat)(x:Int)(g:aK),bh x (cG gl)=δ g->((gl.map bl.aE).filter λy=>decide (mB (nx (gp gl)) x y)).length<n->Dp (cG gl) n g
 |0,x,g,_,h=>by omega
 |n+1,x,g,hx,h=>by
  rw[Dp];intro y hy g' hg';have Qj:nx (gp gl) x=eN 2 g:=by unfold nx;rw[ags,hx];rfl
  have hxy:mB (nx (gp gl)) x y:=.one (by rw[Qj];exact hy)
  have Y2:y∈gl.map bl.aE:=by have:=M1 (cG gl) hg';unfold cG at this;rwa[List.map_map]at this
  obtain⟨G,hG,hGy⟩:=i6.1 Y2;have hno:¬mB (nx (gp gl)) y y:=by rw[<-hGy];exact hl G hG
  refine Uf hl n y g' hg' ?_;have:=VV (P:=λz=>decide (mB (nx (gp gl)) y z)) (Q:=λz=>decide (mB (nx (gp gl)) x z)) (V:=gl.map bl.aE) (λz _ hz=>fF (hxy.trans (of_decide_eq_true hz))) Y2 (fF hxy) (gq hno);omega
theorem aoQ{gl:List bl}(hl:∀g∈gl,¬mB (nx (gp gl)) g.aE g.aE)(p:aK):Dp (cG gl) (gl.length+2) p:=by rw[Dp];intro x hx g hg;refine Uf hl _ x g hg ?_;have:=Wf (λy=>@decide (mB (nx (gp gl)) x y) (Classical.propDecidable _)) (gl.map bl.aE);rw[Zk]at this;omega
theorem Tx{gl:List bl}(h:lI gl=0):∀g∈gl,¬mB (nx (gp gl)) g.aE g.aE:=by
 intro g hg hr;unfold lI at h;split at h
 ·cases h
 split at h
 ·rename_i q;exact absurd h q
 split at h
 ·rename_i q;exact absurd h q
 obtain⟨i,hi⟩:=wA.1 hg;have:=(D6 gl 0).1 h i g hi;rw[aH ((SV _ _ _).2 hr)]at this;cases this
theorem SG{gl:List bl}(h:lI gl=0):∀g∈gl,EH g.pick:=by
 intro g hg;unfold lI at h;split at h
 ·cases h
 split at h
 ·rename_i q;exact absurd h q
 rename_i q;obtain⟨i,hi⟩:=wA.1 hg;have:=(D6 gl 0).1 (by simpa using q) i g hi;unfold sG at this;split at this
 ·cases this
 split at this
 ·cases this
 exact Er this
theorem TD:∀{l W:List Int},l.Nodup->(∀x∈l,x∈W)->l.length<=W.length
 |[],W,_,_=>jK _
 |x::l,W,h,hs=>by
  obtain⟨h1,h2⟩:=zN.1 h;have hx:=hs x ZA;have:=TD (W:=W.erase x) h2 λy hy=>(List.mem_erase_of_ne (λe=>h1 (by rw[<-e];exact hy))).2 (hs y (jU _ hy))
  rw[List.length_erase_of_mem hx]at this;have:=List.length_pos_of_mem hx;rw[ZT];omega
theorem acd(l:List Int):(eJ l).Nodup/\∀x,x∈eJ l->x∈l:=by
 have h:∀(l o:List Int),o.Nodup->(l.foldl (λo n=>if n∈o then o else o++[n]) o).Nodup/\∀x,x∈l.foldl (λo n=>if n∈o then o else o++[n]) o->x∈o\/x∈l:=by
  intro l;induction l with
  |nil=>intro o h;exact⟨h,λx hx=>.inl hx⟩
  |cons y l ih=>
   intro o h;rw[Wv];by_cases hy:y∈o
   ·rw[aH hy];obtain⟨a,b⟩:=ih o h;exact⟨a,λx hx=>(b x hx).imp id (jU _)⟩
   ·rw[aF hy];obtain⟨a,b⟩:=ih (o++[y]) (by rw[List.nodup_append];exact⟨h,by simp,λa ha b hb=>by rw[Yg.1 hb];exact λe=>hy (e▸ha)⟩);refine⟨a,λx hx=>?_⟩;rcases b x hx with h1|h1
    ·rcases fB.1 h1 with h1|h1
     ·exact .inl h1
     ·rw[Yg.1 h1];exact .inr ZA
    ·exact .inr (jU _ h1)
 obtain⟨a,b⟩:=h l [] List.nodup_nil;exact⟨a,λx hx=>(b x hx).elim (λh=>by cases h) id⟩
theorem Eu(s:Nat):∀(k:Nat)(l:List Int)(x:Int),x∈ia s k l->x∈l
 |_,[],x,h=>by simp [ia]at h
 |0,y::l,x,h=>by
  rw[ia]at h;rcases fA.1 h with rfl|h
  ·exact ZA
  ·exact jU _ (Eu s _ l x h)
 |k+1,y::l,x,h=>by rw[ia]at h;exact jU _ (Eu s k l x h)
theorem W6(U:List Int)(gs:List (Int×aK))(ps:List (Int×List Int)):∀(n:Nat)(p:aK),(∀x∈uF U gs ps n p,x∈U++ps.flatMap (·.2))/\(uF U gs ps n p).length<=(U++ps.flatMap (·.2)).length
 |0,p=>⟨λx h=>(by cases h),jK _⟩
 |n+1,p=>by
  have ih:=W6 U gs ps n;rw[uF];obtain⟨pK,has⟩:∃pK,pK=p.args.map (uF U gs ps n):=⟨_,rfl⟩
  have ha:∀l∈pK,(∀x∈l,x∈U++ps.flatMap (·.2))/\l.length<=(U++ps.flatMap (·.2)).length:=λl hl=>by rw[has]at hl;obtain⟨a,_,rfl⟩:=i6.1 hl;exact ih a
  have hg:∀i,(∀x∈pK.getD i [],x∈U++ps.flatMap (·.2))/\(pK.getD i []).length<=(U++ps.flatMap (·.2)).length:=λi=>by
   rw[VY];cases h:pK[i]? with
   |none=>exact⟨λx hx=>(by cases hx),jK _⟩
   |some l=>exact ha l (ct h)
  rw[<-has];generalize hW:U++ps.flatMap (·.2)=W at *
  have hU:∀x∈U,x∈W:=λx hx=>by rw[<-hW];exact SB _ hx
  have YJ:U.length<=W.length:=by rw[<-hW,PU];omega
  unfold CG;dsimp only;split
  ·unfold CJ;split
   ·exact⟨λx hx=>hU x (Ve.1 (List.mem_reverse.1 hx)).1,by rw[List.length_reverse];exact ZL (Wf _ _) YJ⟩
   ·exact⟨λx hx=>hU x (Ve.1 hx).1,ZL (Wf _ _) YJ⟩
  split
  ·cases bh p.bg gs with
   |none=>exact⟨λx hx=>(by cases hx),jK _⟩
   |some g=>exact ih g
  split
  ·cases hp:bh p.bg ps with
   |none=>exact⟨λx hx=>(by cases hx),jK _⟩
   |some l=>
    have hm:=HS hp;refine⟨λx hx=>?_,?_⟩
    ·rw[<-hW];exact List.mem_append_right _ (List.mem_flatMap.2 ⟨_,hm,hx⟩)
    ·have hll:∀(ps:List (Int×List Int))(e:Int×List Int),e∈ps->e.2.length<=(ps.flatMap (·.2)).length:=by
      intro ps e;induction ps with
      |nil=>intro h;cases h
      |cons y ps ih=>
       intro h;rw[apQ,PU];rcases fA.1 h with rfl|h
       ·omega
       ·have:=ih h;omega
     have:=hll ps _ hm;rw[<-hW,PU];show l.length<=_;have h2:l.length<=(ps.flatMap (·.2)).length:=this;omega
  split
  ·obtain⟨h1,h2⟩:=acd pK.flatten
   have h3:∀x∈eJ pK.flatten,x∈W:=λx hx=>by obtain⟨l,hl,hxl⟩:=apY.1 (h2 x hx);exact(ha l hl).1 x hxl
   exact⟨h3,TD h1 h3⟩
  split
  ·exact⟨λx hx=>(hg 0).1 x (Ve.1 hx).1,ZL (Wf _ _) (hg 0).2⟩
  split
  ·exact⟨λx hx=>(hg 0).1 x (Eu _ _ _ x hx),ZL (LW _ _ _) (hg 0).2⟩
  split
  ·exact⟨λx hx=>(hg 0).1 x (Eu _ _ _ x hx),ZL (LW _ _ _) (hg 0).2⟩
  split
  ·exact⟨λx hx=>(hg 0).1 x (List.mem_reverse.1 hx),by rw[List.length_reverse];exact(hg 0).2⟩
  ·exact⟨λx hx=>(hg 0).1 x (Eu _ _ _ x hx),ZL (LW _ _ _) (hg 0).2⟩
end
section
def HG (D2:(List bl)->(List cJ)->aK->Option Bool) (a0:(List bl)) (a1:(List cJ)) (a2:aK):Option Bool:=
 (tq (bH a2<=2000000) (eN 3 a2)).bind λr1=>
 fR r1 (λ(i9:Nat)e8(s2:Unit)=>(show Option (Lr Unit Unit Unit)from
   (BC a1 e8).bind λfH=>
   if(!fH.2)=η then
    δ (.ret ())
   else
   δ (.go ()))) (λs2=>δ ()) () (λb3=>
  (tq (bH a2<=2000000) (eN 2 a2)).bind λiB=>
  fR iB (λ(AU:Nat)wT(xq:Unit)=>(show Option (Lr Unit Unit Bool)from
    (zj a0 wT).bind λcD=>
    (if(!(!cD.2))=η then D2 a0 a1 cD.1.pick else δ default).bind λig=>
    if((!cD.2)||(!ig))=η then
     δ (.ret ι)
    else
    δ (.go ()))) (λxq=>δ ()) () (λpZ=>
   δ η) (λpZ=>
   δ pZ)) (λb3=>
  δ ι)
theorem acU{rc:Nat->aq->Heap->aB}(D2:(List bl)->(List cJ)->aK->Option Bool)(ab4:∀(x0:(List bl)) (x1:(List cJ)) (x2:aK) (s:Heap) r,D2 x0 x1 x2=δ r->rc 95 [(sl 5 bw x0),(sl 3 cN x1),(Y8 (aG x2))] s=δ ((χ r),s)){a0:(List bl)}{a1:(List cJ)}{a2:aK}{σ:Heap}{r:Bool}(h:HG D2 a0 a1 a2=δ r):Ξ η [(.s 5),(.s 3),fK] .k (A.i7 (B2 rc)) [(sl 5 bw a0),(sl 3 cN a1),(Y8 (aG a2))] σ=δ ((χ r),σ):=by
 refine afa (f:=B2 rc) (y0:=(sl 5 bw a0)) (y1:=(sl 3 cN a1)) (y2:=(Y8 (aG a2))) (enc:=λr:Bool=>(χ r)) (T:=HG D2 a0 a1 a2) (by first|rfl|(simp only[aA];rfl)) (by first|rfl|(simp only[aA];rfl)) ?_ r h;unfold B2 HG;refine ak (aG a2) (by first|rfl|(simp only[aA];rfl))<|ak (Y8 (aG a2)) (by first|rfl|(simp only[aA];rfl)) ?_;refine fJ (λr1:(List Int)=>((sl 1 aL r1),σ)) (λr1 kL=>(mw (e:=λr:(List Int)=>((sl 1 aL r),σ)) (λhs=>MS a2 3 hs σ)) kL) (λr1 kL=>?_);refine ak _ (cy _ _ _) ?_;refine iW (B:=Unit) (R:=Unit) (λ(i9:Nat)(s2:Unit)v w4=>v=[(Z1 (aG a2)),aT,(ε (i9:Int))]/\σ=w4) (λ(b3:Unit)(q:LS)=>∃u6 Gx,q=((φ 0),([(Z1 (aG a2)),u6,Gx]:aq),σ)) (λ(b3:Unit)(q:LS)=>∃u5 Gx,q=(Ω,([u5,aT,Gx]:aq),σ)) ?_ ?_ ⟨rfl,rfl⟩ ?_ ?_
 ·intro Ow i9 e8 s2 v w4 AM hI;obtain⟨rfl,rfl⟩:=hI;refine ak _ (dP AM)<|i5<|ak _ (ey AM)<|ak (ε e8) (by first|rfl|(simp only[aA];rfl)) ?_;refine fJ (λfH:(cJ×Bool)=>((Zz [(Y8 (cN fH.1)),(χ fH.2)]),σ)) (λfH yC=>RF yC) (λfH yC=>?_);refine ak (Y8 (cN fH.1)) (by first|rfl|(simp only[aA];rfl))<|ak (χ fH.2) (by first|rfl|(simp only[aA];rfl))<|ak (cN fH.1) (by first|rfl|(simp only[aA];rfl))<|ak _ (zn _ _ rfl)<|ak (χ (!fH.2)) (by first|rfl|(simp only[aA];rfl)) ?_;refine eO (c:=(!fH.2)) (λdI=>?_) (λdI=>?_)
  ·exact aX (fu (by simp) ⟨_,_,rfl⟩)
  refine ak _ (dY AM Ow) ?_;exact aX (iX ⟨rfl,rfl⟩)
 ·intro hl s2 v w4 hI;obtain⟨rfl,rfl⟩:=hI;refine ak _ (dX _)<|i4 ?_;exact aX ⟨by simp,⟨_,_,rfl⟩⟩
 ·intro hl b3 q hq;obtain⟨u6,Gx,rfl⟩:=hq;refine dJ (by first|rfl|(simp only[aA];rfl))<|ak (Y8 (aG a2)) (by first|rfl|(simp only[aA];rfl)) ?_;refine fJ (λiB:(List Int)=>((sl 1 aL iB),σ)) (λiB Xr=>(mw (e:=λr:(List Int)=>((sl 1 aL r),σ)) (λhs=>MS a2 2 hs σ)) Xr) (λiB Xr=>?_);refine ak _ (cy _ _ _) ?_;refine iW (B:=Unit) (R:=Bool) (λ(AU:Nat)(xq:Unit)v Bb=>∃u6,v=[u6,(ε (AU:Int))]/\σ=Bb) (λ(pZ:Unit)(q:LS)=>∃u6 GB,q=((φ 2),([u6,GB]:aq),σ)) (λ(pZ:Bool)(q:LS)=>∃GB,q=(Ω,([(χ pZ),GB]:aq),σ)) ?_ ?_ ⟨_,rfl,rfl⟩ ?_ ?_
  ·intro NI AU wT xq v Bb zW hI;obtain⟨u6,rfl,rfl⟩:=hI;refine ak _ (dP zW)<|i5<|ak _ (ey zW)<|ak (ε wT) (by first|rfl|(simp only[aA];rfl)) ?_;refine fJ (λcD:(bl×Bool)=>((Zz [(Y8 (bw cD.1)),(χ cD.2)]),σ)) (λcD E3=>Hg E3) (λcD E3=>?_);refine ak (Y8 (bw cD.1)) (by first|rfl|(simp only[aA];rfl))<|ak (χ cD.2) (by first|rfl|(simp only[aA];rfl))<|ak (bw cD.1) (by first|rfl|(simp only[aA];rfl))<|ak _ (qS _ _ rfl)<|ak (χ (!cD.2)) (by first|rfl|(simp only[aA];rfl))<|bL (sl 5 bw a0) (λhg=>by first|rfl|(simp only[aA];rfl))<|bL (sl 3 cN a1) (λhg=>by first|rfl|(simp only[aA];rfl))<|bL (Y8 (aG cD.1.pick)) (λhg=>by first|rfl|(simp only[aA];rfl)) ?_;refine ag4 (ω:=Bool) (λig=>(χ ig)) (λhg ig E4=>by(try rw[hg]);exact(jR (ab4 _ _ _ _ _ E4))) (λig E4=>?_);refine bL (χ (!ig)) (λhg=>by(try rw[hg]);exact rfl)<|ak _ (kr _ _) ?_;refine eO (c:=((!cD.2)||(!ig))) (λjc=>?_) (λjc=>?_)
   ·exact aX (fu (by simp) ⟨_,rfl⟩)
   refine ak _ (dY zW NI) ?_;exact aX (iX ⟨_,rfl,rfl⟩)
  ·intro hl xq v Bb hI;obtain⟨u6,rfl,rfl⟩:=hI;refine ak _ (dX _)<|i4 ?_;exact aX ⟨by simp,⟨_,_,rfl⟩⟩
  ·intro hl pZ q hq;obtain⟨u6,GB,rfl⟩:=hq;refine dJ (by first|rfl|(simp only[aA];rfl)) ?_;exact bZ _ (bU _ _) ⟨rfl,rfl⟩
  ·intro hl pZ q hq;obtain⟨GB,rfl⟩:=hq;refine ku (by first|rfl|(simp only[aA];rfl))<|dJ (by first|rfl|(simp only[aA];rfl)) ?_;exact bZ _ (bU _ _) ⟨rfl,rfl⟩
 ·intro hl b3 q hq;obtain⟨u5,Gx,rfl⟩:=hq;refine ku (by first|rfl|(simp only[aA];rfl))<|dJ (by first|rfl|(simp only[aA];rfl)) ?_;exact bZ _ (bU _ _) ⟨rfl,rfl⟩
end
section
open HP
section
variable {au σ : Heap} {R : HP} {C : Am} {kn : List (Int × (AV × List Int))}
theorem ahi(H:Hs aV au σ (bT C kn*R))(f:Int):A.pR .i (.om C.g) (.ah f) (.agg [.ah 0,.ah 0,.ah 0,.aC]) σ=δ (.aJ [((bh f C.gs).map λg=>Y8 (aG g)).getD (.agg [.ah 0,.ah 0,.ah 0,.aC]),.bool (bh f C.gs).isSome]):=by simp only[A.pR,A.fP,bz,R2,WK H,aO];rw[uN (eK:=λx:Int=>ε x) (eV:=λx:aK=>Y8 (aG x)) (nj _)];cases bh f C.gs<;>rfl
theorem ahj(H:Hs aV au σ (bT C kn*R))(f:Int):A.pR .i (.om C.p) (.ah f) .aC σ=δ (.aJ [((bh f C.ps).map λl=>sl 1 aL l).getD .aC,.bool (bh f C.ps).isSome]):=by simp only[A.pR,A.fP,bz,R2,WL H,aO];rw[uN (eK:=λx:Int=>ε x) (eV:=λx:List Int=>sl 1 aL x) (nj _)];cases bh f C.ps<;>rfl
theorem IU{id:Nat}{b c:Bool}{R:HP}(H:Hs aV au σ (blk id (.box [.bool b])*R)):ZX (.op id 0) [.bool c] σ=δ (σ.set id (.box [.bool c]))/\Hs aV au (σ.set id (.box [.bool c])) (blk id (.box [.bool c])*R):=by refine⟨?_,qW H trivial⟩;simp only[ZX,(eG H).2];rfl
theorem TC(hsz:∀k g,bh k C.gs=δ g->bH g<=200):∀(n N:Nat)(p:aK)(kn:List (Int×(AV×List Int)))(S:List Int)(gG:Nat)(au σ:Heap)(R:HP),bH p<=200->jk (C.gs.map (·.1)) S<n->2*n<=N->Hs aV au σ (blk gG (.map (eS S))*(bT C kn*R))->
  ∃σ',fuel Bo N 76 [.op C.b 0,.agg (aG p),.om gG] σ=δ (.bool (iZ C.gs C.ps n p S).1,σ')/\Hs aV au σ' (blk gG (.map (eS (iZ C.gs C.ps n p S).2))*(bT C kn*R))
 |0,N,p,kn,S,gG,au,σ,R,hp,hu,hN,H=>by omega
 |n+1,0,p,kn,S,gG,au,σ,R,hp,hu,hN,H=>by omega
 |n+1,1,p,kn,S,gG,au,σ,R,hp,hu,hN,H=>by omega
 |n+1,N+2,p,kn,S,gG,au,σ,R,hp,hu,hN,H=>by
  rw[iZ];obtain⟨Jn,apb⟩:∃rec,rec=fuel Bo N:=⟨_,rfl⟩
  have dG:∀(q:aK)(S:List Int)(σ:Heap)(R:HP),bH q<=200->jk (C.gs.map (·.1)) S<n->Hs aV au σ (blk gG (.map (eS S))*(bT C kn*R))->∃σ',Jn 76 [.op C.b 0,.agg (aG q),.om gG] σ=δ (.bool (iZ C.gs C.ps n q S).1,σ')/\Hs aV au σ' (blk gG (.map (eS (iZ C.gs C.ps n q S).2))*(bT C kn*R)):=λq S σ R h1 h2 h3=>by rw[apb];exact TC hsz n N q kn S gG au σ R h1 h2 (by omega) h3
  obtain⟨CQ,WV⟩:∃rec,rec=fuel Bo (N+1):=⟨_,rfl⟩
  have h75:CQ 75=Ξ ι [] .k (A.CX (Bn Jn)):=by rw[WV,apb];rfl
  suffices h:∃σ',Bp CQ (.op C.b 0) (.agg (aG p)) (.om gG) σ=δ (.bool ((jB p).foldl (ru C.gs C.ps (iZ C.gs C.ps n)) (ι,S)).1,σ')/\Hs aV au σ' (blk gG (.map (eS ((jB p).foldl (ru C.gs C.ps (iZ C.gs C.ps n)) (ι,S)).2))*(bT C kn*R)) by obtain⟨σ',h1,h3⟩:=h;refine⟨σ',?_,h3⟩;show Ξ ι [] .k (A.i7 (Bp (fuel Bo (N+1)))) [.op C.b 0,.agg (aG p),.om gG] σ=_;rw[<-WV];unfold Ξ;rw[Xp,bk];show(Bp CQ (.op C.b 0) (.agg (aG p)) (.om gG) σ).map _=_;rw[h1,ff,mU]
  have K1:=tj (b:=.box [.bool ι]) H trivial;obtain⟨b,hb⟩:∃b,b=Ym σ:=⟨_,rfl⟩
  rw[<-hb]at K1;obtain⟨e1,K2⟩:=IU (c:=ι) K1;obtain⟨s1,AQ⟩:∃s1,s1=(σ++[apF [χ ι]]).set b (.box [.bool ι]):=⟨_,rfl⟩
  rw[<-AQ]at e1 K2
  obtain⟨σ',e2,K3,_⟩:=M5 (dyn:=Z5 (λ_ _=>μ) [(75,CQ 75)]) (c:=.fn 75 [.op b 0,.rp [.op C.b 0],.rp [.om gG]]) (λ(st:Bool×List Int)σ'=>Hs aV au σ' (blk b (.box [.bool st.1])*(blk gG (.map (eS st.2))*(bT C kn*R)))/\∀x∈S,x∈st.2) (ru C.gs C.ps (iZ C.gs C.ps n)) (sz:=λ_=>0) (jB p).length (λ_ _=>jK _) (by
   rintro⟨lk,S1⟩ kd nm s _ ⟨K,hS⟩;simp only at K hS
   suffices h:∃σ',Bn Jn (.ah kd) (.ah nm) (.op b 0) (.rp [.op C.b 0]) (.rp [.om gG]) s=δ (.aJ [],σ')/\Hs aV au σ' (blk b (.box [.bool (ru C.gs C.ps (iZ C.gs C.ps n) (lk,S1) (kd,nm)).1])*(blk gG (.map (eS (ru C.gs C.ps (iZ C.gs C.ps n) (lk,S1) (kd,nm)).2))*(bT C kn*R)))/\∀x∈S,x∈(ru C.gs C.ps (iZ C.gs C.ps n) (lk,S1) (kd,nm)).2 by obtain⟨σ',h1,h2⟩:=h;refine⟨.aJ [],σ',?_,h2⟩;show CQ 75 [.ah kd,.ah nm,.op b 0,.rp [.op C.b 0],.rp [.om gG]] s=_;rw[h75];unfold Ξ;rw[Xp,bk];show(Bn Jn (.ah kd) (.ah nm) (.op b 0) (.rp [.op C.b 0]) (.rp [.om gG]) s).map _=_;rw[h1,ff,mU]
   have KF:=eX (eX K);have b0:((Γ (.op b 0) s).bind λc=>Δ 0 c)=δ (.bool lk):=by simp only[Γ,(eG K).2,aO];rfl
   have b1:((Γ (.rp [.op C.b 0]) s).bind λc=>Δ 0 c)=δ (.op C.b 0):=rfl;have b2:A.jJ (.op C.b 0)=δ (.op C.b 0):=rfl;have b3:SN 1 (.op C.b 0)=δ (.op C.b 1):=rfl;have b4:SN 2 (.op C.b 0)=δ (.op C.b 2):=rfl;have b5:∀s:Heap,((Γ (.rp [.om gG]) s).bind λc=>Δ 0 c)=δ (.om gG):=λ_=>rfl
   have b6:∀s:Heap,((Γ (.rp [.op C.b 0]) s).bind λc=>Δ 0 c)=δ (.op C.b 0):=λ_=>rfl
   have cb:∀c:Bool,((ZS (.bool c)).bind λv=>δ [v])=δ [.bool c]:=λ_=>rfl
   unfold Bn;rw[b0,bS];unfold ru;cases lk with
   |true=>exact⟨s,by rw[cT],by simp only[if_true];exact K,by simp only[if_true];exact hS⟩
   |false=>
    simp only[ZD,if_false];rw[cF];by_cases h3:kd=3
    ·rw[aH h3,oK h3,bS,cT,b1,bS,b2,bS,b4,bS,Oe KF,bS,ahj KF,bS];obtain⟨f1,K4⟩:=IU (c:=(bh nm C.ps).isNone) K;refine⟨_,?_,K4,hS⟩;have hn:ZR (.bool (bh nm C.ps).isSome)=δ (.bool (bh nm C.ps).isNone):=by cases bh nm C.ps<;>rfl
     simp only[zU,ext1,bS,hn,cb,f1]
    ·rw[aF h3,oJ h3,bS,cF,b1,bS,b2,bS,b3,bS,Od KF,bS,ahi KF,bS];cases hg:bh nm C.gs with
     |none=>obtain⟨f1,K4⟩:=IU (c:=η) K;refine⟨_,?_,K4,hS⟩;simp only[Option.map_none,UG,Option.isSome_none,zU,ext1,bS];rw[show Φ 4 (.agg [.ah 0,.ah 0,.ah 0,.aC])=δ [.ah 0,.ah 0,.ah 0,.aC]from rfl,bS,show Zv 0 [.ah 0,.ah 0,.ah 0,.aC] [(ε 0),(ε 0),(ε 0),ZK]=δ [.ah 0,.ah 0,.ah 0,.aC]from rfl,bS,wG,bS,cT,cb,bS,f1,bS,bS]
     |some g=>
      simp only[ff,Sk,Option.isSome_some,zU,ext1,bS];have K5:=cr (show _=blk gG (.map (eS S1))*(bT C kn*(blk b (.box [.bool ι])*R)) by ac_rfl) K;have c1:=looked (eG K5).2 nm;rw[sY,bS,qV _ _ (rfl:([(ε 0),(ε 0),(ε 0),ZK]:aq).length=4),bS,wI,bS,cF,b5,bS,c1,bS];by_cases hm:nm∈S1
      ·rw[aH hm,fF hm,wI,bS,cF,bS,bS];exact⟨s,rfl,K,hS⟩
      ·rw[aF hm,gq hm,wG,bS,cT,bS];have c2:=Nb (eG K5).2 hm;have K6:=qW (b':=.map (eS (S1++[nm]))) K5 trivial;have hlt:=zE (M1 C.gs hg) hm;have hmono:=MO hS (C.gs.map (·.1));obtain⟨s2,c3,K7⟩:=dG g (S1++[nm]) _ _ (hsz nm g hg) (by omega) K6;have hsub:=(Mk C.gs C.ps n g (S1++[nm]) (by omega)).1;generalize iZ C.gs C.ps n g (S1++[nm])=w at c3 K7 hsub ⊢;obtain⟨f1,K8⟩:=IU (c:=w.1) (cr (show _=blk b (.box [.bool ι])*(blk gG (.map (eS w.2))*(bT C kn*R)) by ac_rfl) K7);refine⟨_,?_,K8,λx hx=>hsub x (SB _ (hS x hx))⟩
       rw[c2,bS,b6,bS,vR,bS,b5,bS,c3,bS,cb,bS,f1,bS,bS,bS]) 2000000 p s1 (ι,S) (ZL (xI p) (by omega)) (by unfold mZ;omega) (by omega) ⟨K2,λx hx=>hx⟩
  have e3:xD (Z5 (λ_ _=>μ) [(75,CQ 75)]) [.agg (aG p),.fn 75 [.op b 0,.rp [.op C.b 0],.rp [.om gG]]] s1=δ (.aJ [],σ'):=e2;have e4:((Γ (.op b 0) σ').bind λc=>Δ 0 c)=δ (.bool ((jB p).foldl (ru C.gs C.ps (iZ C.gs C.ps n)) (ι,S)).1):=by simp only[Γ,(eG K3).2,aO];rfl
  refine⟨σ',?_,eX K3⟩;unfold Bp;rw[<-hb];rw[show(((ZS (UX C.b 0)).bind λv=>δ [v]).bind λcs=>δ (AV.rp cs))=δ (.rp [.op C.b 0])from rfl,bS,sY,bS,show(((ZS (V9 gG)).bind λv=>δ [v]).bind λcs=>δ (AV.rp cs))=δ (.rp [.om gG])from rfl,bS,show((ZS aT).bind λv=>δ [v])=δ [.bool ι]from rfl,bS,e1,bS,vR,bS,e3,bS];simp only;rw[e4,bS]
end
theorem Uq{α γ R:Type}{p:α->Bool}{l:List α}{body:Nat->α->Unit->Option (Lr Unit Unit R)}{r:R}{K1:Unit->Option γ}{K2:R->Option γ}(hl:l.length<=bf)(hb:∀i x,l[i]? =δ x->body i x ()=δ (if p x=η then .go ()else .ret r)):fR l body (λs=>δ ()) () K1 K2=if l.all p=η then K1 ()else K2 r:=by
 rw[Mg (p:=λx=>!p x) (r:=λ_=>r) hl (λi x hx=>by rw[hb i x hx];cases p x<;>rfl) rfl];cases hf:l.find? (λx=>!p x)with
 |none=>rw[aH (jC.2 λx hx=>by have:=List.find?_eq_none.1 hf x hx;simpa using this)]
 |some x=>have h1:=List.find?_some hf;have h2:=wB hf;rw[aF (λh=>by rw[jC.1 h x h2]at h1;cases h1)]
theorem an6{gl:List bl}{pl:List cJ}(hg:gl.length<=bf)(hp:pl.length<=bf)(hsz:∀g∈gl,bH g.pick<=200):∀(n:Nat)(p:aK)(σ:Heap),Dp (cG gl) n p->bH p<=200->fuel zl n 95 [sl 5 bw gl,sl 3 cN pl,.agg (aG p)] σ=δ (.bool (jF (cG gl) (dM pl) n p),σ)
 |0,p,σ,h,_=>h.elim
 |n+1,p,σ,h,hs=>by
  let q:List bl->List cJ->aK->Option Bool:=λa b p=>open Classical in if a=gl/\b=pl/\Dp (cG gl) n p/\bH p<=200 then δ (jF (cG gl) (dM pl) n p)else μ
  have hr:fuel zl (n+1) 95=Ξ η [(.s 5),(.s 3),fK] .k (A.i7 (B2 (fuel zl n))):=rfl;rw[hr];refine acU (rc:=fuel zl n) q (λa b x s r hx=>?_) ?_
  ·by_cases hc:a=gl/\b=pl/\Dp (cG gl) n x/\bH x<=200
   ·have:q a b x=_:=aH hc;rw[this]at hx;injection hx with hx;subst hx
    obtain⟨rfl,rfl,h1,h2⟩:=hc;exact an6 hg hp hsz n x s h1 h2
   ·have:q a b x=μ:=aF hc;rw[this]at hx;cases hx
  ·rw[Dp]at h;rw[jF];have hl3:=BZ 3 p;have o8:=BZ 2 p;unfold HG;rw[nB (by omega),aO];rw[Uq (p:=λx=>(bh x (dM pl)).isSome) (r:=()) (by unfold bf;omega) (λi x hx=>?_)]
   ·rw[nB (by omega),aO];rw[Uq (p:=λx=>match bh x (cG gl)with|none=>ι|some g=>jF (cG gl) (dM pl) n g) (r:=ι) (by unfold bf;omega) (λi x hx=>?_)]
    ·cases(eN 3 p).all λx=>(bh x (dM pl)).isSome
     ·rfl
     ·cases(eN 2 p).all λx=>match bh x (cG gl)with|none=>ι|some g=>jF (cG gl) (dM pl) n g<;>rfl
    ·rw[HI gl hg x,aO];have JE:=Mi gl x;cases hgo:jE gl x with
     |none=>rw[hgo]at JE;simp only[JE,Option.map_none];rfl
     |some G=>rw[hgo]at JE;have Xj:bh x (cG gl)=δ G.pick:=JE;have hG:G∈gl:=wB hgo;have hq:q gl pl G.pick=δ (jF (cG gl) (dM pl) n G.pick):=aH ⟨rfl,rfl,h x (ct hx) _ Xj,hsz G hG⟩;simp only[Xj,Sk,Option.isSome_some,YV,Bool.not_false,if_true,hq,aO,Bool.false_or];cases jF (cG gl) (dM pl) n G.pick<;>rfl
   ·rw[an1 pl hp x,aO];have hpf:=apy pl x;unfold OL at hpf;unfold Em;cases anW:pl.find? λp=>decide (p.aE=x)with
    |none=>rw[anW]at hpf;simp only[hpf,Option.map_none];rfl
    |some P=>rw[anW]at hpf;simp only[hpf,ff];rfl
end
section
open HP
def uT (r:dj) (gl:List bl) (pl:List cJ) (p:aK):List Int×Int:=
 if ¬(qU r pl=0)then([],qU r pl)else if ¬(lI gl=0)then([],lI gl)else if ¬(oS p=0)then([],oS p)
 else if jF (cG gl) (dM pl) (gl.length+2) p=ι then([],8)else(uF (dZ r) (cG gl) (dM pl) ((gl.length+2)*12) p,0)
theorem aek{r:dj}(h:iP r=0):r.dQ.length<=400:=by
 unfold iP at h;split at h
 ·split at h
  ·cases h
  ·omega
 ·rename_i q;exact absurd h q
theorem Mn{r:dj}{pl:List cJ}(h:qU r pl=0):r.dQ.length<=400/\pl.length<=200/\(∀x∈pl,x.eW.length<=2000)/\(pl.map cJ.aE).Nodup:=by
 unfold qU at h;split at h
 ·rename_i q;exact absurd h q
 rename_i q;split at h
 ·cases h
 rename_i q2;have hz:=(D6 pl 0).1 h;refine⟨aek (by simpa using q),by omega,λx hx=>?_,?_⟩
 ·obtain⟨i,hi⟩:=wA.1 hx;have:=hz i x hi;unfold zA at this;repeat (split at this;· cases this)
  rename_i q3 _;omega
 ·have:(pl.map cJ.aE).Pairwise (·<·):=by
   refine VM λj hj=>?_
   rw[Zk]at hj;have hx:pl[j+1]? =δ pl[j+1]:=dg hj;have h1:=hz (j+1) _ hx;unfold zA at h1;split at h1
   ·cases h1
   ·split at h1
    ·cases h1
    ·rename_i q3;have hp:pv pl (j+1)=pl[j]:=by unfold pv;simp [RU,dg (by omega:j<pl.length)]
     rw[Z3,hp]at q3;simp only[List.getElem_map];by_cases hq:pl[j].aE<pl[j+1].aE
     ·exact hq
     ·exact absurd (by simp;omega) q3
  exact this.imp λh=>Int.ne_of_lt h
theorem Mw{r:dj}{gl:List bl}{pl:List cJ}(h:qU r pl=0)(n:Nat)(p:aK):(uF (dZ r) (cG gl) (dM pl) n p).length<1000000:=by
 obtain⟨h1,h2,h3,_⟩:=Mn h;have h4:=(W6 (dZ r) (cG gl) (dM pl) n p).2
 have h5:∀pl:List cJ,(∀x∈pl,x.eW.length<=2000)->((dM pl).flatMap (·.2)).length<=pl.length*2000:=by
  intro pl;induction pl with
  |nil=>intro _;simp [dM]
  |cons x l ih=>
   intro hx;have e1:=ih λy hy=>hx y (jU _ hy)
   have e2:=hx x ZA;have e3:=TG (jW x);unfold dM at e1 ⊢;rw[dH,apQ,PU,ZT,fQ];unfold jW at e3;rw[Zk]at e3;show(eJ (jW x)).length+_<=_;have e4:(eJ (jW x)).length<=x.eW.length:=e3;omega
 have h6:=h5 pl h3;have h7:(dZ r).length=r.dQ.length:=by unfold dZ;rw[Zk]
 rw[PU,h7]at h4;have:pl.length*2000<=200*2000:=mQ _ h2;omega
section
variable {au σ : Heap} {R : HP}
theorem ahl{v:AV}{l:List Int}(H:Hs aV au σ (Iv v l*R)):∃v',wh au v σ=δ (v',au)/\S7 (.s 1) v'=sl 1 aL l:=by
 obtain⟨v',h1,h2,h3⟩:=Nu H pQ (bR _) 7;refine⟨v',Nh (Nk H) h1 (λe=>?_),h3⟩;rcases oQ H with⟨rfl,rfl|rfl,_⟩|⟨id,g,rfl,K⟩
 ·simp [X0]at h1;rw[h1]
 ·simp [X0]at h1;rw[h1]
 ·obtain⟨k1,k2⟩:=eG K;have:=(bG.1 k2).1;subst e;omega
theorem VS{v:AV}{l:List Int}(H:Hs aV au σ (Iv v l*R)):∃v',wh au (.aJ [v,.ah 0]) σ=δ (.aJ [v',.ah 0],au)/\S7 (.t [.s 1,.k]) (.aJ [v',.ah 0])=.aJ [sl 1 aL l,.ah 0]:=by
 obtain⟨v',h1,h2,h3⟩:=Nu H pQ (bR _) 7;refine⟨v',Nh (Nk H) (by simp [X0,Xu,h1]) (λe=>?_),?_⟩
 ·rcases oQ H with⟨rfl,rfl|rfl,_⟩|⟨id,g,rfl,K⟩
  ·simp [X0]at h1;rw[h1]
  ·simp [X0]at h1;rw[h1]
  ·obtain⟨k1,k2⟩:=eG K;have:=(bG.1 k2).1;subst e;omega
 ·simp only[S7,Ug]at h3 ⊢;rw[h3]
theorem qy(e:Int):wh σ (.aJ [.aC,.ah e]) σ=δ (.aJ [.aC,.ah e],σ)/\S7 (.t [.s 1,.k]) (.aJ [.aC,.ah e])=.aJ [sl 1 aL ([]:List Int),.ah e]:=⟨bU _ _,rfl⟩
theorem Tf{f:AV->AV->AV->AV->Heap->aB}{r:dj}{gl:List bl}{pl:List cJ}{p:aK}{u:List Int×Int}(h:∃b,f (.agg (b7 r)) (sl 5 bw gl) (sl 3 cN pl) (.agg (aG p)) σ=δ (b,σ)/\S7 (.t [.s 1,.k]) b=.aJ [sl 1 aL u.1,.ah u.2]):Ξ η [kY,(.s 5),(.s 3),fK] (.t [(.s 1),.k]) (A.oF f) [.agg (b7 r),sl 5 bw gl,sl 3 cN pl,.agg (aG p)] σ=δ (.aJ [sl 1 aL u.1,.ah u.2],σ):=by
 obtain⟨b,h1,h2⟩:=h;refine wrap_eq (by simp only[aA];rfl) ?_ h2
 have Qi:Ug [kY,(.s 5),(.s 3),fK] [.agg (b7 r),sl 5 bw gl,sl 3 cN pl,.agg (aG p)]=[.agg (b7 r),sl 5 bw gl,sl 3 cN pl,.agg (aG p)]:=by rw[aA];rfl
 rw[Qi];exact h1
theorem Ur{gl:List bl}(h:lI gl=0):∀k g,bh k (cG gl)=δ g->EH g:=by intro k g hg;rw[Mi]at hg;obtain⟨G,h1,rfl⟩:=cO.1 hg;exact SG h G (wB h1)
theorem UE{gl:List bl}{pl:List cJ}{p:aK}(hg:lI gl=0)(hp:oS p=0)(hk:jF (cG gl) (dM pl) (gl.length+2) p=η):Rk (cG gl) (dM pl) ((gl.length+2)*12) p:=
 Vz _ _ (Ur hg) _ p (Er hp) hk
theorem afW{gl:List bl}{pl:List cJ}{p:aK}(hpl:pl.length<=bf)(h2:lI gl=0)(h3:oS p=0)(N:Nat)(hN:gl.length+2<=N)(σ:Heap):fuel zl N 95 [sl 5 bw gl,sl 3 cN pl,.agg (aG p)] σ=δ (.bool (jF (cG gl) (dM pl) (gl.length+2) p),σ):=by have tV:=MG h2;have hd:=aoQ (Tx h2) p;have e:=an6 (gl:=gl) (pl:=pl) (by unfold bf;omega) hpl (λg hg=>(SG h2 g hg).1) N p σ (WI hd hN) (Er h3).1;rw[Nl hd hN]at e;exact e
theorem afj(r:dj)(gl:List bl)(pl:List cJ)(p:aK)(hs:oo r/\sO gl/\fW vQ pl/\bH p<=2000000)(σ:Heap):L0 [.agg (b7 r),sl 5 bw gl,sl 3 cN pl,.agg (aG p)] σ=δ (.aJ [sl 1 aL (uT r gl pl p).1,.ah (uT r gl pl p).2],σ):=by
 obtain⟨hr,hg,hp,hz⟩:=hs;refine Tf ?_;unfold SU uT;rw[iJ,bS,sY,bS,iK,bS,ank (aag r pl hr hp),bS,Jc,bS];by_cases h1:qU r pl=0
 ·rw[gq (λk=>k h1),cF,aF (λk=>k h1),aad (aaX hg),bS,Jc,bS];by_cases h2:lI gl=0
  ·rw[gq (λk=>k h2),cF,aF (λk=>k h2),vR,bS,SH (aoa hz),bS,Jc,bS];by_cases h3:oS p=0
   ·rw[gq (λk=>k h3),cF,aF (λk=>k h3),bS];obtain⟨hu,hpl,hst,_⟩:=Mn h1;have tV:=MG h2;have Dc:=Er h3;have ek:L1 [sl 5 bw gl,sl 3 cN pl,.agg (aG p)] σ=δ (.bool (jF (cG gl) (dM pl) (gl.length+2) p),σ):=afW hp.1 h2 h3 2000000 (by omega) σ;rw[ek,bS];cases hk:jF (cG gl) (dM pl) (gl.length+2) p with
    |false=>rw[wG,bS,cT,aH rfl];exact⟨_,(qy 8).1,(qy (σ:=σ) 8).2⟩
    |true=>rw[wI,bS,cF,bS,bS,aF (by decide)];obtain⟨v,s1,e1,K1⟩:=apq (r:=r) (gl:=gl) (pl:=pl) (by omega) hg.1 hp.1 (λx hx=>by have:=hst x hx;omega) (λn p _=>Mw h1 n p) _ 2000000 p σ σ emp (by omega) (UE h2 h3 hk) (Cz σ);obtain⟨v',e2,e3⟩:=VS K1;have wS:KU [.agg (b7 r),sl 5 bw gl,sl 3 cN pl,.agg (aG p)] σ=δ (v,s1):=e1;rw[wS,bS];exact⟨_,e2,e3⟩
   ·rw[fF h3,cT,aH h3];exact⟨_,(qy _).1,(qy (σ:=σ) _).2⟩
  ·rw[fF h2,cT,aH h2];exact⟨_,(qy _).1,(qy (σ:=σ) _).2⟩
 ·rw[fF h1,cT,aH h1];exact⟨_,(qy _).1,(qy (σ:=σ) _).2⟩
end
end
section
open HP
section
variable {au σ : Heap} {R : HP} {C : Am} {kn : List (Int × (AV × List Int))}
theorem aeP{b g p k:Nat}(H:Hs aV au σ (blk b (.box [.aC,.om g,.om p,.om k])*(blk k (.map (oI []))*(blk p (.map (eL []))*(blk g (.map (eP []))*R))))):Hs aV au σ (bT ⟨b,g,p,k,.aC,[],[],[]⟩ []*R):=by have K:=kO (E:=fl aL) (sz:=1) (v:=.aC) H (.inl rfl);exact cr (show _=(blk b (.box [.aC,.om g,.om p,.om k])*(Iv .aC []*(blk g (.map (eP []))*(blk p (.map (eL []))*(blk k (.map (oI []))*emp)))))*R by rw[UK];ac_rfl) K
theorem afJ{x:Int}(hl:C.U.length+1<=cu)(H:Hs aV au σ (bT C kn*R)):∃w s1 s2,ZI 1 (140737488355328 / 8) C.vu (.sl 1 [[.ah x]]) σ=δ (w,s1)/\ZS w=δ w/\ZX (.op C.b 0) [w] s1=δ s2/\Hs aV au s2 (bT {C with vu:=w,U:=C.U++[x]} kn*R):=by obtain⟨w,s1,e1,K⟩:=uP (B:=aV) (x:=x) (λ_ _ _ _=>trivial) hl (vP H);have K1:=cr (show _=blk C.b (.box [C.vu,.om C.g,.om C.p,.om C.k])*(Iv w (C.U++[x])*(blk C.g (.map (eP C.gs))*(blk C.p (.map (eL C.ps))*(blk C.k (.map (oI kn))*(kj kn*R))))) by ac_rfl) K;have K2:=qW (b':=.box [w,.om C.g,.om C.p,.om C.k]) K1 trivial;refine⟨w,s1,_,e1,vX K,?_,cr (by rw[bT];ac_rfl) K2⟩;simp only[ZX,(eG K1).2];rfl
theorem afH{k:Int}{q:aK}(hk:k∉C.gs.map (·.1))(H:Hs aV au σ (bT C kn*R)):∃s,Uj .i (.om C.g) (.ah k) (.agg (aG q)) σ=δ s/\Hs aV au s (bT {C with gs:=C.gs++[(k,q)]} kn*R):=by have K1:=cr (show _=blk C.g (.map (eP C.gs))*(blk C.b (.box [C.vu,.om C.g,.om C.p,.om C.k])*(Iv C.vu C.U*(blk C.p (.map (eL C.ps))*(blk C.k (.map (oI kn))*(kj kn*R))))) by ac_rfl) (vP H);have K2:=qW (b':=.map (eP (C.gs++[(k,q)]))) K1 trivial;refine⟨_,?_,cr (by rw[bT];ac_rfl) K2⟩;simp only[Uj,A.fP,bz,(eG K1).2];rw[show Y8 (aG q)=(λx:aK=>Y8 (aG x)) q from rfl,ym (eK:=λx:Int=>ε x) (eV:=λx:aK=>Y8 (aG x)) (nj _),Il hk];rfl
theorem afI{k:Int}{l:List Int}(hk:k∉C.ps.map (·.1))(H:Hs aV au σ (bT C kn*R)):∃s,Uj .i (.om C.p) (.ah k) (sl 1 aL l) σ=δ s/\Hs aV au s (bT {C with ps:=C.ps++[(k,l)]} kn*R):=by have K1:=cr (show _=blk C.p (.map (eL C.ps))*(blk C.b (.box [C.vu,.om C.g,.om C.p,.om C.k])*(Iv C.vu C.U*(blk C.g (.map (eP C.gs))*(blk C.k (.map (oI kn))*(kj kn*R))))) by ac_rfl) (vP H);have K2:=qW (b':=.map (eL (C.ps++[(k,l)]))) K1 trivial;refine⟨_,?_,cr (by rw[bT];ac_rfl) K2⟩;simp only[Uj,A.fP,bz,(eG K1).2];rw[show sl 1 aL l=(λx:List Int=>sl 1 aL x) l from rfl,ym (eK:=λx:Int=>ε x) (eV:=λx:List Int=>sl 1 aL x) (nj _),Il hk];rfl
theorem ag0{v:AV}{l:List Int}(hm:l.length+1<=cu)(H:Hs aV au σ (Iv v l*R)):Zu ((A.yz (.s 1) xF) [v] σ) σ=δ (sl 1 aL (eJ l)):=by obtain⟨v',σ',e,K⟩:=yj (B:=aV) (λ_ _=>trivial) (cL:=[.s 1]) (r:=RV zk) (sL:=[v]) (ts:=[sl 1 aL l]) ⟨xW pQ H,trivial⟩ (aoy hm) (Cz (B:=aV) σ);obtain⟨v2,e2,e3⟩:=ahl K;have e':xF [v] σ=δ (v',σ'):=e;refine jR ?_;unfold A.yz;rw[e',bS,e2,ff,e3]
theorem ahM(a b c:Int):((((ZS (.ah a)).bind λv=>δ [v]).bind λc8=>(Zv 0 c8 [(ε 0),(ε 0),(ε 0)]).bind λc9=>((ZS (.ah b)).bind λv=>δ [v]).bind λgy=>(Zv 1 gy c9).bind λdI=>((ZS (.ah c)).bind λv=>δ [v]).bind λb9=>(Zv 2 b9 dI).bind λiw=>δ iw).bind λcs=>δ (U0 1 (dW 1 3 cs)))=δ (sl 1 aL [a,b,c]):=rfl
theorem ai0(g p k:Nat):((((ZS (V9 g)).bind λv=>δ [v]).bind λjM=>(Zv 1 jM [ZK,AV.nm,AV.nm,AV.nm]).bind λgC=>((ZS (V9 p)).bind λv=>δ [v]).bind λlN=>(Zv 2 lN gC).bind λgD=>((ZS (V9 k)).bind λv=>δ [v]).bind λlO=>(Zv 3 lO gD).bind λlP=>δ lP).bind λcs=>δ (Y8 cs))=δ (.agg [.aC,.om g,.om p,.om k]):=rfl
theorem SK{l:List Int}(h:l.Nodup){i:Nat}{x:Int}(hx:l[i]? =δ x):x∉l.take i:=by
 intro hm;obtain⟨j,hj⟩:=wA.1 hm;rw[Vj]at hj;split at hj
 ·rename_i q;have h1:=bG.1 hx;have h2:=bG.1 hj;have:=(aqI.1 h) j i h2.1 h1.1 q;exact this (h2.2.trans h1.2.symm)
 ·cases hj
theorem acv{f:AV->AV->AV->AV->Heap->aB}{r:dj}{gl:List bl}{pl:List cJ}{p:aK}{u:List Int×Int}(h:∃b:AV×Heap,f (.agg (b7 r)) (sl 5 bw gl) (sl 3 cN pl) (.agg (aG p)) σ=δ b/\(b.2=σ/\S7 (.t [.s 1,.k]) b.1=.aJ [sl 1 aL u.1,.ah u.2])):Ξ η [kY,(.s 5),(.s 3),fK] (.t [(.s 1),.k]) (A.oF f) [.agg (b7 r),sl 5 bw gl,sl 3 cN pl,.agg (aG p)] σ=δ (.aJ [sl 1 aL u.1,.ah u.2],σ):=by obtain⟨⟨b,s⟩,h1,h2,h3⟩:=h;simp only at h2 h3;subst h2;exact Tf ⟨b,h1,h3⟩
theorem agp(r:dj)(gl:List bl)(pl:List cJ)(p:aK)(hs:oo r/\sO gl/\fW vQ pl/\bH p<=2000000)(σ:Heap):KW [.agg (b7 r),sl 5 bw gl,sl 3 cN pl,.agg (aG p)] σ=δ (.aJ [sl 1 aL (uT r gl pl p).1,.ah (uT r gl pl p).2],σ):=by
 obtain⟨hr,hg,hp,hz⟩:=hs;refine acv ?_;unfold Lk uT;rw[iJ,bS,sY,bS,iK,bS,jR (ana (aao r pl hr hp)),bS,jR (anu (aaW hg)),bS,vR,bS,jR (an5 (Tl hz)),bS,ahM,bS,jR (T7 _ (by simp [bf]) σ),bS,ahn,Jc,bS];by_cases h1:¬(qU r pl=0)
 ·rw[aH h1,aH h1,fF h1,cT];exact⟨_,(qy _).1,rfl,(qy (σ:=σ) _).2⟩
 have h1:=T6.1 h1;rw[aF (show ¬¬(qU r pl=0)from λk=>k h1),aF (show ¬¬(qU r pl=0)from λk=>k h1)];by_cases h2:¬(lI gl=0)
 ·rw[aH h2,aH h2,fF h2,cT];exact⟨_,(qy _).1,rfl,(qy (σ:=σ) _).2⟩
 have h2:=T6.1 h2;rw[aF (show ¬¬(lI gl=0)from λk=>k h2),aF (show ¬¬(lI gl=0)from λk=>k h2)];by_cases h3:¬(oS p=0)
 ·rw[aH h3,fF h3,cT];exact⟨_,(qy _).1,rfl,(qy (σ:=σ) _).2⟩
 have h3:=T6.1 h3;rw[aF (show ¬¬(oS p=0)from λk=>k h3),gq (λk=>k h3),cF];obtain⟨hu,hpl,hst,hpn⟩:=Mn h1;have tV:=MG h2;have hgn:=acR h2;have Dc:=Er h3;have H0:=Cz (B:=aV) σ;have H1:=tj (b:=.map (eP [])) H0 trivial;have H2:=tj (b:=.map (eL [])) H1 trivial;have H3:=tj (b:=.map (oI [])) H2 trivial;obtain⟨g0,AN⟩:∃g0,g0=Ym σ:=⟨_,rfl⟩
 obtain⟨p0,rX⟩:∃p0,p0=Ym (σ++[ZH []]):=⟨_,rfl⟩
 obtain⟨k0,yQ⟩:∃k0,k0=Ym ((σ++[ZH []])++[ZH []]):=⟨_,rfl⟩
 obtain⟨b0,hb0⟩:∃b0,b0=Ym (((σ++[ZH []])++[ZH []])++[ZH []]):=⟨_,rfl⟩
 have H4:=tj (b:=.box [.aC,.om g0,.om p0,.om k0]) H3 trivial;rw[<-AN,<-rX,<-yQ,<-hb0,ai0,bS,show Φ 4 (.agg [.aC,.om g0,.om p0,.om k0])=δ [.aC,.om g0,.om p0,.om k0]from rfl,bS,jz,bS,cy,bS]
 have H5:Hs aV σ (((σ++[ZH []])++[ZH []])++[ZH []]++[apF [.aC,.om g0,.om p0,.om k0]]) (bT ⟨b0,g0,p0,k0,.aC,[],[],[]⟩ []*emp):=by refine aeP ?_;rw[hb0,yQ,rX,AN];rw[yQ,rX,AN]at H4;exact H4
 clear H0 H1 H2 H3 H4;have nc:A.jJ (.op b0 0)=δ (.op b0 0):=rfl;have FR:SN 0 (.op b0 0)=δ (.op b0 0):=rfl;have PS:SN 1 (.op b0 0)=δ (.op b0 1):=rfl;have PT:SN 2 (.op b0 0)=δ (.op b0 2):=rfl;refine nw (Q:=λq=>∃w u,q.1=.exit 0/\q.2.1=[.lbx (aG p),u]/\Hs aV σ q.2.2 (bT ⟨b0,g0,p0,k0,w,dZ r,[],[]⟩ []*emp)) (kq r.dQ (λi vs s=>∃w,vs=[.lbx (aG p),.ah (i:Int)]/\Hs aV σ s (bT ⟨b0,g0,p0,k0,w,(dZ r).take i,[],[]⟩ []*emp)) ?_ ?_ ⟨.aC,rfl,H5⟩) ?_
 ·rintro i x vs s hx ⟨w,rfl,K⟩;have a1:ZN (.ah (i:Int)) (.ah (r.dQ.length:Int))=δ (.bool η):=dP hx;have a2:Zn (.ah (i:Int)) (.ah 1)=δ (.ah ((i+1:Nat):Int)):=dY hx (by unfold bf;omega);have a3:Zp 4 (sl 4 eH r.dQ) (.ah (i:Int))=δ (.rp (eH x)):=ey hx;have hx':(dZ r)[i]? =δ x.aE:=by unfold dZ;rw[tG,hx];rfl
  have hul:(dZ r).length=r.dQ.length:=by unfold dZ;rw[Zk]
  obtain⟨w',s1,s2,e1,e2,e3,K2⟩:=afJ (x:=x.aE) (by have:=R8 i (dZ r);show((dZ r).take i).length+1<=cu;unfold cu;omega) K;have d0:=aoW K;refine⟨_,s2,?_,w',rfl,by rw[Z9,hx'];exact K2⟩;simp only[bN,cW,a1,a2,a3,bS,cT,je,gO,gM,gP x _ (rfl:([(ε 0),cK,(ε 0),(ε 0)]:aq).length=4),gL,nc,FR,d0,vf,e1,e2,e3]
 ·rintro vs s ⟨w,rfl,K⟩;rw[mR (by unfold dZ;simp)]at K;refine⟨(.exit 0,[.lbx (aG p),.ah (r.dQ.length:Int)],s),?_,by simp,w,_,rfl,rfl,K⟩;simp only[bN,cW,dX,bS,cF]
 rintro⟨q1,q2,s⟩ ⟨w,u,rfl,rfl,K⟩;simp only at K;clear H5;rw[kK,cy,bS];refine nw (Q:=λq=>∃u,q.1=.exit 2/\q.2.1=[.lbx (aG p),u]/\Hs aV σ q.2.2 (bT ⟨b0,g0,p0,k0,w,dZ r,cG gl,[]⟩ []*emp)) (kq gl (λi vs s=>vs=[.lbx (aG p),.ah (i:Int)]/\Hs aV σ s (bT ⟨b0,g0,p0,k0,w,dZ r,cG (gl.take i),[]⟩ []*emp)) ?_ ?_ ⟨rfl,K⟩) ?_
 ·rintro i x vs s hx ⟨rfl,K⟩;have a1:ZN (.ah (i:Int)) (.ah (gl.length:Int))=δ (.bool η):=dP hx;have a2:Zn (.ah (i:Int)) (.ah 1)=δ (.ah ((i+1:Nat):Int)):=dY hx hg.1;have a3:Zp 5 (sl 5 bw gl) (.ah (i:Int))=δ (.rp (bw x)):=ey hx
  have hk:x.aE∉(cG (gl.take i)).map (·.1):=by have:=SK (i:=i) (x:=x.aE) hgn (by rw[tG,hx];rfl);unfold cG;rw[List.map_map];rw[<-List.map_take]at this;exact this
  obtain⟨s2,e1,K2⟩:=afH (q:=x.pick) hk K;have d1:=Od K;have wS:Uj .i (.om g0) (.ah x.aE) (.agg (aG x.pick)) s=δ s2:=e1;have d1':((Γ (.op b0 1) s).bind λc=>Δ 0 c)=δ (.om g0):=d1;have f0:Z0 0 5 (bw x)=δ (.agg (bw x)):=rfl;have f1:Φ 5 (.agg (bw x))=δ (bw x):=rfl;have f2:Δ 0 (bw x)=δ (.ah x.aE):=rfl;have f3:Z0 1 4 (bw x)=δ (.agg (aG x.pick)):=by rw[DS,aA];rfl
  refine⟨_,s2,?_,rfl,?_⟩
  ·simp only[bN,cW,a1,a2,a3,bS,cT,je,f0,f1,qS x _ (rfl:([(ε 0),(ε 0),(ε 0),(ε 0),ZK]:aq).length=5),nc,PS,d1',f2,f3,wS]
  ·rw[Z9,hx];unfold cG at K2 ⊢;rw[Zw];exact K2
 ·rintro vs s ⟨rfl,K⟩;rw[ZP]at K;refine⟨(.exit 2,[.lbx (aG p),.ah (gl.length:Int)],s),?_,by simp,_,rfl,rfl,K⟩;simp only[bN,cW,dX,bS,cF]
 rintro⟨q1,q2,s⟩ ⟨u,rfl,rfl,K⟩;simp only at K;rw[kK,cy,bS];refine nw (Q:=λq=>∃u,q.1=.exit 4/\q.2.1=[.lbx (aG p),u]/\Hs aV σ q.2.2 (bT ⟨b0,g0,p0,k0,w,dZ r,cG gl,dM pl⟩ []*emp)) (kq pl (λi vs s=>vs=[.lbx (aG p),.ah (i:Int)]/\Hs aV σ s (bT ⟨b0,g0,p0,k0,w,dZ r,cG gl,dM (pl.take i)⟩ []*emp)) ?_ ?_ ⟨rfl,K⟩) ?_
 ·rintro i x vs s hx ⟨rfl,K⟩;have a1:ZN (.ah (i:Int)) (.ah (pl.length:Int))=δ (.bool η):=dP hx;have a2:Zn (.ah (i:Int)) (.ah 1)=δ (.ah ((i+1:Nat):Int)):=dY hx hp.1;have a3:Zp 3 (sl 3 cN pl) (.ah (i:Int))=δ (.rp (cN x)):=ey hx;have hxs:=hst x (ct hx)
  have hk:x.aE∉(dM (pl.take i)).map (·.1):=by have:=SK (i:=i) (x:=x.aE) hpn (by rw[tG,hx];rfl);unfold dM;rw[List.map_map];rw[<-List.map_take]at this;exact this
  have hin:∃q,Zo ((λlV A5=>
         (ZN (aj lV 3) (.ah (x.eW.length:Int))).bind λxz=>
         ξ xz (
          (Zp 3 (sl 3 jA x.eW) (aj lV 3)).bind λGN=>
          ((Γ GN A5).bind λwR=>Z0 0 3 wR).bind λvJ=>
          (Φ 3 vJ).bind λFK=>
          (Zv 0 FK [(ε 0),cK,(ε 0)]).bind λFL=>
          (Δ 0 FL).bind λxA=>
          ((((ZS xA).bind λv=>δ [v]).bind λPL=>(Zv 0 PL [(ε 0)]).bind λFM=>δ FM).bind λcs=>δ (U0 1 (dW 1 1 cs))).bind λuj=>
          (ZI 1 (140737488355328 / 8) (aj lV 2) uj A5).bind λqO=>
          (Zn (aj lV 3) (ε 1)).bind λxB=>
          δ (Λ,[(aj lV 0),(aj lV 1),qO.1,xB],qO.2)) (
          δ (φ 6,[(aj lV 0),(aj lV 1),(aj lV 2),(aj lV 3)],A5)))) [.lbx (aG p),.lbx (cN x),.aC,.ah 0] s=δ q/\(∃w2 u,q.1=.exit 6/\q.2.1=[.lbx (aG p),.lbx (cN x),w2,u]/\Hs aV σ q.2.2 (Iv w2 (jW x)*(bT ⟨b0,g0,p0,k0,w,dZ r,cG gl,dM (pl.take i)⟩ []*emp))):=by
   refine kq x.eW (λj vs s=>∃w2,vs=[.lbx (aG p),.lbx (cN x),w2,.ah (j:Int)]/\Hs aV σ s (Iv w2 ((jW x).take j)*(bT ⟨b0,g0,p0,k0,w,dZ r,cG gl,dM (pl.take i)⟩ []*emp))) ?_ ?_ ⟨.aC,rfl,kO K (.inl rfl)⟩
   ·rintro j y vs s2 hy ⟨w2,rfl,K2⟩;have hj:=(bG.1 hy).1;have b1:ZN (.ah (j:Int)) (.ah (x.eW.length:Int))=δ (.bool η):=dP hy;have b2:Zn (.ah (j:Int)) (.ah 1)=δ (.ah ((j+1:Nat):Int)):=dY hy (by unfold bf;omega);have b3:Zp 3 (sl 3 jA x.eW) (.ah (j:Int))=δ (.rp (jA y)):=ey hy;have hy':(jW x)[j]? =δ y.key.unit:=by unfold jW;rw[tG,hy];rfl
    obtain⟨w',s3,e1,K3⟩:=uP (B:=aV) (x:=y.key.unit) (λ_ _ _ _=>trivial) (by have:=List.length_take_le j (jW x);unfold cu;omega) K2;refine⟨_,s3,?_,w',rfl,by rw[Z9,hy',YA];exact K3⟩;simp only[bN,cW,b1,b2,b3,bS,cT,je,anT,R9,Hv y _ (rfl:([(ε 0),cK,(ε 0)]:aq).length=3),RH,vf,e1]
   ·rintro vs s2 ⟨w2,rfl,K2⟩;rw[mR (by unfold jW;simp)]at K2;refine⟨(.exit 6,[.lbx (aG p),.lbx (cN x),w2,.ah (x.eW.length:Int)],s2),?_,by simp,w2,_,rfl,rfl,K2⟩;simp only[bN,cW,dX,bS,cF]
  obtain⟨⟨qa,qv,s3⟩,e4,w2,u2,rfl,rfl,K3⟩:=hin;simp only at K3;have K4:=eX K3;have d2:((Γ (.op b0 2) s3).bind λc=>Δ 0 c)=δ (.om p0):=Oe K4;have e5:=ag0 (by unfold jW cu;rw[Zk];omega) K3;obtain⟨s5,e6,K5⟩:=afI (l:=eJ (jW x)) hk K4;have e6':Uj .i (.om p0) (.ah x.aE) (sl 1 aL (eJ (jW x))) s3=δ s5:=e6;refine⟨_,s5,?_,rfl,?_⟩
  ·simp only[bN,cW,a1,a2,a3,bS,cT,je,ac5,acK,zn x _ (rfl:([(ε 0),cK,ZK]:aq).length=3),RX,cy,e4,kK,nc,PT,d2,vn,aa8,e5,e6']
  ·rw[Z9,hx];unfold dM at K5 ⊢;rw[Zw];exact K5
 ·rintro vs s ⟨rfl,K⟩;rw[ZP]at K;refine⟨(.exit 4,[.lbx (aG p),.ah (pl.length:Int)],s),?_,by simp,_,rfl,rfl,K⟩;simp only[bN,cW,dX,bS,cF]
 rintro⟨q1,q2,s⟩ ⟨u,rfl,rfl,K⟩;simp only at K;rw[kK];simp only[bN,vn,bS,vR];have K1:=tj (b:=.map (eS [])) K trivial;obtain⟨gG,ajk⟩:∃gG,gG=Ym s:=⟨_,rfl⟩
 rw[<-ajk]at K1 ⊢;have hsz:∀k g,bh k (cG gl)=δ g->bH g<=200:=λk g h=>(Ur h2 k g h).1
 obtain⟨s1,e1,K2⟩:=TC (C:=⟨b0,g0,p0,k0,w,dZ r,cG gl,dM pl⟩) hsz (gl.length+1) 2000000 p [] [] gG σ _ emp Dc.1 (by have:=uS ((cG gl).map (·.1)) [];rw[Zk]at this;unfold cG at this ⊢;rw[Zk]at this;show jk ((gl.map λg=>(g.aE,g.pick)).map (·.1)) []<_;omega) (by omega) K1;have wS:GX [.op b0 0,.agg (aG p),.om gG] (s++[ZH []])=δ (.bool (iZ (cG gl) (dM pl) (gl.length+1) p []).1,s1):=e1;rw[wS,bS];rw[ae1 (cG gl) (dM pl) (n:=gl.length+1) (m:=gl.length+2) (by unfold cG;rw[Zk];omega) (aoQ (Tx h2) p)];cases hk:jF (cG gl) (dM pl) (gl.length+2) p with
 |false=>rw[aH rfl,show(!ι)=η from rfl,cT];exact⟨(.aJ [.aC,.ah 8],σ),Nh (Nk K2) (by simp [X0,Xu]) (λ_=>rfl),rfl,rfl⟩
 |true=>rw[aF (by decide),show(!η)=ι from rfl,cF];obtain⟨v,s2,Gn,e2,_,K3⟩:=WM (C:=⟨b0,g0,p0,k0,w,dZ r,cG gl,dM pl⟩) (by show(dZ r).length<=_;unfold dZ;rw[Zk];omega) (λn p _=>Mw h1 n p) ((gl.length+2)*12) 2000000 p [] σ s1 emp (by omega) (UE h2 h3 hk) (λe he=>by cases he) (eX K2);have wU:G1 [.op b0 0,.agg (aG p)] s1=δ (v,s2):=e2;obtain⟨v',e3,e4⟩:=VS K3;rw[wU,bS];exact⟨_,e3,rfl,e4⟩
end
end
section
def Dx (a0:dj) (a1:(List bl)) (a2:(List cJ)) (a3:aK):Option Bool:=(tq (oo a0/\sO a1/\fW vQ a2/\bH a3<=2000000) (uT a0 a1 a2 a3)).bind λr1=>(tq (oo a0/\sO a1/\fW vQ a2/\bH a3<=2000000) (uT a0 a1 a2 a3)).bind λr2=>(Bv r1.1 r2.1).bind λr3=>δ (r3&&(decide (r1.2=r2.2)))
theorem Zq{a0:dj}{a1:(List bl)}{a2:(List cJ)}{a3:aK}{σ:Heap}{r:Bool}(h:Dx a0 a1 a2 a3=δ r):aoT [(Y8 (b7 a0)),(sl 5 bw a1),(sl 3 cN a2),(Y8 (aG a3))] σ=δ ((χ r),σ):=by refine afb (f:=J9) (y0:=(Y8 (b7 a0))) (y1:=(sl 5 bw a1)) (y2:=(sl 3 cN a2)) (y3:=(Y8 (aG a3))) (enc:=λr:Bool=>(χ r)) (T:=Dx a0 a1 a2 a3) (by first|rfl|(simp only[aA];rfl)) (by first|rfl|(simp only[aA];rfl)) ?_ r h;unfold J9 Dx;refine ak (b7 a0) (by first|rfl|(simp only[aA];rfl))<|ak (aG a3) (by first|rfl|(simp only[aA];rfl))<|ak (Y8 (b7 a0)) (by first|rfl|(simp only[aA];rfl))<|ak (Y8 (aG a3)) (by first|rfl|(simp only[aA];rfl)) ?_;refine fJ (λr1:((List Int)×Int)=>((Zz [(sl 1 aL r1.1),(ε r1.2)]),σ)) (λr1 kL=>(mw (e:=λr:((List Int)×Int)=>((Zz [(sl 1 aL r.1),(ε r.2)]),σ)) (λhs=>agp a0 a1 a2 a3 hs σ)) kL) (λr1 kL=>?_);refine ak (sl 1 aL r1.1) (by first|rfl|(simp only[aA];rfl))<|ak (ε r1.2) (by first|rfl|(simp only[aA];rfl))<|ak (Y8 (b7 a0)) (by first|rfl|(simp only[aA];rfl))<|ak (Y8 (aG a3)) (by first|rfl|(simp only[aA];rfl)) ?_;refine fJ (λr2:((List Int)×Int)=>((Zz [(sl 1 aL r2.1),(ε r2.2)]),σ)) (λr2 mE=>(mw (e:=λr:((List Int)×Int)=>((Zz [(sl 1 aL r.1),(ε r.2)]),σ)) (λhs=>afj a0 a1 a2 a3 hs σ)) mE) (λr2 mE=>?_);refine ak (sl 1 aL r2.1) (by first|rfl|(simp only[aA];rfl))<|ak (ε r2.2) (by first|rfl|(simp only[aA];rfl)) ?_;refine fJ (λr3:Bool=>((χ r3),σ)) (λr3 F8=>anO F8) (λr3 F8=>?_);refine bX (ε r1.2) (λhg=>by first|rfl|(simp only[aA];rfl))<|bX (ε r2.2) (λhg=>by first|rfl|(simp only[aA];rfl))<|bX (χ (decide (r1.2=r2.2))) (λhg=>by(try rw[hg]);exact(ef _ _ _))<|ak _ (gb _ _) ?_;exact bZ _ (bU _ _) ⟨rfl,rfl⟩
end
theorem adu(r:dj)(gl:List bl)(pl:List cJ)(p:aK):(uT r gl pl p).1.length<=bf:=by
 unfold uT;split
 ·exact jK _
 split
 ·exact jK _
 split
 ·exact jK _
 split
 ·exact jK _
 rename_i h1 _ _ _;have:=Mw (gl:=gl) (T6.1 h1) ((gl.length+2)*12) p;show(uF (dZ r) (cG gl) (dM pl) ((gl.length+2)*12) p).length<=bf;unfold bf;omega
theorem Zr(r:dj)(gl:List bl)(pl:List cJ)(p:aK)(hr:oo r)(hg:sO gl)(hl:fW vQ pl)(hp:bH p<=2000000):Dx r gl pl p=δ η:=by unfold Dx;simp only[nB (show oo r/\sO gl/\fW vQ pl/\bH p<=2000000 from⟨hr,hg,hl,hp⟩),aO,aeM _ (adu r gl pl p),decide_true,Bool.and_self]
section
open Go.RowKit
def Gr(w w':World):Prop:=Below w.heap.size w w'
theorem Gr.cell{a b:World}(h:Gr a b){p:Addr}{v:Value}(hc:a.cell? p=δ v):b.cell? p=δ v:=by
 by_cases hp:p.block<a.heap.size
 ·rw[Below.cell h hp];exact hc
 ·have:a.heap[p.block]? =μ:=Array.getElem?_eq_none (by omega);simp [apP,this]at hc
abbrev amM(w:World)(b:Nat)(v0:Value):Prop:=(w.cell? ⟨b,0,μ⟩=δ v0)/\(w.frozen? ⟨b,0,μ⟩=ι)/\b<w.heap.size
abbrev amN(w:World)(b:Nat)(v0 v1:Value):Prop:=(w.cell? ⟨b,0,μ⟩=δ v0/\w.cell? ⟨b,1,μ⟩=δ v1)/\(w.frozen? ⟨b,0,μ⟩=ι/\w.frozen? ⟨b,1,μ⟩=ι)/\b<w.heap.size
abbrev amO(w:World)(b:Nat)(v0 v1 v2:Value):Prop:=(w.cell? ⟨b,0,μ⟩=δ v0/\w.cell? ⟨b,1,μ⟩=δ v1/\w.cell? ⟨b,2,μ⟩=δ v2)/\(w.frozen? ⟨b,0,μ⟩=ι/\w.frozen? ⟨b,1,μ⟩=ι/\w.frozen? ⟨b,2,μ⟩=ι)/\b<w.heap.size
abbrev amP(w:World)(b:Nat)(v0 v1 v2 v3:Value):Prop:=(w.cell? ⟨b,0,μ⟩=δ v0/\w.cell? ⟨b,1,μ⟩=δ v1/\w.cell? ⟨b,2,μ⟩=δ v2/\w.cell? ⟨b,3,μ⟩=δ v3)/\(w.frozen? ⟨b,0,μ⟩=ι/\w.frozen? ⟨b,1,μ⟩=ι/\w.frozen? ⟨b,2,μ⟩=ι/\w.frozen? ⟨b,3,μ⟩=ι)/\b<w.heap.size
abbrev amQ(w:World)(b:Nat)(v0 v1 v2 v3 v4:Value):Prop:=(w.cell? ⟨b,0,μ⟩=δ v0/\w.cell? ⟨b,1,μ⟩=δ v1/\w.cell? ⟨b,2,μ⟩=δ v2/\w.cell? ⟨b,3,μ⟩=δ v3/\w.cell? ⟨b,4,μ⟩=δ v4)/\(w.frozen? ⟨b,0,μ⟩=ι/\w.frozen? ⟨b,1,μ⟩=ι/\w.frozen? ⟨b,2,μ⟩=ι/\w.frozen? ⟨b,3,μ⟩=ι/\w.frozen? ⟨b,4,μ⟩=ι)/\b<w.heap.size
abbrev amR(w:World)(b:Nat)(v0 v1 v2 v3 v4 v5:Value):Prop:=(w.cell? ⟨b,0,μ⟩=δ v0/\w.cell? ⟨b,1,μ⟩=δ v1/\w.cell? ⟨b,2,μ⟩=δ v2/\w.cell? ⟨b,3,μ⟩=δ v3/\w.cell? ⟨b,4,μ⟩=δ v4/\w.cell? ⟨b,5,μ⟩=δ v5)/\(w.frozen? ⟨b,0,μ⟩=ι/\w.frozen? ⟨b,1,μ⟩=ι/\w.frozen? ⟨b,2,μ⟩=ι/\w.frozen? ⟨b,3,μ⟩=ι/\w.frozen? ⟨b,4,μ⟩=ι/\w.frozen? ⟨b,5,μ⟩=ι)/\b<w.heap.size
abbrev amS(w:World)(b:Nat)(v0 v1 v2 v3 v4 v5 v6:Value):Prop:=(w.cell? ⟨b,0,μ⟩=δ v0/\w.cell? ⟨b,1,μ⟩=δ v1/\w.cell? ⟨b,2,μ⟩=δ v2/\w.cell? ⟨b,3,μ⟩=δ v3/\w.cell? ⟨b,4,μ⟩=δ v4/\w.cell? ⟨b,5,μ⟩=δ v5/\w.cell? ⟨b,6,μ⟩=δ v6)/\(w.frozen? ⟨b,0,μ⟩=ι/\w.frozen? ⟨b,1,μ⟩=ι/\w.frozen? ⟨b,2,μ⟩=ι/\w.frozen? ⟨b,3,μ⟩=ι/\w.frozen? ⟨b,4,μ⟩=ι/\w.frozen? ⟨b,5,μ⟩=ι/\w.frozen? ⟨b,6,μ⟩=ι)/\b<w.heap.size
abbrev amT(w:World)(b:Nat)(v0 v1 v2 v3 v4 v5 v6 v7:Value):Prop:=(w.cell? ⟨b,0,μ⟩=δ v0/\w.cell? ⟨b,1,μ⟩=δ v1/\w.cell? ⟨b,2,μ⟩=δ v2/\w.cell? ⟨b,3,μ⟩=δ v3/\w.cell? ⟨b,4,μ⟩=δ v4/\w.cell? ⟨b,5,μ⟩=δ v5/\w.cell? ⟨b,6,μ⟩=δ v6/\w.cell? ⟨b,7,μ⟩=δ v7)/\(w.frozen? ⟨b,0,μ⟩=ι/\w.frozen? ⟨b,1,μ⟩=ι/\w.frozen? ⟨b,2,μ⟩=ι/\w.frozen? ⟨b,3,μ⟩=ι/\w.frozen? ⟨b,4,μ⟩=ι/\w.frozen? ⟨b,5,μ⟩=ι/\w.frozen? ⟨b,6,μ⟩=ι/\w.frozen? ⟨b,7,μ⟩=ι)/\b<w.heap.size
abbrev amU(w:World)(b:Nat)(v0 v1 v2 v3 v4 v5 v6 v7 v8:Value):Prop:=(w.cell? ⟨b,0,μ⟩=δ v0/\w.cell? ⟨b,1,μ⟩=δ v1/\w.cell? ⟨b,2,μ⟩=δ v2/\w.cell? ⟨b,3,μ⟩=δ v3/\w.cell? ⟨b,4,μ⟩=δ v4/\w.cell? ⟨b,5,μ⟩=δ v5/\w.cell? ⟨b,6,μ⟩=δ v6/\w.cell? ⟨b,7,μ⟩=δ v7/\w.cell? ⟨b,8,μ⟩=δ v8)/\(w.frozen? ⟨b,0,μ⟩=ι/\w.frozen? ⟨b,1,μ⟩=ι/\w.frozen? ⟨b,2,μ⟩=ι/\w.frozen? ⟨b,3,μ⟩=ι/\w.frozen? ⟨b,4,μ⟩=ι/\w.frozen? ⟨b,5,μ⟩=ι/\w.frozen? ⟨b,6,μ⟩=ι/\w.frozen? ⟨b,7,μ⟩=ι/\w.frozen? ⟨b,8,μ⟩=ι)/\b<w.heap.size
abbrev amv(w:World)(b:Nat)(v0 v1 v2 v3 v4 v5 v6 v7 v8 v9:Value):Prop:=(w.cell? ⟨b,0,μ⟩=δ v0/\w.cell? ⟨b,1,μ⟩=δ v1/\w.cell? ⟨b,2,μ⟩=δ v2/\w.cell? ⟨b,3,μ⟩=δ v3/\w.cell? ⟨b,4,μ⟩=δ v4/\w.cell? ⟨b,5,μ⟩=δ v5/\w.cell? ⟨b,6,μ⟩=δ v6/\w.cell? ⟨b,7,μ⟩=δ v7/\w.cell? ⟨b,8,μ⟩=δ v8/\w.cell? ⟨b,9,μ⟩=δ v9)/\(w.frozen? ⟨b,0,μ⟩=ι/\w.frozen? ⟨b,1,μ⟩=ι/\w.frozen? ⟨b,2,μ⟩=ι/\w.frozen? ⟨b,3,μ⟩=ι/\w.frozen? ⟨b,4,μ⟩=ι/\w.frozen? ⟨b,5,μ⟩=ι/\w.frozen? ⟨b,6,μ⟩=ι/\w.frozen? ⟨b,7,μ⟩=ι/\w.frozen? ⟨b,8,μ⟩=ι/\w.frozen? ⟨b,9,μ⟩=ι)/\b<w.heap.size
abbrev amw(w:World)(b:Nat)(v0 v1 v2 v3 v4 v5 v6 v7 v8 v9 v10:Value):Prop:=(w.cell? ⟨b,0,μ⟩=δ v0/\w.cell? ⟨b,1,μ⟩=δ v1/\w.cell? ⟨b,2,μ⟩=δ v2/\w.cell? ⟨b,3,μ⟩=δ v3/\w.cell? ⟨b,4,μ⟩=δ v4/\w.cell? ⟨b,5,μ⟩=δ v5/\w.cell? ⟨b,6,μ⟩=δ v6/\w.cell? ⟨b,7,μ⟩=δ v7/\w.cell? ⟨b,8,μ⟩=δ v8/\w.cell? ⟨b,9,μ⟩=δ v9/\w.cell? ⟨b,10,μ⟩=δ v10)/\(w.frozen? ⟨b,0,μ⟩=ι/\w.frozen? ⟨b,1,μ⟩=ι/\w.frozen? ⟨b,2,μ⟩=ι/\w.frozen? ⟨b,3,μ⟩=ι/\w.frozen? ⟨b,4,μ⟩=ι/\w.frozen? ⟨b,5,μ⟩=ι/\w.frozen? ⟨b,6,μ⟩=ι/\w.frozen? ⟨b,7,μ⟩=ι/\w.frozen? ⟨b,8,μ⟩=ι/\w.frozen? ⟨b,9,μ⟩=ι/\w.frozen? ⟨b,10,μ⟩=ι)/\b<w.heap.size
abbrev amx(w:World)(b:Nat)(v0 v1 v2 v3 v4 v5 v6 v7 v8 v9 v10 v11:Value):Prop:=(w.cell? ⟨b,0,μ⟩=δ v0/\w.cell? ⟨b,1,μ⟩=δ v1/\w.cell? ⟨b,2,μ⟩=δ v2/\w.cell? ⟨b,3,μ⟩=δ v3/\w.cell? ⟨b,4,μ⟩=δ v4/\w.cell? ⟨b,5,μ⟩=δ v5/\w.cell? ⟨b,6,μ⟩=δ v6/\w.cell? ⟨b,7,μ⟩=δ v7/\w.cell? ⟨b,8,μ⟩=δ v8/\w.cell? ⟨b,9,μ⟩=δ v9/\w.cell? ⟨b,10,μ⟩=δ v10/\w.cell? ⟨b,11,μ⟩=δ v11)/\(w.frozen? ⟨b,0,μ⟩=ι/\w.frozen? ⟨b,1,μ⟩=ι/\w.frozen? ⟨b,2,μ⟩=ι/\w.frozen? ⟨b,3,μ⟩=ι/\w.frozen? ⟨b,4,μ⟩=ι/\w.frozen? ⟨b,5,μ⟩=ι/\w.frozen? ⟨b,6,μ⟩=ι/\w.frozen? ⟨b,7,μ⟩=ι/\w.frozen? ⟨b,8,μ⟩=ι/\w.frozen? ⟨b,9,μ⟩=ι/\w.frozen? ⟨b,10,μ⟩=ι/\w.frozen? ⟨b,11,μ⟩=ι)/\b<w.heap.size
abbrev amy(w:World)(b:Nat)(v0 v1 v2 v3 v4 v5 v6 v7 v8 v9 v10 v11 v12:Value):Prop:=(w.cell? ⟨b,0,μ⟩=δ v0/\w.cell? ⟨b,1,μ⟩=δ v1/\w.cell? ⟨b,2,μ⟩=δ v2/\w.cell? ⟨b,3,μ⟩=δ v3/\w.cell? ⟨b,4,μ⟩=δ v4/\w.cell? ⟨b,5,μ⟩=δ v5/\w.cell? ⟨b,6,μ⟩=δ v6/\w.cell? ⟨b,7,μ⟩=δ v7/\w.cell? ⟨b,8,μ⟩=δ v8/\w.cell? ⟨b,9,μ⟩=δ v9/\w.cell? ⟨b,10,μ⟩=δ v10/\w.cell? ⟨b,11,μ⟩=δ v11/\w.cell? ⟨b,12,μ⟩=δ v12)/\(w.frozen? ⟨b,0,μ⟩=ι/\w.frozen? ⟨b,1,μ⟩=ι/\w.frozen? ⟨b,2,μ⟩=ι/\w.frozen? ⟨b,3,μ⟩=ι/\w.frozen? ⟨b,4,μ⟩=ι/\w.frozen? ⟨b,5,μ⟩=ι/\w.frozen? ⟨b,6,μ⟩=ι/\w.frozen? ⟨b,7,μ⟩=ι/\w.frozen? ⟨b,8,μ⟩=ι/\w.frozen? ⟨b,9,μ⟩=ι/\w.frozen? ⟨b,10,μ⟩=ι/\w.frozen? ⟨b,11,μ⟩=ι/\w.frozen? ⟨b,12,μ⟩=ι)/\b<w.heap.size
abbrev amz(w:World)(b:Nat)(v0 v1 v2 v3 v4 v5 v6 v7 v8 v9 v10 v11 v12 v13:Value):Prop:=(w.cell? ⟨b,0,μ⟩=δ v0/\w.cell? ⟨b,1,μ⟩=δ v1/\w.cell? ⟨b,2,μ⟩=δ v2/\w.cell? ⟨b,3,μ⟩=δ v3/\w.cell? ⟨b,4,μ⟩=δ v4/\w.cell? ⟨b,5,μ⟩=δ v5/\w.cell? ⟨b,6,μ⟩=δ v6/\w.cell? ⟨b,7,μ⟩=δ v7/\w.cell? ⟨b,8,μ⟩=δ v8/\w.cell? ⟨b,9,μ⟩=δ v9/\w.cell? ⟨b,10,μ⟩=δ v10/\w.cell? ⟨b,11,μ⟩=δ v11/\w.cell? ⟨b,12,μ⟩=δ v12/\w.cell? ⟨b,13,μ⟩=δ v13)/\(w.frozen? ⟨b,0,μ⟩=ι/\w.frozen? ⟨b,1,μ⟩=ι/\w.frozen? ⟨b,2,μ⟩=ι/\w.frozen? ⟨b,3,μ⟩=ι/\w.frozen? ⟨b,4,μ⟩=ι/\w.frozen? ⟨b,5,μ⟩=ι/\w.frozen? ⟨b,6,μ⟩=ι/\w.frozen? ⟨b,7,μ⟩=ι/\w.frozen? ⟨b,8,μ⟩=ι/\w.frozen? ⟨b,9,μ⟩=ι/\w.frozen? ⟨b,10,μ⟩=ι/\w.frozen? ⟨b,11,μ⟩=ι/\w.frozen? ⟨b,12,μ⟩=ι/\w.frozen? ⟨b,13,μ⟩=ι)/\b<w.heap.size
end
section
open Go.RowKit Go.Deep
structure dS (α : Type) where
 size:Nat
 is:World->List Value->α->Prop
 len:∀{w cs a},is w cs a->cs.length=size
 mono:∀{w w' cs a},is w cs a->Gr w w'->is w' cs a
 ck:α->Nat
def eZ:dS Int where
 size:=1
 is:=λ_ cs n=>cs=[.int Θ n]/\-9223372036854775808<=n/\n<=9223372036854775807
 len:=λh=>by rw[h.1];rfl
 mono:=λh _=>h
 ck:=λ_=>1
def IX:dS Bool where
 size:=1
 is:=λ_ cs b=>cs=[.bool b]
 len:=λh=>by rw[h];rfl
 mono:=λh _=>h
 ck:=λ_=>1
def qK:dS ByteArray where
 size:=1
 is:=λ_ cs s=>cs=[.string s]/\s.size<=maxLen
 len:=λh=>by rw[h.1];rfl
 mono:=λh _=>h
 ck:=λs=>s.size+1
def dS.pair{α β:Type}(c:dS α)(d:dS β):dS (α×β) where
 size:=c.size+d.size
 is:=λw cs x=>c.is w (cs.take c.size) x.1/\d.is w (cs.drop c.size) x.2
 len:=λ{w cs a}h=>by have h1:=c.len h.1;have h2:=d.len h.2;simp at h1 h2;omega
 mono:=λh g=>⟨c.mono h.1 g,d.mono h.2 g⟩
 ck:=λx=>c.ck x.1+d.ck x.2
def ep{α:Type}(c:dS α):dS (List α) where
 size:=1
 is:=λw cs l=>(cs=[.slice μ 0 0]/\l=[])\/∃(b off:Nat)(sp:Option Nat)(cap:Nat),cs=[.slice (δ ⟨b,off,sp⟩) l.length cap]/\l.length<=cap/\l.length<=maxLen/\
  ∀i(h:i<l.length),sp=μ/\∃cs',(∀j,j<c.size->w.cell? ⟨b,off+(i*c.size+j),μ⟩=cs'[j]?)/\c.is w cs' l[i]
 len:=λh=>by rcases h with⟨rfl,_⟩|⟨b,off,sp,cap,rfl,_⟩<;>rfl
 mono:=λ{w w' cs l}h g=>by
  rcases h with h|⟨b,off,sp,cap,h1,h2,h3,h4⟩
  ·exact .inl h
  ·refine .inr ⟨b,off,sp,cap,h1,h2,h3,λi hi=>?_⟩;obtain⟨e,cs',h5,h6⟩:=h4 i hi;refine⟨e,cs',λj hj=>?_,c.mono h6 g⟩;have h7:=h5 j hj;have hl:=c.len h6;rw[dg (by omega)]at h7 ⊢;exact g.cell h7
 ck:=λl=>(l.map c.ck).sum+1
def gz{α:Type}(F:Nat->Prop)(P:Program)(c:dS α)(t:TypeId):Prop:=∀⦃H:Type⦄ ⦃enc:TypeId×Value->H⦄ ⦃w:World⦄ ⦃base:Nat⦄ ⦃spare:Nat->Bool⦄ ⦃held:Bool⦄ ⦃fuel:Nat⦄ ⦃cs:List Value⦄ ⦃x:DataW H×List MemPlace⦄,F fuel->DataW.trod enc P w base spare held fuel t cs=δ x->∃a,c.is w cs a/\c.ck a<=Rows.uptoBulk x.1
abbrev Reads{α:Type}(P:Program)(c:dS α)(t:TypeId):Prop:=gz (λ_=>True) P c t
theorem DR{H:Type}(l:List (DataW H)):Rows.uptoBulkAll l=(l.map Rows.uptoBulk).sum:=by
 induction l with
 |nil=>rfl
 |cons x r ih=>simp only[Rows.uptoBulkAll,dH,Xg,ih]
theorem an9{α:Type}(f:α->Nat)(D:Nat->Nat):∀(l:List α)(o:Nat),(∀i(h:i<l.length),f l[i]<=D (o+i))->(l.map f).sum<=((apN o l.length).map D).sum
 |[],_,_=>by simp
 |x::r,o,h=>by simp only[ZT,aqq,dH,Xg];have h0:=h 0 (by simp);have:=an9 f D r (o+1) (λi hi=>by have:=h (i+1) (by simp;omega);simp only[List.getElem_cons_succ]at this;rw[show o+1+i=o+(i+1) by omega];exact this);simp at h0;omega
theorem wf_i64{n:Int}(h:(Lit.int Θ n).wf=η):-9223372036854775808<=n/\n<=9223372036854775807:=by simpa [Lit.wf,IntKind.min,IntKind.max,IntKind.signed,IntKind.bits]using h
theorem Ua{H:Type}(d:DataW H):1<=Rows.uptoBulk d:=by
 cases d with
 |lit l=>cases l<;>simp [Rows.uptoBulk]
 |_=>simp [Rows.uptoBulk]
theorem nV{F:Nat->Prop}{P:Program}{t:TypeId}(ht:P.underlying t=δ (.int Θ)):gz F P eZ t:=by intro H enc w base spare held fuel cs x _ h;obtain⟨n,rfl,_,hw⟩:=DataW.trod_int ht h;exact⟨n,⟨rfl,wf_i64 hw⟩,Ua _⟩
theorem ac8{F:Nat->Prop}{P:Program}{t:TypeId}(ht:P.underlying t=δ .bool):gz F P IX t:=by intro H enc w base spare held fuel cs x _ h;obtain⟨n,rfl,_⟩:=DataW.trod_bool ht h;exact⟨n,rfl,Ua _⟩
theorem Cb{F:Nat->Prop}{P:Program}{t:TypeId}(ht:P.underlying t=δ .string):gz F P qK t:=by intro H enc w base spare held fuel cs x _ h;obtain⟨n,rfl,hx,hw⟩:=DataW.trod_string ht h;refine⟨n,⟨rfl,hw⟩,?_⟩;subst hx;simp only[Rows.uptoBulk,qK];first|(simp;done)|omega
theorem xG{F:Nat->Prop}{P:Program}{α:Type}{c:dS α}{t e:TypeId}(ht:P.underlying t=δ (.slice e))(hz:P.cellsOf e=c.size)(hp:0<c.size)(hr:gz (λm=>F (m+1)) P c e):gz F P (ep c) t:=by
 intro H enc w base spare held fuel cs x hF h;rcases DataW.trod_slice ht h with⟨rfl,rfl⟩|⟨a,len,cap,elems,rest,n,lR,rfl,Y0,hb,hl,hm,hlen,hel,h8,h9⟩
 ·exact⟨[],.inl ⟨rfl,rfl⟩,by simp [ep,Rows.uptoBulk]⟩
 ·obtain⟨D,hD⟩:∃D:Nat->DataW H,D=λi=>(elems.getD i (.nil,[])).1:=⟨_,rfl⟩
  have key:∀i,i<len->∃(y:α)(cs':List Value),(∀j,j<c.size->w.cell? (a.add (i*c.size+j))=cs'[j]?)/\c.is w cs' y/\c.ck y<=Rows.uptoBulk (D i):=by
   intro i hi;have hk:=hel i hi;rw[dg (by omega)]at hk;obtain⟨cs',h1,h2⟩:=bD.1 hk;obtain⟨y,hy,Gf⟩:=hr (by subst lR;exact hF) h2
   have Gf:c.ck y<=Rows.uptoBulk (D i):=by rw[hD];simpa [RU,dg (show i<elems.length by omega)]using Gf
   obtain⟨_,h3,h4⟩:=World.cells?_some h1;refine⟨y,cs',λj hj=>?_,hy,Gf⟩;have:=h4 j (by rw[hz];exact hj);rw[hz]at this;rw[<-this,add_add]
  obtain⟨ys,hys⟩:∃ys:List α,ys.length=len/\∀i(h:i<ys.length),c.ck ys[i]<=Rows.uptoBulk (D i)/\∃cs',(∀j,j<c.size->w.cell? (a.add (i*c.size+j))=cs'[j]?)/\c.is w cs' ys[i]:=by
   clear hel hlen h hl Y0 h8 h9;induction len with
   |zero=>exact⟨[],rfl,λi h=>by simp at h⟩
   |succ k ih=>
    obtain⟨ys,h1,h2⟩:=ih (λi hi=>key i (by omega));obtain⟨y,cs',h3,h4,h4b⟩:=key k (by omega);refine⟨ys++[y],by simp [h1],λi hi=>?_⟩;by_cases hk:i<ys.length
    ·rw[List.getElem_append_left hk];exact h2 i hk
    ·have:i=k:=by simp at hi;omega
     subst this;rw[List.getElem_append_right (by omega)];simp only[h1,Nat.sub_self,List.getElem_cons_zero];exact⟨h4b,cs',h3,h4⟩
  obtain⟨h1,h2⟩:=hys;obtain⟨b,off,sp⟩:=a;refine⟨ys,.inr ⟨b,off,sp,cap,by rw[h1],by omega,ZL (show ys.length<=cap by omega) hm,λi hi=>?_⟩,?_⟩
  ·have hs:sp=μ:=by
    cases sp with
    |none=>rfl
    |some q=>exfalso;obtain⟨_,cs',h3,h4⟩:=h2 0 (by omega);have h5:=h3 0 hp;have hl:=c.len h4;rw[dg (by omega)]at h5;simp only[Nat.zero_mul,Z3,apP,Addr.add]at h5;split at h5<;>simp at h5
   obtain⟨_,cs',h3,h4⟩:=h2 i hi;subst hs;refine⟨rfl,cs',λj hj=>?_,h4⟩;have h6:=h3 j hj;rw[<-h6];congr 1;simp only[Addr.add];split
   ·rename_i h7;simp only[h7,Nat.add_zero]
   ·rfl
  ·subst Y0;simp only[ep,Rows.uptoBulk,DR,List.map_map];have:=an9 c.ck (λi=>Rows.uptoBulk (D i)) ys 0 (λi hi=>by simpa using(h2 i hi).1);rw[h1,<-TF]at this
   have e:Td (Rows.uptoBulk∘λx=>x.1) elems=Td (λi=>Rows.uptoBulk (D i)) (List.range len):=by rw[<-hlen,hD];apply List.ext_getElem (by simp);intro i h3 h4;simp at h3;simp [RU,dg h3]
   rw[e];omega
theorem G9{α:Type}(l:List α)(o n:Nat)(h:l.length=o+n):(l.drop o).take n=l.drop o:=mR (by simp;omega)
theorem aa4{α:Type}(l:List α)(h:l.length=2):∃x0 x1,l=[x0,x1]:=by
 match l,h with
 |[x0,x1],_=>exact⟨x0,x1,rfl⟩
theorem G8{F:Nat->Prop}{P:Program}{Bl Bm:Type}{t:TypeId}{f0 f1:Field}{c0:dS Bl}{c1:dS Bm}(ht:P.underlying t=δ (.struct #[f0,f1]))(hz:P.cellsOf t=c0.size+c1.size)(o0:f0.offset=0)(o1:f1.offset=c0.size)(z0:P.cellsOf f0.type=c0.size)(z1:P.cellsOf f1.type=c1.size)(r0:gz (λm=>F (m+1)) P c0 f0.type) (r1:gz (λm=>F (m+1)) P c1 f1.type):gz F P (c0.pair c1) t:=by
 intro H enc w base spare held fuel cs x hF h;obtain⟨xs,m,lR,dO,hlen,hxl,hf⟩:=Sw ht h;rw[hz]at hlen;have hxl:xs.length=2:=hxl;have h0:=hf 0 f0 rfl;rw[o0,z0,dg (show 0<xs.length by omega)]at h0;obtain⟨a0,k0,b0⟩:=r0 (by subst lR;exact hF) h0;have h1:=hf 1 f1 rfl;rw[o1,z1,dg (show 1<xs.length by omega)]at h1;obtain⟨a1,k1,b1⟩:=r1 (by subst lR;exact hF) h1;rw[G9 cs (c0.size) c1.size (by omega)]at k1;refine⟨(a0,a1),?_,?_⟩
 ·exact⟨by simpa using k0,(by simpa [nH,kU]using k1)⟩
 ·subst dO;simp only[Rows.uptoBulk,DR,dS.pair]
  have hs:(Td Rows.uptoBulk (xs.map (·.1))).sum=Rows.uptoBulk xs[0].1+(Rows.uptoBulk xs[1].1):=by obtain⟨x0,x1,rfl⟩:=aa4 xs hxl;simp
  rw[hs];exact Sp (sF b0 b1)
theorem aa5{α:Type}(l:List α)(h:l.length=3):∃x0 x1 x2,l=[x0,x1,x2]:=by
 match l,h with
 |[x0,x1,x2],_=>exact⟨x0,x1,x2,rfl⟩
theorem KQ{F:Nat->Prop}{P:Program}{Bl Bm GQ:Type}{t:TypeId}{f0 f1 f2:Field}{c0:dS Bl}{c1:dS Bm}{c2:dS GQ}(ht:P.underlying t=δ (.struct #[f0,f1,f2]))(hz:P.cellsOf t=c0.size+c1.size+c2.size)(o0:f0.offset=0)(o1:f1.offset=c0.size)(o2:f2.offset=c0.size+c1.size)(z0:P.cellsOf f0.type=c0.size)(z1:P.cellsOf f1.type=c1.size)(z2:P.cellsOf f2.type=c2.size)(r0:gz (λm=>F (m+1)) P c0 f0.type) (r1:gz (λm=>F (m+1)) P c1 f1.type) (r2:gz (λm=>F (m+1)) P c2 f2.type):gz F P (c0.pair (c1.pair c2)) t:=by
 intro H enc w base spare held fuel cs x hF h;obtain⟨xs,m,lR,dO,hlen,hxl,hf⟩:=Sw ht h;rw[hz]at hlen;have hxl:xs.length=3:=hxl;have h0:=hf 0 f0 rfl;rw[o0,z0,dg (show 0<xs.length by omega)]at h0;obtain⟨a0,k0,b0⟩:=r0 (by subst lR;exact hF) h0;have h1:=hf 1 f1 rfl;rw[o1,z1,dg (show 1<xs.length by omega)]at h1;obtain⟨a1,k1,b1⟩:=r1 (by subst lR;exact hF) h1;have h2:=hf 2 f2 rfl;rw[o2,z2,dg (show 2<xs.length by omega)]at h2;obtain⟨a2,k2,b2⟩:=r2 (by subst lR;exact hF) h2;rw[G9 cs (c0.size+c1.size) c2.size (by omega)]at k2;refine⟨(a0,(a1,a2)),?_,?_⟩
 ·exact⟨by simpa using k0,⟨by simpa [nH,kU]using k1,(by simpa [nH,kU]using k2)⟩⟩
 ·subst dO;simp only[Rows.uptoBulk,DR,dS.pair]
  have hs:(Td Rows.uptoBulk (xs.map (·.1))).sum=Rows.uptoBulk xs[0].1+(Rows.uptoBulk xs[1].1+(Rows.uptoBulk xs[2].1)):=by obtain⟨x0,x1,x2,rfl⟩:=aa5 xs hxl;simp
  rw[hs];exact Sp (sF b0 (sF b1 b2))
theorem aa6{α:Type}(l:List α)(h:l.length=4):∃x0 x1 x2 x3,l=[x0,x1,x2,x3]:=by
 match l,h with
 |[x0,x1,x2,x3],_=>exact⟨x0,x1,x2,x3,rfl⟩
theorem RJ{F:Nat->Prop}{P:Program}{Bl Bm GQ Rq:Type}{t:TypeId}{f0 f1 f2 f3:Field}{c0:dS Bl}{c1:dS Bm}{c2:dS GQ}{c3:dS Rq}(ht:P.underlying t=δ (.struct #[f0,f1,f2,f3]))(hz:P.cellsOf t=c0.size+c1.size+c2.size+c3.size)(o0:f0.offset=0)(o1:f1.offset=c0.size)(o2:f2.offset=c0.size+c1.size)(o3:f3.offset=c0.size+c1.size+c2.size)(z0:P.cellsOf f0.type=c0.size)(z1:P.cellsOf f1.type=c1.size)(z2:P.cellsOf f2.type=c2.size)(z3:P.cellsOf f3.type=c3.size)(r0:gz (λm=>F (m+1)) P c0 f0.type) (r1:gz (λm=>F (m+1)) P c1 f1.type) (r2:gz (λm=>F (m+1)) P c2 f2.type) (r3:gz (λm=>F (m+1)) P c3 f3.type):gz F P (c0.pair (c1.pair (c2.pair c3))) t:=by
 intro H enc w base spare held fuel cs x hF h;obtain⟨xs,m,lR,dO,hlen,hxl,hf⟩:=Sw ht h;rw[hz]at hlen;have hxl:xs.length=4:=hxl;have h0:=hf 0 f0 rfl;rw[o0,z0,dg (show 0<xs.length by omega)]at h0;obtain⟨a0,k0,b0⟩:=r0 (by subst lR;exact hF) h0;have h1:=hf 1 f1 rfl;rw[o1,z1,dg (show 1<xs.length by omega)]at h1;obtain⟨a1,k1,b1⟩:=r1 (by subst lR;exact hF) h1;have h2:=hf 2 f2 rfl;rw[o2,z2,dg (show 2<xs.length by omega)]at h2;obtain⟨a2,k2,b2⟩:=r2 (by subst lR;exact hF) h2;have h3:=hf 3 f3 rfl;rw[o3,z3,dg (show 3<xs.length by omega)]at h3;obtain⟨a3,k3,b3⟩:=r3 (by subst lR;exact hF) h3;rw[G9 cs (c0.size+c1.size+c2.size) c3.size (by omega)]at k3;refine⟨(a0,(a1,(a2,a3))),?_,?_⟩
 ·exact⟨by simpa using k0,⟨by simpa [nH,kU]using k1,⟨by simpa [nH,kU]using k2,(by simpa [nH,kU]using k3)⟩⟩⟩
 ·subst dO;simp only[Rows.uptoBulk,DR,dS.pair]
  have hs:(Td Rows.uptoBulk (xs.map (·.1))).sum=Rows.uptoBulk xs[0].1+(Rows.uptoBulk xs[1].1+(Rows.uptoBulk xs[2].1+(Rows.uptoBulk xs[3].1))):=by obtain⟨x0,x1,x2,x3,rfl⟩:=aa6 xs hxl;simp
  rw[hs];exact Sp (sF b0 (sF b1 (sF b2 b3)))
theorem aa7{α:Type}(l:List α)(h:l.length=7):∃x0 x1 x2 x3 x4 x5 x6,l=[x0,x1,x2,x3,x4,x5,x6]:=by
 match l,h with
 |[x0,x1,x2,x3,x4,x5,x6],_=>exact⟨x0,x1,x2,x3,x4,x5,x6,rfl⟩
theorem aaO{F:Nat->Prop}{P:Program}{Bl Bm GQ Rq α4 α5 α6:Type}{t:TypeId}{f0 f1 f2 f3 f4 f5 f6:Field}{c0:dS Bl}{c1:dS Bm}{c2:dS GQ}{c3:dS Rq}{c4:dS α4}{c5:dS α5}{c6:dS α6}(ht:P.underlying t=δ (.struct #[f0,f1,f2,f3,f4,f5,f6]))(hz:P.cellsOf t=c0.size+c1.size+c2.size+c3.size+c4.size+c5.size+c6.size)(o0:f0.offset=0)(o1:f1.offset=c0.size)(o2:f2.offset=c0.size+c1.size)(o3:f3.offset=c0.size+c1.size+c2.size)(o4:f4.offset=c0.size+c1.size+c2.size+c3.size)(o5:f5.offset=c0.size+c1.size+c2.size+c3.size+c4.size)(o6:f6.offset=c0.size+c1.size+c2.size+c3.size+c4.size+c5.size)(z0:P.cellsOf f0.type=c0.size)(z1:P.cellsOf f1.type=c1.size)(z2:P.cellsOf f2.type=c2.size)(z3:P.cellsOf f3.type=c3.size)(z4:P.cellsOf f4.type=c4.size)(z5:P.cellsOf f5.type=c5.size)(z6:P.cellsOf f6.type=c6.size)(r0:gz (λm=>F (m+1)) P c0 f0.type) (r1:gz (λm=>F (m+1)) P c1 f1.type) (r2:gz (λm=>F (m+1)) P c2 f2.type) (r3:gz (λm=>F (m+1)) P c3 f3.type) (r4:gz (λm=>F (m+1)) P c4 f4.type) (r5:gz (λm=>F (m+1)) P c5 f5.type) (r6:gz (λm=>F (m+1)) P c6 f6.type):gz F P (c0.pair (c1.pair (c2.pair (c3.pair (c4.pair (c5.pair c6)))))) t:=by
 intro H enc w base spare held fuel cs x hF h;obtain⟨xs,m,lR,dO,hlen,hxl,hf⟩:=Sw ht h;rw[hz]at hlen;have hxl:xs.length=7:=hxl;have h0:=hf 0 f0 rfl;rw[o0,z0,dg (show 0<xs.length by omega)]at h0;obtain⟨a0,k0,b0⟩:=r0 (by subst lR;exact hF) h0;have h1:=hf 1 f1 rfl;rw[o1,z1,dg (show 1<xs.length by omega)]at h1;obtain⟨a1,k1,b1⟩:=r1 (by subst lR;exact hF) h1;have h2:=hf 2 f2 rfl;rw[o2,z2,dg (show 2<xs.length by omega)]at h2;obtain⟨a2,k2,b2⟩:=r2 (by subst lR;exact hF) h2;have h3:=hf 3 f3 rfl;rw[o3,z3,dg (show 3<xs.length by omega)]at h3;obtain⟨a3,k3,b3⟩:=r3 (by subst lR;exact hF) h3;have h4:=hf 4 f4 rfl;rw[o4,z4,dg (show 4<xs.length by omega)]at h4;obtain⟨a4,k4,b4⟩:=r4 (by subst lR;exact hF) h4;have h5:=hf 5 f5 rfl;rw[o5,z5,dg (show 5<xs.length by omega)]at h5;obtain⟨a5,k5,b5⟩:=r5 (by subst lR;exact hF) h5;have h6:=hf 6 f6 rfl;rw[o6,z6,dg (show 6<xs.length by omega)]at h6;obtain⟨a6,k6,b6⟩:=r6 (by subst lR;exact hF) h6;rw[G9 cs (c0.size+c1.size+c2.size+c3.size+c4.size+c5.size) c6.size (by omega)]at k6;refine⟨(a0,(a1,(a2,(a3,(a4,(a5,a6)))))),?_,?_⟩
 ·exact⟨by simpa using k0,⟨by simpa [nH,kU]using k1,⟨by simpa [nH,kU]using k2,⟨by simpa [nH,kU]using k3,⟨by simpa [nH,kU]using k4,⟨by simpa [nH,kU]using k5,(by simpa [nH,kU]using k6)⟩⟩⟩⟩⟩⟩
 ·subst dO;simp only[Rows.uptoBulk,DR,dS.pair]
  have hs:(Td Rows.uptoBulk (xs.map (·.1))).sum=Rows.uptoBulk xs[0].1+(Rows.uptoBulk xs[1].1+(Rows.uptoBulk xs[2].1+(Rows.uptoBulk xs[3].1+(Rows.uptoBulk xs[4].1+(Rows.uptoBulk xs[5].1+(Rows.uptoBulk xs[6].1)))))):=by obtain⟨x0,x1,x2,x3,x4,x5,x6,rfl⟩:=aa7 xs hxl;simp
  rw[hs];exact Sp (sF b0 (sF b1 (sF b2 (sF b3 (sF b4 (sF b5 b6))))))
end
section
open Go.RowKit Go.Deep
theorem gz.imp{F:Nat->Prop}{P:Program}{α β:Type}{c:dS α}{d:dS β}{t:TypeId}(h:gz F P c t)(k:∀w cs a,c.is w cs a->∃b,d.is w cs b/\d.ck b<=c.ck a):gz F P d t:=by intro H enc w base spare held fuel cs x hF h1;obtain⟨a,ha,hb⟩:=h hF h1;obtain⟨b,h2,h3⟩:=k _ _ _ ha;exact⟨b,h2,ZL h3 hb⟩
theorem lC{α:Type}{cs a b:List α}{n:Nat}(h1:cs.take n=a)(h2:cs.drop n=b):cs=a++b:=by rw[<-h1,<-h2,Wq]
def wj:dS mu where
 size:=3
 is:=λw cs x=>cs=[.int Θ x.low,.int Θ x.high,.string x.name]/\bE x.low/\bE x.high/\x.name.size<=maxLen
 len:=λh=>by obtain⟨rfl,_⟩:=h;rfl
 mono:=λh _=>h
 ck:=λx=>eZ.ck x.low+(eZ.ck x.high+(qK.ck x.name))
theorem ach:Reads Try.prog wj 133:=
 (KQ (F:=λ_=>True) Try.underlying133 (c0:=eZ) (c1:=eZ) (c2:=qK) (by kernel_rfl) rfl rfl rfl (by kernel_rfl) (by kernel_rfl) (by kernel_rfl) (nV Try.underlying3) (nV Try.underlying3) (Cb Try.underlying9)).imp λw cs a h=>by obtain⟨a0,a1,a2⟩:=a;obtain⟨h0,h1,h2⟩:=h;obtain⟨e0,b0⟩:=h0;obtain⟨e1,b1⟩:=h1;obtain⟨e2,b2⟩:=h2;have tK:=lC e1 e2;have ou:=lC e0 tK;exact⟨⟨a0,a1,a2⟩,⟨by rw[ou];rfl,b0,b1,b2⟩,bR _⟩
theorem abd:Reads Try.prog (ep wj) 94:=xG Try.underlying94 (c:=wj) (by kernel_rfl) (by decide) ach
def wg:dS eM where
 size:=7
 is:=λw cs x=>∃v0:Value,cs=[.string x.name,.int Θ x.group,.int Θ x.fk,.int Θ x.dK,.int Θ x.default,.bool x.snap,v0]/\x.name.size<=maxLen/\bE x.group/\bE x.fk/\bE x.dK/\bE x.default/\(ep wj).is w [v0] x.ranges
 len:=λh=>by obtain⟨v0,rfl,_⟩:=h;rfl
 mono:=λ{w w' cs x}h g=>by obtain⟨v0,e,h0,h1,h2,h3,h4,h5⟩:=h;exact⟨v0,e,h0,h1,h2,h3,h4,((ep wj)).mono h5 g⟩
 ck:=λx=>qK.ck x.name+(eZ.ck x.group+(eZ.ck x.fk+(eZ.ck x.dK+(eZ.ck x.default+(IX.ck x.snap+((ep wj).ck x.ranges))))))
theorem acg:Reads Try.prog wg 96:=
 (aaO (F:=λ_=>True) Try.underlying96 (c0:=qK) (c1:=eZ) (c2:=eZ) (c3:=eZ) (c4:=eZ) (c5:=IX) (c6:=(ep wj)) (by kernel_rfl) rfl rfl rfl rfl rfl rfl rfl (by kernel_rfl) (by kernel_rfl) (by kernel_rfl) (by kernel_rfl) (by kernel_rfl) (by kernel_rfl) (by kernel_rfl) (Cb Try.underlying9) (nV Try.underlying3) (nV Try.underlying3) (nV Try.underlying3) (nV Try.underlying3) (ac8 Try.underlying4) abd).imp λw cs a h=>by obtain⟨a0,a1,a2,a3,a4,a5,a6⟩:=a;obtain⟨h0,h1,h2,h3,h4,h5,h6⟩:=h;obtain⟨e0,b0⟩:=h0;obtain⟨e1,b1⟩:=h1;obtain⟨e2,b2⟩:=h2;obtain⟨e3,b3⟩:=h3;obtain⟨e4,b4⟩:=h4;have e5:=h5;simp only[IX]at e5;obtain⟨s6,e6⟩:=uW.1 (((ep wj)).len h6);rw[e6]at h6;have aiX:=lC e5 e6;have aiW:=lC e4 aiX;have aiV:=lC e3 aiW;have EX:=lC e2 aiV;have tK:=lC e1 EX;have ou:=lC e0 tK;exact⟨⟨a0,a1,a2,a3,a4,a5,a6⟩,⟨s6,by rw[ou];rfl,b0,b1,b2,b3,b4,h6⟩,bR _⟩
theorem abb:Reads Try.prog (ep wg) 107:=xG Try.underlying107 (c:=wg) (by kernel_rfl) (by decide) acg
def vS:dS cE where
 size:=3
 is:=λw cs x=>∃v0:Value,cs=[.string x.name,.int Θ x.size,v0]/\x.name.size<=maxLen/\bE x.size/\(ep wg).is w [v0] x.params
 len:=λh=>by obtain⟨v0,rfl,_⟩:=h;rfl
 mono:=λ{w w' cs x}h g=>by obtain⟨v0,e,h0,h1,h2⟩:=h;exact⟨v0,e,h0,h1,((ep wg)).mono h2 g⟩
 ck:=λx=>qK.ck x.name+(eZ.ck x.size+((ep wg).ck x.params))
theorem aaM:Reads Try.prog vS 109:=
 (KQ (F:=λ_=>True) Try.underlying109 (c0:=qK) (c1:=eZ) (c2:=(ep wg)) (by kernel_rfl) rfl rfl rfl (by kernel_rfl) (by kernel_rfl) (by kernel_rfl) (Cb Try.underlying9) (nV Try.underlying3) abb).imp λw cs a h=>by obtain⟨a0,a1,a2⟩:=a;obtain⟨h0,h1,h2⟩:=h;obtain⟨e0,b0⟩:=h0;obtain⟨e1,b1⟩:=h1;obtain⟨s2,e2⟩:=uW.1 (((ep wg)).len h2);rw[e2]at h2;have tK:=lC e1 e2;have ou:=lC e0 tK;exact⟨⟨a0,a1,a2⟩,⟨s2,by rw[ou];rfl,b0,b1,h2⟩,bR _⟩
theorem aax:Reads Try.prog (ep vS) 30:=xG Try.underlying30 (c:=vS) (by kernel_rfl) (by decide) aaM
def wv:dS fE where
 size:=4
 is:=λw cs x=>cs=[.int Θ x.aE,.string x.gm,.int Θ x.univ,.int Θ x.address]/\bE x.aE/\x.gm.size<=maxLen/\bE x.univ/\bE x.address
 len:=λh=>by obtain⟨rfl,_⟩:=h;rfl
 mono:=λh _=>h
 ck:=λx=>eZ.ck x.aE+(qK.ck x.gm+(eZ.ck x.univ+(eZ.ck x.address)))
theorem ac9:Reads Try.prog wv 61:=
 (RJ (F:=λ_=>True) Try.underlying61 (c0:=eZ) (c1:=qK) (c2:=eZ) (c3:=eZ) (by kernel_rfl) rfl rfl rfl rfl (by kernel_rfl) (by kernel_rfl) (by kernel_rfl) (by kernel_rfl) (nV Try.underlying3) (Cb Try.underlying9) (nV Try.underlying3) (nV Try.underlying3)).imp λw cs a h=>by obtain⟨a0,a1,a2,a3⟩:=a;obtain⟨h0,h1,h2,h3⟩:=h;obtain⟨e0,b0⟩:=h0;obtain⟨e1,b1⟩:=h1;obtain⟨e2,b2⟩:=h2;obtain⟨e3,b3⟩:=h3;have EX:=lC e2 e3;have tK:=lC e1 EX;have ou:=lC e0 tK;exact⟨⟨a0,a1,a2,a3⟩,⟨by rw[ou];rfl,b0,b1,b2,b3⟩,bR _⟩
theorem aci:Reads Try.prog (ep wv) 31:=xG Try.underlying31 (c:=wv) (by kernel_rfl) (by decide) ac9
def XU:dS dj where
 size:=2
 is:=λw cs x=>∃v0 v1:Value,cs=[v0,v1]/\(ep vS).is w [v0] x.bV/\(ep wv).is w [v1] x.dQ
 len:=λh=>by obtain⟨v0,v1,rfl,_⟩:=h;rfl
 mono:=λ{w w' cs x}h g=>by obtain⟨v0,v1,e,h0,h1⟩:=h;exact⟨v0,v1,e,((ep vS)).mono h0 g,((ep wv)).mono h1 g⟩
 ck:=λx=>(ep vS).ck x.bV+((ep wv).ck x.dQ)
theorem aei:Reads Try.prog XU 33:=
 (G8 (F:=λ_=>True) Try.underlying33 (c0:=(ep vS)) (c1:=(ep wv)) (by kernel_rfl) rfl rfl (by kernel_rfl) (by kernel_rfl) aax aci).imp λw cs a h=>by obtain⟨a0,a1⟩:=a;obtain⟨h0,h1⟩:=h;obtain⟨s0,e0⟩:=uW.1 (((ep vS)).len h0);rw[e0]at h0;obtain⟨s1,e1⟩:=uW.1 (((ep wv)).len h1);rw[e1]at h1;have ou:=lC e0 e1;exact⟨⟨a0,a1⟩,⟨s0,s1,by rw[ou];rfl,h0,h1⟩,bR _⟩
def OE:dS cV where
 size:=2
 is:=λw cs x=>cs=[.int Θ x.unit,.string x.param]/\bE x.unit/\x.param.size<=maxLen
 len:=λh=>by obtain⟨rfl,_⟩:=h;rfl
 mono:=λh _=>h
 ck:=λx=>eZ.ck x.unit+(qK.ck x.param)
theorem aeh:Reads Try.prog OE 66:=
 (G8 (F:=λ_=>True) Try.underlying66 (c0:=eZ) (c1:=qK) (by kernel_rfl) rfl rfl (by kernel_rfl) (by kernel_rfl) (nV Try.underlying3) (Cb Try.underlying9)).imp λw cs a h=>by obtain⟨a0,a1⟩:=a;obtain⟨h0,h1⟩:=h;obtain⟨e0,b0⟩:=h0;obtain⟨e1,b1⟩:=h1;have ou:=lC e0 e1;exact⟨⟨a0,a1⟩,⟨by rw[ou];rfl,b0,b1⟩,bR _⟩
def vW:dS qx where
 size:=3
 is:=λw cs x=>cs=[.int Θ x.key.unit,.string x.key.param,.int Θ x.level]/\bE x.key.unit/\x.key.param.size<=maxLen/\bE x.level
 len:=λh=>by obtain⟨rfl,_⟩:=h;rfl
 mono:=λh _=>h
 ck:=λx=>OE.ck x.key+(eZ.ck x.level)
theorem aaN:Reads Try.prog vW 68:=
 (G8 (F:=λ_=>True) Try.underlying68 (c0:=OE) (c1:=eZ) (by kernel_rfl) rfl rfl (by kernel_rfl) (by kernel_rfl) aeh (nV Try.underlying3)).imp λw cs a h=>by obtain⟨a0,a1⟩:=a;obtain⟨h0,h1⟩:=h;obtain⟨e0,b0⟩:=h0;obtain⟨ahR,ahS⟩:=b0;obtain⟨e1,b1⟩:=h1;have ou:=lC e0 e1;exact⟨⟨a0,a1⟩,⟨by rw[ou];rfl,ahR,ahS,b1⟩,bR _⟩
theorem aay:Reads Try.prog (ep vW) 62:=xG Try.underlying62 (c:=vW) (by kernel_rfl) (by decide) aaN
def IA:dS cJ where
 size:=3
 is:=λw cs x=>∃v0:Value,cs=[.int Θ x.aE,.string x.title,v0]/\bE x.aE/\x.title.size<=maxLen/\(ep vW).is w [v0] x.eW
 len:=λh=>by obtain⟨v0,rfl,_⟩:=h;rfl
 mono:=λ{w w' cs x}h g=>by obtain⟨v0,e,h0,h1,h2⟩:=h;exact⟨v0,e,h0,h1,((ep vW)).mono h2 g⟩
 ck:=λx=>eZ.ck x.aE+(qK.ck x.title+((ep vW).ck x.eW))
theorem abc:Reads Try.prog IA 64:=
 (KQ (F:=λ_=>True) Try.underlying64 (c0:=eZ) (c1:=qK) (c2:=(ep vW)) (by kernel_rfl) rfl rfl rfl (by kernel_rfl) (by kernel_rfl) (by kernel_rfl) (nV Try.underlying3) (Cb Try.underlying9) aay).imp λw cs a h=>by obtain⟨a0,a1,a2⟩:=a;obtain⟨h0,h1,h2⟩:=h;obtain⟨e0,b0⟩:=h0;obtain⟨e1,b1⟩:=h1;obtain⟨s2,e2⟩:=uW.1 (((ep vW)).len h2);rw[e2]at h2;have tK:=lC e1 e2;have ou:=lC e0 tK;exact⟨⟨a0,a1,a2⟩,⟨s2,by rw[ou];rfl,b0,b1,h2⟩,bR _⟩
theorem aaL:Reads Try.prog (ep IA) 34:=xG Try.underlying34 (c:=IA) (by kernel_rfl) (by decide) abc
end
section
open Go.RowKit Go.Deep
def lH:Nat->dS aK
 |0=>{size:=4,is:=λ_ _ _=>False,len:=λh=>h.elim,mono:=λh _=>h.elim,ck:=λ_=>0}
 |n+1=>{size:=4,is:=λw cs x=>∃v:Value,cs=[.int Θ x.kind,.int Θ x.from_,.int Θ x.Dm,v]/\bE x.kind/\bE x.from_/\bE x.Dm/\(ep (lH n)).is w [v] x.args,len:=λh=>(by obtain⟨v,rfl,_⟩:=h;rfl),mono:=λ{w w' cs x}h g=>(by obtain⟨v,e,h0,h1,h2,h3⟩:=h;exact⟨v,e,h0,h1,h2,(ep (lH n)).mono h3 g⟩),ck:=λx=>eZ.ck x.kind+(eZ.ck x.from_+(eZ.ck x.Dm+(ep (lH n)).ck x.args))}
theorem B0(n:Nat):(lH n).size=4:=by cases n<;>rfl
theorem Mb:∀n:Nat,gz (λm=>m<=n) Try.prog (lH n) 37
 |0=>by intro H enc w base spare held fuel cs x hF h;obtain rfl:fuel=0:=Nat.le_zero.1 hF;simp [DataW.trod]at h
 |n+1=>by
  intro H enc w base spare held fuel cs x hF h
  have hs:gz (λm=>m<=n) Try.prog (ep (lH n)) 35:=by have hr:=Mb n;exact xG Try.underlying35 (c:=lH n) (by rw[B0];kernel_rfl) (by rw[B0];decide) (λH enc w base spare held fuel cs x hF h=>hr (show fuel<=n by have:fuel+1<=n:=hF;omega) h)
  obtain⟨a,h1,hb⟩:=(RJ (F:=λm=>m<=n+1) Try.underlying37 (c0:=eZ) (c1:=eZ) (c2:=eZ) (c3:=ep (lH n)) (by kernel_rfl) rfl rfl rfl rfl (by kernel_rfl) (by kernel_rfl) (by kernel_rfl) (by kernel_rfl)
   (nV Try.underlying3) (nV Try.underlying3) (nV Try.underlying3) (λH enc w base spare held fuel cs x hF h=>hs (show fuel<=n by have:fuel+1<=n+1:=hF;omega) h)) hF h
  obtain⟨a0,a1,a2,a3⟩:=a;obtain⟨h0,h1,h2,h3⟩:=h1;obtain⟨e0,b0⟩:=h0;obtain⟨e1,b1⟩:=h1;obtain⟨e2,b2⟩:=h2;obtain⟨s3,e3⟩:=uW.1 ((ep (lH n)).len h3);rw[e3]at h3;have EX:=lC e2 e3;have tK:=lC e1 EX;have ou:=lC e0 tK;exact⟨.mk a0 a1 a2 a3,⟨s3,by rw[ou];rfl,b0,b1,b2,h3⟩,hb⟩
theorem Mm:∀(n:Nat){w:World}{cs:List Value}{p:aK},(lH n).is w cs p->bH p<=(lH n).ck p
 |0,_,_,_,h=>h.elim
 |n+1,w,cs,p,h=>by
  obtain⟨v,_,_,_,_,h3⟩:=h
  have hl:∀q∈p.args,bH q<=(lH n).ck q:=by
   rcases h3 with⟨_,e⟩|⟨b,off,sp,cap,_,_,_,h4⟩
   ·rw[e];intro q hq;cases hq
   ·intro q hq;obtain⟨i,hi,rfl⟩:=List.getElem_of_mem hq;obtain⟨_,cs',_,h5⟩:=h4 i hi;exact Mm n h5
  have am5:eo p.args<=(p.args.map (lH n).ck).sum:=by
   rw[DZ];generalize p.args=l at hl;induction l with
   |nil=>simp
   |cons q l ih=>simp only[dH,Xg];have h1:=hl q (by simp);have h2:=ih (λx hx=>hl x (by simp [hx]));omega
  rw[uH];show _<=eZ.ck p.kind+(eZ.ck p.from_+(eZ.ck p.Dm+(ep (lH n)).ck p.args))
  simp only[eZ,ep];omega
def xV(n:Nat):dS bl where
 size:=5
 is:=λw cs g=>∃ps:List Value,cs=Value.int Θ g.aE::ps/\bE g.aE/\(lH n).is w ps g.pick
 len:=λh=>by obtain⟨ps,rfl,_,h2⟩:=h;have:=(lH n).len h2;rw[B0]at this;simp [this]
 mono:=λ{w w' cs x}h g=>by obtain⟨ps,e,h0,h1⟩:=h;exact⟨ps,e,h0,(lH n).mono h1 g⟩
 ck:=λg=>eZ.ck g.aE+(lH n).ck g.pick
theorem acf(n:Nat):gz (λm=>m<=n) Try.prog (xV n) 44:=by
 have h:=G8 (F:=λm=>m<=n) Try.underlying44 (c0:=eZ) (c1:=lH n) (by rw[B0];kernel_rfl) rfl rfl (by kernel_rfl) (by rw[B0];kernel_rfl)
  (nV Try.underlying3) (λH enc w base spare held fuel cs x hF h=>Mb n (show fuel<=n by have:fuel+1<=n:=hF;omega) h)
 refine h.imp λw cs a h=>?_
 obtain⟨a0,a1⟩:=a;obtain⟨h0,h1⟩:=h;obtain⟨e0,b0⟩:=h0;refine⟨⟨a0,a1⟩,⟨cs.drop 1,?_,b0,h1⟩,bR _⟩;exact(Wq 1 cs).symm.trans (congrArg (·++cs.drop 1) e0)
theorem aba(n:Nat):gz (λm=>m<=n) Try.prog (ep (xV n)) 22:=
 xG Try.underlying22 (c:=xV n) (by kernel_rfl) (show 0<5 by decide) (λH enc w base spare held fuel cs x hF h=>acf n (show fuel<=n by have:fuel+1<=n:=hF;omega) h)
theorem aes{α:Type}{c:dS α}{w:World}{cs:List Value}{l:List α}(h:(ep c).is w cs l){x:α}(hx:x∈l):∃cs',c.is w cs' x:=by
 rcases h with⟨_,e⟩|⟨b,off,sp,cap,_,_,_,h4⟩
 ·rw[e]at hx;cases hx
 ·obtain⟨i,hi,rfl⟩:=List.getElem_of_mem hx;obtain⟨_,cs',_,h5⟩:=h4 i hi;exact⟨cs',h5⟩
theorem Tb{α:Type}{f g:α->Nat}:∀{l:List α},(∀x∈l,f x<=g x)->(l.map f).sum<=(l.map g).sum
 |[],_=>bR _
 |x::l,h=>by
  rw[dH,dH,Xg,Xg];have:=h x (by simp);have:=Tb (f:=f) (g:=g) (l:=l) λy hy=>h y (by simp [hy])
  omega
theorem abY{n:Nat}{w:World}{cs:List Value}{l:List bl}(h:(ep (xV n)).is w cs l):(l.map λg=>bH g.pick).sum<=(ep (xV n)).ck l:=by
 show _<=(l.map (xV n).ck).sum+1
 have:=Tb (f:=λg:bl=>bH g.pick) (g:=(xV n).ck) (l:=l) λg hg=>by obtain⟨cs',ps,_,_,h2⟩:=aes h hg;have:=Mm n h2;show _<=eZ.ck g.aE+(lH n).ck g.pick;omega
 omega
end
section
open Go.RowKit Go.Deep
section
variable {c : RC}
theorem vT:aN c [] []:=by simp [aN]
theorem gj{a:AV}{v:Value}{l:aq}{vs:List Value}(h:an c a v)(k:aN c l vs):aN c (a::l) (v::vs):=by simp only[aN];exact⟨v,vs,rfl,h,k⟩
theorem nY(k:IntKind)(n:Int):an c (.int k n) (.int k n):=by simp [an]
theorem ae9(b:Bool):an c (.bool b) (.bool b):=by simp [an]
theorem Cs(s:ByteArray):an c (.str s) (.string s):=by simp [an]
def RP{α:Type}(c:RC)(d:dS α)(e:α->aq)(ok:α->Prop):Prop:=∀cs x,d.is c.w cs x->aN c (e x) cs/\ok x/\(∀v∈cs,cR v=η)
theorem UD:∀{l:aq}{vs:List Value},aN c l vs->l.length=vs.length
 |[],vs,h=>by simp only[aN]at h;subst h;rfl
 |a::l,vs,h=>by simp only[aN]at h;obtain⟨v,vs',rfl,_,h⟩:=h;simp [UD h]
theorem aov{b:Nat}:∀{l:aq}{vs:List Value}{off:Nat},aN c l vs->(∀v∈vs,cR v=η)->(∀j,j<vs.length->c.w.cell? ⟨b,off+j,μ⟩=vs[j]?)->bp c b off l
 |[],vs,off,h,_,_=>by simp [bp]
 |a::l,vs,off,h,ho,hc=>by simp only[aN]at h;obtain⟨v,vs',rfl,h1,h2⟩:=h;simp only[bp];refine⟨⟨v,by simpa using hc 0 (by simp),ho v (by simp),h1⟩,aov h2 (λv hv=>ho v (by simp [hv])) λj hj=>?_⟩;have:=hc (j+1) (by simpa using hj);rw[show off+1+j=off+(j+1) by omega];simpa using this
theorem UC{α:Type}{d:dS α}{e:α->aq}{ok:α->Prop}(H:RP c d e ok){b sz:Nat}(hsz:d.size=sz):∀{l:List α}{off:Nat},(∀(i:Nat)(x:α),l[i]? =δ x->∃cs',(∀j,j<d.size->c.w.cell? ⟨b,off+(i*d.size+j),μ⟩=cs'[j]?)/\d.is c.w cs' x)->bC c sz b off (l.map e)/\∀x∈l,ok x
 |[],off,h=>by simp [bC]
 |x::l,off,h=>by
  obtain⟨cs,h1,h2⟩:=h 0 x rfl;obtain⟨k1,k2,k3⟩:=H cs x h2;have hl:cs.length=d.size:=d.len h2
  obtain⟨r1,r2⟩:=UC H hsz (l:=l) (off:=off+sz) (λi y hy=>by
   obtain⟨cs',q1,q2⟩:=h (i+1) y (by simpa using hy);refine⟨cs',λj hj=>?_,q2⟩;have:=q1 j hj;rw[<-hsz]
   rwa[show off+d.size+(i*d.size+j)=off+((i+1)*d.size+j) by rw[Nat.succ_mul];omega])
  refine⟨?_,λy hy=>?_⟩
  ·simp only[dH,bC];refine⟨by rw[UD k1,hl,hsz],aov k1 k3 λj hj=>?_,r1⟩;have:=h1 j (by rw[<-hl];exact hj);simpa using this
  ·rcases fA.1 hy with rfl|hy
   ·exact k2
   ·exact r2 y hy
theorem afx{w:World}{b off:Nat}{v:Value}(h:w.cell? ⟨b,off,μ⟩=δ v):b<w.heap.size:=by
 rcases Nat.lt_or_ge b w.heap.size with k|k
 ·exact k
 ·simp [apP,Array.getElem?_eq_none k]at h
theorem xL{α:Type}{d:dS α}{e:α->aq}{ok:α->Prop}(hX:∀b,¬c.X b)(H:RP c d e ok){sz:Nat}(hsz:d.size=sz)(h0:0<sz){v:Value}{l:List α}(h:(ep d).is c.w [v] l):an c (sl sz e l) v/\fW ok l/\cR v=η:=by
 rcases h with⟨h1,rfl⟩|⟨b,off,sp,cap,h1,h2,h3,h4⟩
 ·simp only[List.cons.injEq,and_true]at h1;subst h1;exact⟨by simp [sl,an,h0],⟨by simp,by simp⟩,rfl⟩
 ·simp only[List.cons.injEq,and_true]at h1;subst h1
  have Qb:sp=μ\/l=[]:=by
   cases l with
   |nil=>exact .inr rfl
   |cons x l=>exact .inl (h4 0 (by simp)).1
  have hh:∀(i:Nat)(x:α),l[i]? =δ x->∃cs',(∀j,j<d.size->c.w.cell? ⟨b,off+(i*d.size+j),μ⟩=cs'[j]?)/\d.is c.w cs' x:=by intro i x hx;obtain⟨hi,hx⟩:=bG.1 hx;subst hx;exact(h4 i hi).2
  obtain⟨r1,r2⟩:=UC H hsz hh;refine⟨?_,⟨by unfold maxLen at h3;unfold bf;omega,r2⟩,rfl⟩;simp only[sl,an];refine⟨δ ⟨b,off,sp⟩,cap,by simp,by simpa using h2,h0,?_⟩;rcases Qb with rfl|rfl
  ·cases l with
   |nil=>exact .inl rfl
   |cons x l=>
    refine .inr ⟨b,off,rfl,?_,hX b,r1⟩;obtain⟨cs,q1,q2⟩:=hh 0 x rfl;have hl:cs.length=d.size:=d.len q2;have:=q1 0 (by omega);obtain⟨y,hy⟩:∃y,cs[0]? =δ y:=⟨cs[0],dg (by omega)⟩
    rw[hy]at this;exact afx this
  ·exact .inl rfl
theorem xQ:∀v∈([]:List Value),cR v=η:=by simp
theorem gX{v:Value}{vs:List Value}(h:cR v=η)(k:∀x∈vs,cR x=η):∀x∈v::vs,cR x=η:=by
 intro x hx;rcases fA.1 hx with rfl|hx
 ·exact h
 ·exact k x hx
theorem afe:RP c wj iM M7:=by rintro cs x ⟨rfl,h0,h1,h2⟩;exact⟨(gj (nY _ _) (gj (nY _ _) (gj (Cs _) vT))),⟨h0,h1,(show gE _ by unfold gE bf;have:=h2;unfold maxLen at this;omega)⟩,(gX rfl (gX rfl (gX rfl xQ)))⟩
theorem afd(hX:∀b,¬c.X b):RP c wg cB M6:=by rintro cs x ⟨v0,rfl,h0,h1,h2,h3,h4,h6⟩;obtain⟨r6,o6,n6⟩:=xL hX afe (sz:=3) rfl (by decide) h6;exact⟨(gj (Cs _) (gj (nY _ _) (gj (nY _ _) (gj (nY _ _) (gj (nY _ _) (gj (ae9 _) (gj r6 vT))))))),⟨(show gE _ by unfold gE bf;have:=h0;unfold maxLen at this;omega),h1,h2,h3,h4,o6⟩,(gX rfl (gX rfl (gX rfl (gX rfl (gX rfl (gX rfl (gX n6 xQ)))))))⟩
theorem adb(hX:∀b,¬c.X b):RP c vS cQ zq:=by rintro cs x ⟨v0,rfl,h0,h1,h2⟩;obtain⟨r2,o2,n2⟩:=xL hX (afd hX) (sz:=7) rfl (by decide) h2;exact⟨(gj (Cs _) (gj (nY _ _) (gj r2 vT))),⟨(show gE _ by unfold gE bf;have:=h0;unfold maxLen at this;omega),h1,o2⟩,(gX rfl (gX rfl (gX n2 xQ)))⟩
theorem agj:RP c wv eH V8:=by rintro cs x ⟨rfl,h0,h1,h2,h3⟩;exact⟨(gj (nY _ _) (gj (Cs _) (gj (nY _ _) (gj (nY _ _) vT)))),⟨h0,(show gE _ by unfold gE bf;have:=h1;unfold maxLen at this;omega),h2,h3⟩,(gX rfl (gX rfl (gX rfl (gX rfl xQ))))⟩
theorem ag5(hX:∀b,¬c.X b):RP c XU b7 oo:=by rintro cs x ⟨v0,v1,rfl,h0,h1⟩;obtain⟨r0,o0,n0⟩:=xL hX (adb hX) (sz:=3) rfl (by decide) h0;obtain⟨r1,o1,n1⟩:=xL hX agj (sz:=4) rfl (by decide) h1;exact⟨(gj r0 (gj r1 vT)),⟨o0,o1⟩,(gX n0 (gX n1 xQ))⟩
theorem ade:RP c vW jA aon:=by rintro cs x ⟨rfl,h0,h1,h2⟩;exact⟨(gj (nY _ _) (gj (Cs _) (gj (nY _ _) vT))),⟨⟨h0,(show gE _ by unfold gE bf;have:=h1;unfold maxLen at this;omega)⟩,h2⟩,(gX rfl (gX rfl (gX rfl xQ)))⟩
theorem ael(hX:∀b,¬c.X b):RP c IA cN vQ:=by rintro cs x ⟨v0,rfl,h0,h1,h2⟩;obtain⟨r2,o2,n2⟩:=xL hX ade (sz:=3) rfl (by decide) h2;exact⟨(gj (nY _ _) (gj (Cs _) (gj r2 vT))),⟨h0,(show gE _ by unfold gE bf;have:=h1;unfold maxLen at this;omega),o2⟩,(gX rfl (gX rfl (gX n2 xQ)))⟩
theorem Wk{α:Type}{d:dS α}{e:α->aq}{ok:α->Prop}(H:RP c d e ok){cs:Array Value}{x:α}(h:d.is c.w cs.toList x):an c (.agg (e x)) (.agg cs)/\ok x:=by obtain⟨h1,h2,h3⟩:=H _ _ h;simp only[an];exact⟨⟨cs,rfl,h1,h3⟩,h2⟩
end
end
section
open Go.RowKit Go.Deep
section
variable {c : RC}
theorem M8(hX:∀b,¬c.X b):∀n:Nat,RP c (lH n) aG (λ_=>True)
 |0=>λcs x h=>h.elim
 |n+1=>by rintro cs x ⟨v,rfl,h0,h1,h2,h3⟩;obtain⟨r,o,k⟩:=xL hX (M8 hX n) (sz:=4) (B0 n) (by decide) h3;refine⟨?_,trivial,gX rfl (gX rfl (gX rfl (gX k xQ)))⟩;rw[aA];exact gj (nY _ _) (gj (nY _ _) (gj (nY _ _) (gj r vT)))
theorem aff(hX:∀b,¬c.X b)(n:Nat):RP c (xV n) bw (λ_=>True):=by rintro cs x ⟨ps,rfl,h0,h1⟩;obtain⟨r,_,k⟩:=M8 hX n ps x.pick h1;refine⟨?_,trivial,gX rfl k⟩;rw[DS];exact gj (nY _ _) r
end
end
section
open Go.ChangeShapes Go.WideShapes Go.ChangeAt Go.RowKit
theorem own:ownKnob Try.prog.godebug=μ:=by kernel_rfl
theorem laidOut:laidOutB Try.prog=η:=by kernel_rfl
theorem aoG{H:Type}{enc:TypeId×Value->H}{P:Program}(hl:laidOutB P=η){W W':World}(hb:Below W.heap.size W W'):
  ∀{ts:List TypeId}{vs:List Value}{ds:List (DataW H)}{ps:List MemPlace},(ts.all λt=>P.readableRec t&&decide (t<P.types.size))=η->
   DataW.TrodAll enc P W 0 (λ_=>η) η ts vs ds ps->(∀x∈ps,x.block<W.heap.size)->DataW.TrodAll enc P W' 0 (λb=>decide (b<W.heap.size)) η ts vs ds ps
 |[],[],[],_,_,h,_=>h
 |t::ts,v::vs,d::ds,ps,hts,h,hlt=>by
  obtain⟨p,q,h1,h2,rfl⟩:=h;simp only[ap8,fy,decide_eq_true_eq]at hts
  exact⟨p,q,Below.trod hl hts.1.1 hts.1.2 h1 hb (λx hx=>hlt x (SB _ hx)),
   aoG hl hb (by simpa using hts.2) h2 (λx hx=>hlt x (List.mem_append_right _ hx)),rfl⟩
 |[],_::_,_,_,_,h,_=>h.elim
 |[],[],_::_,_,_,h,_=>h.elim
 |_::_,[],_,_,_,h,_=>h.elim
 |_::_,_::_,[],_,_,h,_=>h.elim
theorem aeX{H:Type}{enc:TypeId×Value->H}{f:Func}{s:ChangeSpec}{W W':World}{args:Array Value}{ds gs:List (DataW H)}{before:List MemPlace}{t:TypeId}
  (hts:(f.params.toList.all λt=>Try.prog.readableRec t&&decide (t<Try.prog.types.size))=η) (xh:f.resultTypes=#[t]) (ht:Try.prog.underlying t=δ .bool) (hvs:s.vars=[])
  (hW:DataW.Whole enc Try.prog f.params.toList s.vars ι W args.toList ds gs before) (hb:Below W.heap.size W W')
  (NM:s.fn H (ds++gs)={results:=[.lit (.bool η)],args:=ds}):
  s.post enc Try.prog f ι η ι ι W args (.bool η) W':=by
 have JB:=hW;obtain⟨p,q,hA,hV,rfl,hfz,hnd⟩:=hW;have hlt:∀x∈p++q,x.block<W.heap.size:=λx hx=>JB.lt x hx
 refine⟨ds,gs,p++q,[],p,[],JB,?_,?_,?_,hb.frame _,λh=>by cases h⟩
 ·rw[NM,xh];exact trodAll_cons_mk (shut_bool ht _) trodAll_mk0
 ·rw[NM];exact aoG laidOut hb hts hA (λx hx=>hlt x (SB _ hx))
 ·rw[NM,hvs];exact rfl
end
section
open Go.RowKit
def base (W:World):RC:=ctx ⟨W,[],λ_=>False,aI⟩ W [] cz
theorem Cw(W:World):∀b,¬(base W).X b:=by
 rintro b (k|⟨p,hp,_⟩|⟨i,k⟩)
 ·exact k
 ·cases hp
 ·cases k
theorem aeY{n:FuncId}{m:aq->Heap->aB}{kI:aq}(hs:Sound Try.prog aI n m)(hc:∀us w,(callFunc n us).run Try.prog w=.ok (.enter n us) w)(W:World)(hT:ES W (λ_=>False)) (vs:Array Value) (hr:aN (base W) kI vs.toList) (hm:m kI []=δ (.bool η,[])):
  Calls Try.prog n vs W λe W'=>e=.returned (.bool η)/\Below W.heap.size W W':=by
 have hZ:sK ⟨W,[],λ_=>False,aI⟩:=⟨λ_(k:False)=>k.elim,hT.to (bR _) (λ_ _ _=>rfl) λb _ k=>by rcases k with k|⟨p,hp,_⟩;exact k;cases hp⟩
 have mY:fO (ctx ⟨W,[],λ_=>False,aI⟩ W [] cz) []:=by
  refine⟨rfl,λi j p q hp=>?_,λi p x hp=>?_⟩
  ·simp [ctx]at hp
  ·simp [ctx]at hp
 rcases hs _ _ _ _ hm with⟨g,h1,h2⟩|hv
 case inr=>
  obtain⟨v,w',E',k1,_⟩:=hv ⟨W,[],λ_=>False,aI⟩ vs rfl hZ mY hr;rw[hc]at k1;injection k1 with k1
  cases k1
 have hg:g=n:=by
  have e1:=h1 #[] W;rw[hc #[] W]at e1;injection e1 with e1
  injection e1 with e1
  exact e1.symm
 subst hg
 have hh:fO (ctx ⟨W,[],λ_=>False,aI⟩ W [] cz) []:=by
  refine⟨rfl,λi j p q hp=>?_,λi p x hp=>?_⟩
  ·simp [ctx]at hp
  ·simp [ctx]at hp
 refine(h2 ⟨W,[],λ_=>False,aI⟩ vs rfl hZ hh hr).mono ?_;rintro e w' ⟨v,E',rfl,ho,_,hv⟩;simp only[an]at hv;subst hv;exact⟨rfl,ho.os,ho.tape,ho.output,ho.size,λk hk=>ho.stay k hk (λp hp=>by cases hp)⟩
end
section
open Go.RowKit
theorem afX{n:FuncId}{m:aq->Heap->aB}{kI:aq}(hs:Sound Try.prog aI n m)(hc:∀us w,(callFunc n us).run Try.prog w=.ok (.enter n us) w)(W:World)(vs:Array Value)(hr:aN (base W) kI vs.toList)(hm:m kI []=δ (.bool η,[])):
  Calls Try.prog n vs W λe W'=>e=.returned (.bool η)/\Below W.heap.size W W':=aeY hs hc W trivial vs hr hm
end
end
end Go.Proofs.Ytgjglkakhmikjaa
