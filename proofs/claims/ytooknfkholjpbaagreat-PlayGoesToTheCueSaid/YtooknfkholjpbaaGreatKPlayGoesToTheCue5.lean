/- Parts of the proof of PlayGoesToTheCue, in order. -/
import Derived.Laws.Externs
import Derived.Test.YtooknfkholjpbaaGreatKPlayGoesToTheCue4
namespace Go.Proofs.YtooknfkholjpbaaGreat
set_option linter.unusedVariables false
set_option linter.unusedSimpArgs false
set_option linter.unusedSectionVars false
set_option maxRecDepth 1000000
noncomputable section
open AV renaming ah->ε,bool->Λ,int->Wz,op->Yy,agg->Φ,aA->Zg,rp->ZN,str->Xo,om->XP,sl->Yh,aM->Yu,lbx->VD
open A renaming look->Yt,eql->ZA,lss->YY,fin->wh,cells->ψ,not->Wk,ext->Yn,guard->η,dw->TQ,elems->VB,bI->ZP,aQ->WC,entries->US,find->Wh,cM->Xw,tab->Zw,cell->Ψ,mul->Tu,bu->UY,lb->Tv,add->WE,gz->WN,eo->YR,bw->Zo,aD->VU,aB->ir,kT->X5,sub->Uk,nn->Y9,deref->χ,loop->Y7,storeAt->XZ,eA->Wf,cond->φ,append->WK,wrap->Ω,bV->X4,quiet->Wi,ak->Γ
open Sound renaming none->TI,nS->aCV,FB->aDG,yG->Vt,wrap->Zr,rO->Zb
open aG renaming nil->WJ,cons->Δ
open aW renaming map->Z0,box->Vs
open List renaming any_eq_true->VK,mem_flatMap->aDl,set_cons_zero->aC5,drop_zero->Zz,map_append->Z6,mem_singleton->TV,find?_cons->aDr,singleton_append->aC9,pairwise_map->TO,find?_some->aEg,getElem?_drop->ZW,foldl_cons->V4,append_nil->VT,find?_eq_none->T0,drop_length->aDp,getElem_of_mem->Vb,perm_middle->aC2,size_toArray->Zs,foldl_nil->aDM,find?_append->X7,length_map->X1,drop_eq_getElem_cons->UG,length_eraseIdx_le->aEn,map_nil->Vl,length_cons->YZ,getElem_mem->aDo,map_map->YG,filterMap_cons->V5,mem_cons_self->YJ,filterMap_append->XY,take_append_of_le_length->TZ,getElem?_take->aCY,nil_append->V7,take_add_one->TC,length_set->aDd,set_cons_succ->aC4,take_take->aDJ,getElem?_set_ne->XX,getElem?_take_of_lt->WG,getElem_cons_drop->aD6,find?->Xx,pairwise_append->aDK,map_congr_left->Yq,take_append_drop->YN,take_length->UN,drop_of_length_le->ZT,getElem?_cons_succ->Y5,pairwise_cons->YE,filterMap_nil->UJ,length_nil->UB,flatMap_cons->Xm,mem_filterMap->ZJ,set_set->Vp,length_append->ZY,eraseIdx_eq_take_drop_succ->Ty
open Int renaming tdiv_eq_ediv_of_nonneg->aD9,toNat_of_nonneg->Wj,natCast_mul->aDX,le_refl->ZC,lt_irrefl->Xz,toNat_natCast->TS
open Option renaming getD_some->WU,some->δ,ne_none_iff_exists'->aD8,none->μ,bind->aDN,getD_none->WO,map_none->Zc,toList_some->aDy
open Nat renaming zero_add->YW,mul_left_comm->U5,sub_self->Yp,div_lt_iff_lt_mul->aDC,mul_assoc->ZM,mul_le_mul->XK,mul_add->Uu,mul_comm->ZF,le_trans->UT,lt_irrefl->aDH,not_lt_zero->aCX
open Go.Lib renaming bitLen->Xf,compareBytes->Xt
open Prod.mk renaming injEq->T4
open Go.World renaming cell?->Xd
open ko renaming cons->Zp,nil->YX
open AX renaming normal->Xv,exit->Ξ,ret->YP
open Bool renaming true->θ,not_false->Yx,false_eq_true->YQ,not_eq_false'->aDv,not_eq_true'->UK,not_eq_false->aDb,true_and->aDh,false->ι,and_false->Wc,false_and->U7,not_true->Ur
open Go.IntKind renaming i64->ξ,u64->aDL
open _root_.Array renaming length_toList->Y8,getElem?_toList->UE
open List.cons renaming injEq->aCW
open Classical renaming choose->To,choose_spec->Vm
open IntKind renaming i64->ξ
open List.Pairwise renaming nil->VY
open fA renaming of->WH
open Decidable renaming not_not->Vj
open Go.Op renaming bytesLess->WR
open Option.some renaming injEq->Θ
section
open HP
def nV:aW->Prop:=λb=>A.AK b=θ
section
variable {α : Type} {c : α -> aq} {sz : Nat} {aL σ : Heap} {R : HP}
theorem MR{B:aW->Prop}(H:Hs B aL σ R)(bs:Heap)(oU:∀b∈bs,B b):Hs B aL (σ++bs) R:=by obtain⟨⟨b0,rfl,hb0⟩,h,hr,h2⟩:=H;exact⟨⟨b0++bs,by simp,λb hb=>(jQ.1 hb).elim (hb0 b) (oU b)⟩,h,hr,λi b hb=>⟨(h2 i b hb).1,by rw[iS (bG.1 (h2 i b hb).2).1];exact(h2 i b hb).2⟩⟩
theorem agr{B:aW->Prop}(H:Hs B aL σ R){bs:Heap}(oU:∀b∈bs,B b){j:Nat}{b:aW}(hj:σ.length<=j)(hb:(σ++bs)[j]? =δ b):Hs B aL (σ++bs) (blk j b*R):=by
 have hl:=XL H;have H2:=MR H bs oU;obtain⟨_,h,hr,h2⟩:=H
 have hn:h j=μ:=by
  cases hh:h j with
  |none=>rfl
  |some x=>have:=(bG.1 (h2 j x hh).2).1;omega
 refine⟨H2.pre,λi=>if i=j then δ b else h i,⟨λi=>if i=j then δ b else μ,h,λi=>rfl,hr,λi=>?_,λi=>?_⟩,λi x hx=>?_⟩
 ·by_cases e:i=j
  ·subst e;exact .inr hn
  ·simp [e]
 ·by_cases e:i=j<;>simp [e]
 ·by_cases e:i=j
  ·subst e;simp only[if_true,Θ]at hx;subst hx;exact⟨by omega,hb⟩
  ·simp only[e,if_false]at hx;obtain⟨k1,k2⟩:=h2 i x hx;exact⟨k1,by rw[iS (bG.1 k2).1];exact k2⟩
def KS(m:aq->Heap->aF)(args:aq)(c:α->aq)(sz:Nat)(l:List α):Prop:=∀(aL σ:Heap)(R:HP),Hs nV aL σ R->∃v σ',m args σ=δ (v,σ')/\Hs nV aL σ' (Sl (fl c) sz v l*R)
theorem avD{B:aW->Prop}(KI:∀b,nV b->B b){m:aq->Heap->aF}{args:aq}{l:List α}(h:KS m args c sz l)(H:Hs B aL σ R):∃v σ',m args σ=δ (v,σ')/\Hs B aL σ' (Sl (fl c) sz v l*R):=by
 obtain⟨v,σ',e1,K⟩:=h σ σ emp (C7 σ);refine⟨v,σ',e1,?_⟩;obtain⟨⟨bs,oU,hfr⟩,_⟩:=id K;subst oU;have KN:∀b∈bs,B b:=λb hb=>KI b (hfr b hb)
 rcases xZ K with⟨rfl,hv,_⟩|⟨id,g,rfl,K2⟩
 ·exact sV (MR H bs KN) hv
 ·obtain⟨k1,k2⟩:=jO K2;exact MT (agr H KN k1 k2)
theorem ahn{B:aW->Prop}(KI:∀b,nV b->B b){fN:List Sh}{r:aq->Heap->aF}{FE ts:aq}{l:List α}(h:KC σ fN FE ts)(e:KS (Ω θ fN .k r) ts c sz l)(H:Hs B aL σ R):
  ∃v σ',Ω θ fN .k r FE σ=δ (v,σ')/\Hs B aL σ' (Sl (fl c) sz v l*R):=by
 obtain⟨⟨as',k1,k2,k3⟩,k4,k5⟩:=S7 h;cases ho:FE.any A.own
 ·obtain⟨v,σ',e1,K⟩:=avD KI e H;exact⟨v,σ',by rw[RU (k5 ho) ho k4];exact e1,K⟩
 ·obtain⟨v,σ1,e1,K⟩:=e [] [] emp (C7 [])
  have e2:r (TQ fN ts) []=δ (v,σ1):=by unfold Ω at e1;rw[k4,Wc,bQ]at e1;obtain⟨⟨q1,q2⟩,f1,f2⟩:=fF.1 e1;simp only[T4,jr]at f2;obtain⟨rfl,rfl⟩:=f2;exact f1
  have hfr:∀b∈σ1,nV b:=by obtain⟨⟨bs,oU,hB⟩,_⟩:=K;rw[V7]at oU;subst oU;exact hB
  have hb:σ1.all A.AK=θ:=rN.2 hfr;have KN:∀b∈σ1,B b:=λb hb=>KI b (hfr b hb)
  have hw:∀v',A.B6 v=θ->A.AP σ.length v=v'->Ω θ fN .k r FE σ=δ (v',σ++σ1):=by intro v' h1 h2;unfold Ω;rw[ho,Bool.and_self,cU,k1,aJ,k3,e2,aJ,jr];simp only[h1,hb,Bool.and_self,cU,h2]
  rcases xZ K with⟨rfl,rfl|rfl,_⟩|⟨id,g,rfl,K2⟩
  ·exact⟨.aA,_,hw _ rfl rfl,sV (MR H σ1 KN) (.inl rfl)⟩
  ·exact⟨.ez,_,hw _ rfl rfl,sV (MR H σ1 KN) (.inr rfl)⟩
  ·obtain⟨_,k2⟩:=jO K2;refine⟨.os (id+σ.length) g sz 0 l.length,_,hw _ rfl rfl,MT (agr H KN (by omega) ?_)⟩;rw[jq (by omega),Nat.add_sub_cancel];exact k2
theorem asp{c:α->aq}(hc:∀x,(c x).all A.uv=θ)(l:List α):∀g g' seg,(seg=[]\/nV (.arr g sz seg))->nV (.arr g' sz (seg++l.map c)):=by
 intro g g' seg h;show((seg++l.map c).all λe=>e.all A.uv)=θ;rw[List.all_append,jW];refine⟨?_,?_⟩
 ·rcases h with rfl|h
  ·rfl
  ·exact h
 ·rw[List.all_map,rN];intro x _;exact hc x
theorem asr{ye:aq}(hc:ye.all A.uv=θ):∀g g' seg k,(seg=[]\/nV (.arr g sz seg))->nV (.arr g' sz (seg.take k++[ye]++seg.drop k)):=by
 intro g g' seg k h
 have hs:∀e∈seg,e.all A.uv=θ:=by
  rcases h with rfl|h
  ·intro e he;cases he
  ·exact rN.1 h
 show A.AK (.arr g' sz (seg.take k++[ye]++seg.drop k))=θ;unfold A.AK;rw[rN];intro e he;simp only[jQ,TV]at he;rcases he with(he|rfl)|he
 ·exact hs e (sA he)
 ·exact hc
 ·exact hs e (List.mem_of_mem_drop he)
theorem asq:∀g g' seg k,nV (.arr g sz seg)->nV (.arr g' sz (seg.eraseIdx k)):=by intro g g' seg k h;show A.AK (.arr g' sz (seg.eraseIdx k))=θ;unfold A.AK;rw[rN];intro e he;exact rN.1 h e (List.mem_of_mem_eraseIdx he)
end
def nB(l:List bB):Prop:=l.Pairwise λa b=>gK a.key b.key=θ
def kS(l:List bB)(k:aC):Nat:=(l.takeWhile λm=>gK m.key k).length
def wD(l:List bB)(k:aC):Bool:=l.any λm=>decide (m.key=k)
theorem Xu(l:List bB)(k:aC):kS l k<=l.length:=(List.takeWhile_prefix _).length_le
theorem RQ{l:List bB}{k:aC}(h:nB l):∀{i:Nat}{x:bB},l[i]? =δ x->(gK x.key k=θ↔i<kS l k):=by
 induction l with
 |nil=>intro i x hx;simp at hx
 |cons a l ih=>
  intro i x hx;have hs:=YE.1 h;unfold kS;rw[List.takeWhile_cons];cases ha:gK a.key k
  ·simp only[YQ,if_false,UB,aCX,iff_false,Bool.not_eq_true];cases i with
   |zero=>simp at hx;subst hx;exact ha
   |succ i=>
    simp only[Y5]at hx;have:=hs.1 x (dm hx);cases hq:gK x.key k
    ·rfl
    ·rw[Gn this hq]at ha;cases ha
  ·simp only[if_true,YZ];cases i with
   |zero=>simp at hx;subst hx;simp [ha]
   |succ i=>simp only[Y5]at hx;rw[ih hs.2 hx];unfold kS;omega
theorem MH{l:List bB}{k:aC}(h:nB l){i:Nat}{x:bB}(hi:l[i]? =δ x)(hk:x.key=k):kS l k=i:=by
 have h1:¬i<kS l k:=λq=>by have:=(RQ h hi).2 q;rw[hk,CZ]at this;cases this
 have h2:¬kS l k<i:=λq=>by
  have hp:kS l k<l.length:=Nat.lt_trans q (bG.1 hi).1;have hy:l[kS l k]? =δ l[kS l k]:=cC hp;have h3:¬gK l[kS l k].key k=θ:=λq'=>aDH _ ((RQ h hy).1 q')
  have h4:=List.pairwise_iff_getElem.1 h (kS l k) i hp (bG.1 hi).1 q;rw[(bG.1 hi).2,hk]at h4;exact h3 h4
 omega
theorem JF{l:List bB}{k:aC}(h:nB l):((l[kS l k]?).any λx=>decide (x.key=k))=wD l k:=by
 rw[pM];constructor
 ·intro e;cases hx:l[kS l k]? with
  |none=>rw[hx]at e;cases e
  |some x=>rw[hx]at e;exact VK.2 ⟨x,dm hx,e⟩
 ·intro e;obtain⟨x,hm,hk⟩:=VK.1 e;have hk:=of_decide_eq_true hk;obtain⟨i,hi⟩:=uy.1 hm;rw[MH h hi hk,hi];simp [hk]
theorem aeK{l:List bB}(hs:nB l)(hl:l.length<4611686018427387904)(k:aC):Jp l k=δ ((kS l k:Int),wD l k):=by
 unfold Jp;refine(ap8 (l:=l) (pr:=λm=>gK m.key k) (λi x hx=>?_) ?_ rfl).trans ?_
 ·have hi:=(bG.1 hx).1;have hi':((i:Int)<(l.length:Int)):=by omega
  have e:(decide (x.key.unit<k.unit)||decide (x.key.unit=k.unit)&&WR x.key.param.toList k.param.toList)=gK x.key k:=rfl;simp only[cL hi',if_true,afT hx,aJ,cq (show aY ((i:Int)+1) by unfold aY;omega),aDh,e];cases gK x.key k<;>simp
 ·simp only[cO (by omega:¬((l.length:Int)<(l.length:Int))),YQ,if_false,aJ,U7]
 ·show((if decide ((kS l k:Int)<(l.length:Int))=θ then pU l (kS l k:Int)else δ default).bind λx9=>δ ((kS l k:Int),((decide ((kS l k:Int)<(l.length:Int)))&&(decide (x9.key=k)))))=_;rw[<-JF hs];by_cases hp:kS l k<l.length
  ·have hx:l[kS l k]? =δ l[kS l k]:=cC hp;have hp':((kS l k:Int)<(l.length:Int)):=by omega
   rw[cL hp',aP rfl,afT hx,aJ,hx];simp
  ·have hx:l[kS l k]? =μ:=rK (by omega);have hp':¬((kS l k:Int)<(l.length:Int)):=by omega
   rw[cO hp',aO (by decide),aJ,hx];simp
def vw(n:Int)(st:List bB)(m:gf):List bB:=
 let st1:=if wD st m.key=θ then st.eraseIdx (kS st m.key)else st
 if m.release=θ then st1 else st1.take (kS st m.key)++[⟨m.key,m.value,n⟩]++st1.drop (kS st m.key)
def AJ(st:List bB)(c:bA):List bB:=c.dF.foldl (vw c.az) st
def pI(l:List bA):List bB:=l.foldl AJ []
def jo(st:List bB)(k:aC):Option bB:=st.find? λe=>decide (e.key=k)
theorem acS{n:Int}{st:List bB}(h:nB st)(m:gf):nB (vw n st m)/\(∀k,jo (vw n st m) k=if k=m.key then(if m.release=θ then μ else δ ⟨m.key,m.value,n⟩)else jo st k)/\(vw n st m).length<=st.length+1:=by
 obtain⟨p,hp⟩:∃p,p=kS st m.key:=⟨_,rfl⟩
 obtain⟨st1,Kr⟩:∃st1,st1=if wD st m.key=θ then st.eraseIdx p else st:=⟨_,rfl⟩
 have azR:p<=st.length:=by rw[hp];exact Xu _ _
 have e1:st1.take p=st.take p:=by
  rw[Kr];split
  ·rw[Ty,TZ (by simp;omega),aDJ,Nat.min_self]
  ·rfl
 have e2:st1.drop p=if wD st m.key=θ then st.drop (p+1)else st.drop p:=by
  rw[Kr];split
  ·rw[Ty,List.drop_append_of_le_length (by simp;omega),ZT (by simp;omega),V7]
  ·rfl
 have hlt:∀x∈st.take p,gK x.key m.key=θ:=λx hx=>by
  obtain⟨i,hi⟩:=uy.1 hx;rw[aCY]at hi;split at hi
  ·rename_i q;exact(RQ h hi).2 (by omega)
  ·cases hi
 have hgt:∀x∈st1.drop p,gK m.key x.key=θ:=λx hx=>by
  rw[e2]at hx
  have key:∀i,p<=i->st[i]? =δ x->x.key≠m.key->gK m.key x.key=θ:=by
   intro i hpi hi hne;cases hq:gK m.key x.key
   ·exfalso
    have h1:gK x.key m.key=ι:=by
     cases Am:gK x.key m.key
     ·rfl
     ·have:=(RQ h hi).1 Am;omega
    exact hne (aAK h1 hq)
   ·rfl
  split at hx
  ·rename_i hh;obtain⟨i,hi⟩:=uy.1 hx;rw[ZW]at hi;refine key _ (by omega) hi λe=>?_
   have:=MH h hi e;omega
  ·rename_i hh;obtain⟨i,hi⟩:=uy.1 hx;rw[ZW]at hi;refine key _ (by omega) hi λe=>?_
   exact hh (VK.2 ⟨x,dm hi,by simp [e]⟩)
 have hs1:nB st1:=by
  rw[Kr];split
  ·exact h.sublist (List.eraseIdx_sublist _ _)
  ·exact h
 have sQ:st1.length<=st.length:=by
  rw[Kr];split
  ·exact aEn _ _
  ·exact bN _
 have hno:∀k,k=m.key->jo st1 k=μ:=by
  rintro k rfl;unfold jo;rw[T0];intro x hx hk;have hk:=of_decide_eq_true hk;rw[<-YN p st1,jQ]at hx;rcases hx with hx|hx
  ·rw[e1]at hx;have:=hlt x hx;rw[hk,CZ]at this;cases this
  ·have:=hgt x hx;rw[hk,CZ]at this;cases this
 have ahN:∀k,k≠m.key->jo st1 k=jo st k:=by
  intro k hk;rw[Kr];split
  ·rename_i hh;unfold jo;rw[Ty]
   have hx:st[p]? ≠μ:=λe=>by have:=JF (k:=m.key) h;rw[hh,<-hp,e]at this;cases this
   obtain⟨x,hx⟩:=aD8.1 hx
   have hxk:x.key=m.key:=by have:=JF (k:=m.key) h;rw[hh,<-hp,hx]at this;simpa using this
   have e:st=st.take p++x::st.drop (p+1):=by rw[<-(bG.1 hx).2,aD6,YN]
   conv=>rhs;rw[e]
   rw[X7,X7,aDr,cO (λq=>hk (by rw[<-q,hxk]))]
  ·rfl
 have az2:vw n st m=if m.release=θ then st1 else st1.take p++[⟨m.key,m.value,n⟩]++st1.drop p:=by unfold vw;rw[<-hp,<-Kr]
 rw[az2];split
 ·rename_i hr;refine⟨hs1,λk=>?_,by omega⟩;by_cases hk:k=m.key
  ·rw[aP hk];exact hno k hk
  ·rw[aO hk];exact ahN k hk
 ·rename_i hr;refine⟨?_,λk=>?_,by simp;omega⟩
  ·unfold nB;rw[lp,aDK];refine⟨hs1.sublist (List.take_sublist _ _),?_,λx hx y hy=>?_⟩
   ·rw[aC9,YE];exact⟨λy hy=>hgt y hy,hs1.sublist (List.drop_sublist _ _)⟩
   ·rw[e1]at hx;rcases jQ.1 hy with hy|hy
    ·simp at hy;subst hy;exact hlt x hx
    ·exact Gn (hlt x hx) (hgt y hy)
  ·by_cases hk:k=m.key
   ·rw[aP hk];subst hk;unfold jo;rw[lp,X7]
    have:(st1.take p).find? (λe=>decide (e.key=m.key))=μ:=by rw[T0];intro x hx q;rw[e1]at hx;have:=hlt x hx;rw[of_decide_eq_true q,CZ]at this;cases this
    rw[this];simp
   ·rw[aO hk,<-ahN k hk];unfold jo;rw[lp,X7,aC9,aDr,cO (λq=>hk q.symm)];conv=>rhs;rw[<-YN p st1,X7]
end
section
open HP
section
variable {B : aW -> Prop} {aL σ : Heap} {R : HP}
theorem aby(x:bB):(bJ x).all A.uv=θ:=rfl
theorem axK{v:AV}{l:List bB}{m:bB}{i:Nat}(hi:i<=l.length)(hl:l.length<1099511627776)(H:Hs nV aL σ (Sl (fl bJ) 5 v l*R)):
  ∃v' σ',Ll [v,.ah (i:Int),.sl 5 [bJ m]] σ=δ (v',σ')/\Hs nV aL σ' (Sl (fl bJ) 5 v' (l.take i++[m]++l.drop i)*R):=by
 obtain⟨v',σ',e,H2⟩:=auO (most:=140737488355328 / 48) (zs:=[(ε 0),bE,(ε 0),(ε 0),(ε 0)]) (En:=Lh) (B:=nV) (E:=fl bJ) (y:=m) (ye:=bJ m)
  (eS (show pr (bJ m=bJ m)*(Sl (fl bJ) 5 v l*R)=_ by rw[show fl bJ (bJ m) m=pr (bJ m=bJ m)from rfl];ac_rfl) (p9.2 ⟨rfl,H⟩)) hi (by omega) (by omega) (asr (aby m))
 refine⟨v',σ',?_,H2⟩;unfold Ll Ω;rw[U7,bQ,show TQ [] [v,.ah (i:Int),.sl 5 [bJ m]]=[v,.ah (i:Int),.sl 5 [bJ m]] by simp [TQ]];show(PB v (.ah (i:Int)) (.sl 5 [bJ m]) σ).map _=_;rw[show PB v (.ah (i:Int)) (.sl 5 [bJ m]) σ=δ (v',σ')from e];simp [jr]
theorem awW{v:AV}{l:List bB}{i:Nat}{x:bB}(hx:l[i]? =δ x)(hl:l.length<=1099511627776)(H:Hs nV aL σ (Sl (fl bJ) 5 v l*R)):
  ∃v' σ',IA [v,.ah (i:Int),.ah ((i+1:Nat):Int)] σ=δ (v',σ')/\Hs nV aL σ' (Sl (fl bJ) 5 v' (l.eraseIdx i)*R):=by
 obtain⟨v',σ',xe,_,e,H2⟩:=auN (most:=140737488355328 / 48) (zs:=[(ε 0),bE,(ε 0),(ε 0),(ε 0)]) H hx (by omega) (by omega) asq;have H3:=yp (eS (show _=pr (xe=bJ x)*(Sl (fl bJ) 5 v' (l.eraseIdx i)*R) by rw[show fl bJ xe x=pr (xe=bJ x)from rfl];ac_rfl) H2);refine⟨v',σ',?_,H3⟩;unfold IA Ω;rw[U7,bQ,show TQ [] [v,.ah (i:Int),.ah ((i+1:Nat):Int)]=[v,.ah (i:Int),.ah ((i+1:Nat):Int)] by simp [TQ]];show(PA v (.ah (i:Int)) (.ah ((i+1:Nat):Int)) σ).map _=_;rw[show PA v (.ah (i:Int)) (.ah ((i+1:Nat):Int)) σ=δ (v',σ')from e];simp [jr]
theorem aoe{v:AV}{l:List bB}(H:Hs nV aL σ (Sl (fl bJ) 5 v l*R))(hs:nB l)(hl:l.length<4611686018427387904)(k:aC):Jl [v,.agg (aS k)] σ=δ (.aM [.ah (kS l k:Int),.bool (wD l k)],σ):=
 Bb (fN:=[.s 5]) (ts:=[sl 5 bJ l,.agg (aS k)]) ⟨XM Ml (MQ H),E5 (wq (AG k)) rfl,trivial⟩ (λσ=>ack (aeK hs hl k)) rfl
theorem ab9{n:Int}(ms:List gf):∀{st:List bB},nB st->nB (ms.foldl (vw n) st)/\(ms.foldl (vw n) st).length<=st.length+ms.length:=by
 induction ms with
 |nil=>intro st h;exact⟨h,bN _⟩
 |cons m ms ih=>intro st h;obtain⟨h1,_,h3⟩:=acS (n:=n) h m;obtain⟨h4,h5⟩:=ih h1;exact⟨h4,by simp only[V4,YZ];omega⟩
theorem arO{st:List bB}{c:bA}(hs:nB st)(hl:st.length+c.dF.length<1099511627776)(hm:c.dF.length<=aZ):KS Md [sl 5 bJ st,.agg (bg c)] bJ 5 (AJ st c):=by
 intro aL σ R H
 have run:∃b:AV×Heap,QL (sl 5 bJ st) (.agg (bg c)) σ=δ b/\Hs nV aL b.2 (Sl (fl bJ) 5 b.1 (AJ st c)*R):=by
  unfold QL;obtain⟨v,s1,e1,_,K1⟩:=Rz (B:=nV) (most:=140737488355328 / 48) (m:=PC) (r:=λ_ _=>μ) (r0:=Tt) (c:=bJ) (sz:=5) (l:=st) rfl (λ_ _=>rfl) (by omega) (asp aby st) H;rw[JI,aJ,e1,aJ,show Γ 10 (bg c)=δ (sl 8 ff c.dF)from rfl,aJ,fu,aJ];refine EW (Q:=λq=>∃h w,q.1=.exit 0/\q.2.1=[.lbx (bg c),h,w]/\Hs nV aL q.2.2 (Sl (fl bJ) 5 h (AJ st c)*R)) (aft c.dF (λi v s=>∃h,v=[.lbx (bg c),h,.ah (i:Int)]/\Hs nV aL s (Sl (fl bJ) 5 h ((c.dF.take i).foldl (vw c.az) st)*R)) ?_ ?_ ⟨v,rfl,K1⟩) ?_
  ·rintro i m w s hx ⟨h,rfl,K⟩;have hi:=(bG.1 hx).1;obtain⟨q1,q2⟩:=ab9 (n:=c.az) (c.dF.take i) hs;rw[ace _ _ _ hx];obtain⟨o,ho⟩:∃o,o=(c.dF.take i).foldl (vw c.az) st:=⟨_,rfl⟩
   rw[<-ho]at q1 q2 K ⊢;have hol:o.length<1099511627776:=by simp at q2;omega
   simp only[cH,dr];rw[iR hx,aJ,dL,gH hx,aJ];simp only[χ,aJ];rw[aeI,aJ,aea,aJ,Gy m _ rfl,aJ,abj,aJ,aoe K q1 (by omega) m.key,aJ,lV,aJ,ext1,aJ]
   -- what is there goes
   obtain⟨p,hp⟩:∃p,p=kS o m.key:=⟨_,rfl⟩
   obtain⟨o1,wT⟩:∃o1,o1=if wD o m.key=θ then o.eraseIdx p else o:=⟨_,rfl⟩
   have hpl:p<=o1.length:=by
    have:=Xu o m.key;rw[wT];split
    ·rename_i hh;have hx:=JF (k:=m.key) q1;rw[hh,<-hp]at hx;cases hpx:o[p]? with
     |none=>rw[hpx]at hx;cases hx
     |some x=>have:=(bG.1 hpx).1;rw[List.length_eraseIdx,aP this];omega
    ·omega
   have axv:o1.length<1099511627776:=by
    rw[wT];split
    ·have:=aEn o p;omega
    ·exact hol
   rw[<-hp]
   have del:∃h1 s1,(φ (.bool (wD o m.key)) (
     (WE (.ah (p:Int)) (ε 1)).bind λdZ=>
     (IA [h,.ah (p:Int),dZ] s).bind λiX=>
     δ ([.lbx (bg c),iX.1,(VD (ff m))],iX.2)) (
     δ ([.lbx (bg c),h,(VD (ff m))],s)))=δ ([.lbx (bg c),h1,.lbx (ff m)],s1)/\Hs nV aL s1 (Sl (fl bJ) 5 h1 o1*R):=by
    rw[wT];cases hh:wD o m.key
    ·exact⟨h,s,rfl,K⟩
    ·rw[dL,Kc (by have:=Xu o m.key;omega),aJ];have hx:=JF (k:=m.key) q1;rw[hh,<-hp]at hx;cases hpx:o[p]? with
     |none=>rw[hpx]at hx;cases hx
     |some x=>obtain⟨h1,s1,e2,K2⟩:=awW hpx (by omega) K;rw[e2,aJ];exact⟨h1,s1,rfl,K2⟩
   obtain⟨h1,s1,e2,K2⟩:=del;rw[e2,aJ];simp only[cH,dr];rw[show((Tv (.lbx (ff m))).bind λ_=>δ (4))=δ 4 from rfl,aJ,show((Tv (.lbx (ff m))).bind λiL=>Γ 4 iL)=δ (.bool m.release)from rfl,aJ,show Wk (.bool m.release)=δ (.bool (!m.release))from rfl,aJ]
   have az2:vw c.az o m=if m.release=θ then o1 else o1.take p++[⟨m.key,m.value,c.az⟩]++o1.drop p:=by unfold vw;rw[<-hp,<-wT]
   rw[az2];cases hr:m.release
   ·rw[show(!ι)=θ from rfl,dL]
    rw[show((Tv (.lbx (ff m))).bind λ_=>δ (0))=δ 0 from rfl,aJ,show((Tv (.lbx (ff m))).bind λkU=>VU 0 2 kU)=δ (.agg (aS m.key))from rfl,aJ,
     show((Tv (.lbx (ff m))).bind λ_=>δ (2))=δ 2 from rfl,aJ,show((Tv (.lbx (ff m))).bind λsJ=>VU 2 2 sJ)=δ (.agg (tC m.value))from rfl,aJ,
     show((Tv (.lbx (bg c))).bind λ_=>δ (0))=δ 0 from rfl,aJ,show((Tv (.lbx (bg c))).bind λwL=>Γ 0 wL)=δ (.ah c.az)from rfl,aJ]
    rw[show((((ψ 2 (.agg (aS m.key))).bind λkX=>(ir 0 kX [(ε 0),bE,(ε 0),(ε 0),(ε 0)]).bind λnD=>(ψ 2 (.agg (tC m.value))).bind λlN=>(ir 2 lN nD).bind λmU=>((Ψ (.ah c.az)).bind λv=>δ [v]).bind λoN=>(ir 4 oN mU).bind λoO=>δ oO).bind λcs=>δ (Φ cs)))=δ (.agg (bJ ⟨m.key,m.value,c.az⟩))from rfl,aJ];rw[show((((ψ 5 (.agg (bJ ⟨m.key,m.value,c.az⟩))).bind λoh=>(ir 0 oh [(ε 0),bE,(ε 0),(ε 0),(ε 0)]).bind λsK=>δ sK).bind λcs=>δ (Yh 5 (iP 5 1 cs))))=δ (.sl 5 [bJ ⟨m.key,m.value,c.az⟩])from rfl,aJ];obtain⟨h2,s2,e3,K3⟩:=axK (m:=⟨m.key,m.value,c.az⟩) hpl axv K2;rw[e3,aJ,aJ];simp only[cH,dr];rw[fT hx hm,aJ];exact⟨_,_,rfl,h2,rfl,by simpa using K3⟩
   ·rw[show(!θ)=ι from rfl,dD,aJ];simp only[cH,dr];rw[fT hx hm,aJ];exact⟨_,_,rfl,h1,rfl,by simpa using K2⟩
  ·rintro w s ⟨h,rfl,K⟩;simp only[cH,dr];rw[iQ,aJ,dD];refine⟨_,rfl,by simp,h,_,rfl,rfl,?_⟩;rw[UN]at K;exact K
  ·rintro⟨e,w,s⟩ ⟨h,w',h1,h2,K⟩;simp only at h1 h2 K;subst h1;subst h2;exact⟨_,rfl,K⟩
 obtain⟨⟨v,σ'⟩,h1,h2⟩:=run;exact⟨v,σ',wrap_eq rfl h1 (jr _),h2⟩
theorem abZ{l:List bA}(hl:∀c∈l,c.dF.length<=2000000):∀(k:Nat)(st:List bB),nB st->st.length<=k*2000000->nB (l.foldl AJ st)/\(l.foldl AJ st).length<=(k+l.length)*2000000:=by
 induction l with
 |nil=>intro k st h1 h2;exact⟨h1,h2⟩
 |cons c l ih=>intro k st h1 h2;obtain⟨h3,h4⟩:=ab9 (n:=c.az) c.dF h1;have hc:=hl c (by simp);obtain⟨h5,h6⟩:=ih (λx hx=>hl x (by simp [hx])) (k+1) (AJ st c) h3 (by show(c.dF.foldl _ st).length<=_;omega);refine⟨h5,?_⟩;rw[YZ,show k+(l.length+1)=k+1+l.length from by omega];exact h6
theorem anv{v:AV}{st:List bB}{e:AV}{c:bA}(KI:∀b,nV b->B b)(hs:nB st)(hl:st.length+c.dF.length<1099511627776)(hm:c.dF.length<=aZ)(H:Hs B aL σ (Sl (fl bJ) 5 v st*R))(he:Lt σ (.a Cg) e (.agg (bg c))):
  ∃v' σ',Md [v,e] σ=δ (v',σ')/\Hs B aL σ' (Sl (fl bJ) 5 v' (AJ st c)*(Sl (fl bJ) 5 v st*R)):=
 ahn KI (fN:=[.s 5,.a Cg]) (ts:=[sl 5 bJ st,.agg (bg c)]) ⟨XM Ml (MQ H),he,trivial⟩ (arO hs hl hm) H
theorem aq7(c:bA):Lt σ (.a Cg) (.agg (bg c)) (.agg (bg c)):=E5 (wq (JP c)) rfl
theorem aqa{l:List bA}{n:Nat}(hn:n<=l.length)(hl:l.length<=1000)(hm:∀c∈l,c.dF.length<=2000000):KS Qp [sl 11 bg l,.ah (n:Int)] bJ 5 (pI (l.take n)):=by
 intro aL σ R H
 have run:∃b:AV×Heap,Qt (sl 11 bg l) (.ah (n:Int)) σ=δ b/\Hs nV aL b.2 (Sl (fl bJ) 5 b.1 (pI (l.take n))*R):=by
  unfold Qt;rw[show Wf 11 (sl 11 bg l) μ (δ (.ah (n:Int))) σ=δ (sl 11 bg (l.take n))from Gj 11 bg l hn,aJ,fu,aJ];obtain⟨t,ht⟩:∃t,t=l.take n:=⟨_,rfl⟩
  have SZ:t.length<=1000:=by rw[ht];simp;omega
  have htm:∀c∈t,c.dF.length<=2000000:=λc hc=>hm c (by rw[ht]at hc;exact sA hc)
  rw[<-ht];refine EW (Q:=λq=>∃h w,q.1=.exit 0/\q.2.1=[h,w]/\Hs nV aL q.2.2 (Sl (fl bJ) 5 h (pI t)*R)) (aft t (λi v s=>∃h,v=[h,.ah (i:Int)]/\Hs nV aL s (Sl (fl bJ) 5 h (pI (t.take i))*R)) ?_ ?_ ⟨.aA,rfl,sV H (.inl rfl)⟩) ?_
  ·rintro i c w s hx ⟨h,rfl,K⟩;have hi:=(bG.1 hx).1;obtain⟨q1,q2⟩:=abZ (l:=t.take i) (λc hc=>htm c (sA hc)) 0 [] VY (kW _);have hc:=htm c (dm hx)
   have SU:(pI (t.take i)).length<=2000000000:=by
    have:(t.take i).length<=1000:=by simp;omega
    unfold pI;omega
   simp only[cH,dr];rw[iR hx,aJ,dL,gH hx,aJ];simp only[χ,aJ];rw[GC,aJ,JI,aJ,C3 _ _ rfl,aJ,GC,aJ];have q3:(pI (t.take i)).length+c.dF.length<1099511627776:=by omega
   have q4:c.dF.length<=aZ:=by unfold aZ;omega
   obtain⟨h',s',e1,K2⟩:=anv (λ_ h=>h) q1 q3 q4 K (aq7 c);have K3:=yp (eS (show _=Sl (fl bJ) 5 h (pI (t.take i))*(Sl (fl bJ) 5 h' (AJ (pI (t.take i)) c)*R) by ac_rfl) K2);rw[e1,aJ,fT hx (by unfold aZ;omega),aJ];refine⟨_,_,rfl,h',rfl,?_⟩;unfold pI;rw[ace _ _ _ hx];exact K3
  ·rintro w s ⟨h,rfl,K⟩;simp only[cH,dr];rw[iQ,aJ,dD];refine⟨_,rfl,by simp,h,_,rfl,rfl,?_⟩;rw[UN]at K;exact K
  ·rintro⟨e,w,s⟩ ⟨h,w',h1,h2,K⟩;simp only at h1 h2 K;subst h1;subst h2;exact⟨_,rfl,K⟩
 obtain⟨⟨v,σ'⟩,h1,h2⟩:=run;refine⟨v,σ',wrap_eq rfl ?_ (jr _),h2⟩;rw[show TQ [Sh.e 11 [.k,.k,.k,.k,.k,.k,.k,.s 2,.k,.k,.s 8]] [sl 11 bg l,.ah (n:Int)]=[sl 11 bg l,.ah (n:Int)]from afw l _];exact h1
end
def uw(n:Int)(s:List (aC×bB))(m:gf):List (aC×bB):=if m.release=θ then uJ m.key s else fJ m.key ⟨m.key,m.value,n⟩ s
def GP(l:List bA):List (aC×bB):=l.foldl (λs c=>c.dF.foldl (uw c.az) s) []
def uI(s:List (aC×bB)):Prop:=(s.map (·.1)).Nodup
theorem adZ{ν:Type}(k k':aC)(v:ν):∀s:List (aC×ν),dQ k (fJ k' v s)=if k=k' then δ v else dQ k s
 |[]=>by by_cases h:k=k'<;>simp [fJ,dQ,h]
 |(a,b)::s=>by
  rw[fJ];by_cases h1:k'=a
  ·subst h1;simp only[if_true,dQ];by_cases h:k=k'<;>simp [h]
  ·rw[aO h1,dQ,dQ,adZ k k' v s];by_cases h2:k=a
   ·have:k≠k':=λe=>h1 (by rw[<-e,h2])
    simp [h2,this];intro e;exact absurd (e.symm) h1
   ·simp [h2]
theorem Xp{ν:Type}{k:aC}:∀{s:List (aC×ν)}{x:aC×ν},x∈uJ k s->x∈s
 |[],x,h=>h
 |(a,b)::s,x,h=>by
  rw[uJ]at h;split at h
  ·exact tN _ h
  ·rcases jP.1 h with rfl|h
   ·exact YJ
   ·exact tN _ (Xp h)
theorem acU{ν:Type}{k:aC}:∀{s:List (aC×ν)},(∀p∈s,p.1≠k)->dQ k s=μ
 |[],_=>rfl
 |(a,b)::s,h=>by rw[dQ,aO (λe=>h (a,b) (by simp) e.symm)];exact acU (λp hp=>h p (by simp [hp]))
theorem adY(k k':aC):∀{s:List (aC×bB)},uI s->dQ k (uJ k' s)=if k=k' then μ else dQ k s
 |[],_=>by simp [uJ,dQ]
 |(a,b)::s,h=>by
  unfold uI at h;rw[eP,pN]at h;rw[uJ];by_cases h1:k'=a
  ·subst h1;rw[aP rfl];by_cases h2:k=k'
   ·subst h2;rw[aP rfl];exact acU λp hp e=>h.1 (gh.2 ⟨p,hp,e⟩)
   ·rw[aO h2,dQ,aO h2]
  ·rw[aO h1,dQ,dQ,adY k k' (s:=s) h.2];by_cases h2:k=a
   ·have:k≠k':=λe=>h1 (by rw[<-e,h2])
    rw[aP h2,aP h2,aO this]
   ·rw[aO h2,aO h2]
theorem afA{k:aC}{v:bB}:∀{s:List (aC×bB)},uI s->uI (fJ k v s)/\∀x∈(fJ k v s).map (·.1),x∈s.map (·.1)\/x=k
 |[],_=>⟨by simp [uI,fJ],by simp [fJ]⟩
 |(a,b)::s,h=>by
  unfold uI at h;rw[eP,pN]at h;rw[fJ];split
  ·rename_i e;subst e;exact⟨by unfold uI;rw[eP,pN];exact h,λx hx=>.inl hx⟩
  ·rename_i e;obtain⟨h1,h2⟩:=afA (k:=k) (v:=v) h.2;refine⟨?_,λx hx=>?_⟩
   ·unfold uI;rw[eP,pN];refine⟨λhm=>?_,h1⟩;rcases h2 _ hm with h3|h3
    ·exact h.1 h3
    ·exact e h3.symm
   ·rw[eP]at hx ⊢;rcases jP.1 hx with rfl|hx
    ·exact .inl YJ
    ·rcases h2 x hx with h3|h3
     ·exact .inl (tN _ h3)
     ·exact .inr h3
theorem afz{k:aC}:∀{s:List (aC×bB)},uI s->uI (uJ k s)
 |[],h=>h
 |(a,b)::s,h=>by
  unfold uI at h;rw[eP,pN]at h;rw[uJ];split
  ·exact h.2
  ·unfold uI;rw[eP,pN];refine⟨λhm=>?_,afz h.2⟩;obtain⟨p,hp,e⟩:=gh.1 hm;exact h.1 (gh.2 ⟨p,Xp hp,e⟩)
def Dg(s:List (aC×bB))(st:List bB):Prop:=uI s/\nB st/\∀k,dQ k s=jo st k
theorem apY{n:Int}{s:List (aC×bB)}{st:List bB}(h:Dg s st)(m:gf):Dg (uw n s m) (vw n st m):=by
 obtain⟨h1,h2,h3⟩:=h;obtain⟨k1,k2,_⟩:=acS (n:=n) h2 m;unfold uw;refine⟨?_,k1,λk=>?_⟩
 ·split
  ·exact afz h1
  ·exact(afA h1).1
 ·rw[k2 k];split
  ·rw[adY k m.key h1,h3 k]
  ·rw[adZ,h3 k]
theorem adI{n:Int}:∀(ms:List gf){s:List (aC×bB)}{st:List bB},Dg s st->Dg (ms.foldl (uw n) s) (ms.foldl (vw n) st)
 |[],_,_,h=>h
 |m::ms,_,_,h=>adI ms (apY h m)
theorem aeV:∀(l:List bA){s:List (aC×bB)}{st:List bB},Dg s st->Dg (l.foldl (λs c=>c.dF.foldl (uw c.az) s) s) (l.foldl AJ st)
 |[],_,_,h=>h
 |c::l,_,_,h=>aeV l (adI c.dF h)
theorem aow(l:List bA):Dg (GP l) (pI l):=aeV l ⟨VY,VY,λk=>rfl⟩
theorem atB{l:List bA}(hl:l.length<=aZ)(hm:∀c∈l,c.dF.length<=aZ):L9 l=δ (GP l):=by
 unfold L9 GP;rw[Gm (g:=λs c=>c.dF.foldl (uw c.az) s) (P:=λ_ _=>True) hl trivial (λ_ _ _ _ _=>trivial) ?_]
 ·rfl
 intro i c s hc _;rw[Gm (g:=λs m=>uw c.az s m) (P:=λ_ _=>True) (hm c (dm hc)) trivial (λ_ _ _ _ _=>trivial) ?_]
 ·rfl
 intro j m s hm _;unfold uw;by_cases hr:m.release=θ<;>simp [hr]
end
section
open HP
theorem ap9{l:List bA}(hg:l.Pairwise λa b=>a.az<b.az) (n:Int):iT (λc=>decide (c.az=n)) l=if sE l n=θ then(mE l n:Int)else -1:=by
 rcases td (λc:bA=>decide (c.az=n)) l with⟨h1,h2,_⟩|⟨k,x,h1,h2,h3,_,_⟩
 ·have:sE l n=ι:=by rw[Bool.eq_false_iff];intro e;obtain⟨x,hx,hp⟩:=VK.1 e;rw[h2 x hx]at hp;cases hp
  rw[this,h1];rfl
 ·have:sE l n=θ:=VK.2 ⟨x,dm h1,h2⟩;rw[this,aP rfl,h3,afK hg h1 (of_decide_eq_true h2)]
theorem arI{l:List bA}(hg:Good l)(n:Int):iT (λc=>decide (c.az=n)) l=if sE l n=θ then(mE l n:Int)else -1:=ap9 hg.Ld n
end
section
open HP
def aus(n:Int):bA:=⟨n,⟨#[]⟩,0,0,0,0,⟨1,[]⟩,ι,-1,[]⟩
def newRow(n:Int):aq:=au8 (aus n) .aA .aA
theorem aq1{st:List bB}(h:nB st){k:aC}(hh:wD st k=θ):∃x,st[kS st k]? =δ x/\jo st k=δ x:=by
 have hx:=JF (k:=k) h;rw[hh]at hx;cases hp:st[kS st k]? with
 |none=>rw[hp]at hx;cases hx
 |some x=>
  refine⟨x,rfl,?_⟩;unfold jo;cases hf:st.find? λe=>decide (e.key=k)with
  |none=>rw[hp]at hx;have:=T0.1 hf x (dm hp);simp only[Option.any_some]at hx;exact absurd hx this
  |some y=>have h1:=aEg hf;obtain⟨j,hj⟩:=uy.1 (xD hf);have:=MH h hj (of_decide_eq_true h1);rw[<-this,hp]at hj;exact hj.symm
theorem asY{st:List bB}{k:aC}(hh:wD st k=ι):jo st k=μ:=by unfold jo;rw[T0];intro x hx hk;rw[Bool.eq_false_iff]at hh;exact hh (VK.2 ⟨x,hx,hk⟩)
section
variable {aL σ : Heap} {R : HP}
end
end
section
open HP
section
variable {aL σ : Heap} {R : HP}
theorem afg{α:Type}{c:α->aq}{sz:Nat}{B:aW->Prop}{v:AV}{l:List α}(hc:∀x,kF (c x))(H:Hs B aL σ (Sl (fl c) sz v l*R)):∃v',wh aL v σ=δ (v',aL)/\Y9 (.s sz) v'=sl sz c l:=by
 obtain⟨v',h1,h2,h3⟩:=GO H hc (bN _) 7;refine⟨v',MN (MQ H) h1 (λe=>?_),h3⟩;rcases xZ H with⟨rfl,rfl|rfl,_⟩|⟨id,g,rfl,K⟩
 ·simp [X4]at h1;rw[h1]
 ·simp [X4]at h1;rw[h1]
 ·obtain⟨k1,k2⟩:=jO K;have:=(bG.1 k2).1;subst e;omega
end
end
section
open HP
theorem ahd{f:Nat}{l:aq}(h:kF l):Fz (.fn f l):=λσ n d=>by cases d<;>simp [X4,h σ n]
theorem ahe{l:aq}(h:kF l):Fz (.rp l):=λσ n d=>by cases d<;>simp [X4,h σ n]
def fmS(st:List (aC×bB)):AV:=yS (λx=>(Φ (aS x))) (λx=>(Φ (bJ x))) st
section
variable {aL σ : Heap} {R : HP}
end
end
section
open HP
theorem aq3{R:Type}{f:aq->Heap->(AX×aq×Heap->Option R)->Option R}{v:aq}{σ:Heap}{K:AX×aq×Heap->Option R}{r:R}(h:∃n,∀m,n<=m->A.AR f m v σ K=δ r):A.Dn f v σ K=δ r:=by
 have hx:∃r,∃n,∀m,n<=m->A.AR f m v σ K=δ r:=⟨r,h⟩
 unfold A.Dn;rw[dif_pos hx];obtain⟨n,hn⟩:=h;obtain⟨n',hn'⟩:=Vm hx;have a:=hn (n+n') (by omega);have b:=hn' (n+n') (by omega);rw[a]at b;exact b.symm
theorem bounds{P:Nat->Nat->Prop}:∀(n:Nat),(∀j,j<n->∃N,∀m,N<=m->P j m)->∃N,∀j,j<n->∀m,N<=m->P j m
 |0,_=>⟨0,λj h=>by omega⟩
 |n+1,h=>by
  obtain⟨N,hN⟩:=bounds n (λj hj=>h j (by omega));obtain⟨M,hM⟩:=h n (by omega);refine⟨N+M,λj hj m hm=>?_⟩;by_cases e:j=n
  ·subst e;exact hM m (by omega)
  ·exact hN j (by omega) m (by omega)
theorem map_erase{α β:Type}(f:α->β)(l:List α)(j:Nat):(l.map f).eraseIdx j=(l.eraseIdx j).map f:=by rw[Ty,Ty,Z6,List.map_take,List.map_drop]
theorem ath{α:Type}{l:List α}{j:Nat}(hj:j<l.length):(l[j]::l.eraseIdx j).Perm l:=by
 have e:l=l.take j++l[j]::l.drop (j+1):=by rw[aD6,YN]
 rw[Ty];conv=>rhs;rw[e]
 exact aC2.symm
theorem V9{α R:Type}{ex:Nat}{enc:α->AV×AV}{it:Nat}{f:aq->Heap->(AX×aq×Heap->Option R)->Option R}{K:AX×aq×Heap->Option R}{r:R}{es:List α}
  (body:aq->Heap->(AX×aq×Heap->Option R)->Option R) (ev:aq->aq)
  (hf:∀v s k,f v s k=A.xA (.op it 0) s λx s'=>(Yn 0 x).bind λc=>φ c (body v s' k) (k (.exit ex,ev v,s')))
  (I:List α->List α->aq->Heap->Prop) (kR:∀d l v s,I d l v s->∃c,s[it]? =δ (.it c (l.map enc)))
  (hstep:∀d l v s j p,(d++l).Perm es->I d l v s->l[j]? =δ p->∃v' s',(∀k,body v (s.set it (.it [enc p] ((l.eraseIdx j).map enc))) k=k (.normal,v',s'))/\I (d++[p]) (l.eraseIdx j) v' s')
  (hend:∀d v s,d.Perm es->I d [] v s->K (.exit ex,ev v,s)=δ r) {v0:aq} {s0:Heap} (h0:I [] es v0 s0):A.Dn f v0 s0 K=δ r:=by
 have key:∀(n:Nat)(d l:List α)v s,l.length=n->(d++l).Perm es->I d l v s->∃N,∀m,N<=m->A.AR f m v s K=δ r:=by
  intro n;induction n with
  |zero=>
   intro d l v s hl hp hI;have:l=[]:=xC hl;subst this;refine⟨1,λm hm=>?_⟩;obtain⟨m',rfl⟩:∃m',m=m'+1:=⟨m-1,by omega⟩
   obtain⟨c,hc⟩:=kR _ _ _ _ hI;rw[A.AR,hf];simp only[A.xA,hc,Vl];exact hend d v s (by simpa using hp) hI
  |succ n ih=>
   intro d l v s hl hp hI;obtain⟨c,hc⟩:=kR _ _ _ _ hI
   have hb:∀j,j<l.length->∃N,∀m,N<=m->∀p,l[j]? =δ p->body v (s.set it (.it [enc p] ((l.eraseIdx j).map enc))) (λq=>match q.1 with|.normal=>A.AR f m q.2.1 q.2.2 K|_=>K q)=δ r:=by
    intro j hj;have hx:l[j]? =δ l[j]:=cC hj;obtain⟨v',s',h1,h2⟩:=hstep d l v s j _ hp hI hx
    have hp2:((d++[l[j]])++l.eraseIdx j).Perm es:=by rw[lp,aC9];exact((ath hj).append_left d).trans hp
    obtain⟨N,hN⟩:=ih _ _ _ _ (by rw[List.length_eraseIdx,aP hj];omega) hp2 h2;refine⟨N,λm hm p KU=>?_⟩;rw[hx]at KU;injection KU with KU;subst KU
    rw[h1];exact hN m hm
   obtain⟨N,hN⟩:=bounds l.length hb;refine⟨N+1,λm hm=>?_⟩;obtain⟨m',rfl⟩:∃m',m=m'+1:=⟨m-1,by omega⟩
   rw[A.AR,hf];cases l with
   |nil=>simp at hl
   |cons e l=>
    simp only[A.xA,hc,eP];refine af3 0 (by simp) λj hj=>?_
    have hj':j<(e::l).length:=by simpa using hj
    have hx:(e::l)[j]? =δ (e::l)[j]:=cC hj'
    have hx2:(enc e::l.map enc)[j]? =δ (enc (e::l)[j]):=by rw[<-eP,uz,hx];rfl
    have:=hN j hj' m' (by omega) _ hx;simp only[hx2];rw[<-eP,map_erase];exact this
 exact aq3 (key _ [] es v0 s0 rfl (List.Perm.refl _) h0)
def A0(p:aC×bB):AV×AV:=(.agg (aS p.1),.agg (bJ p.2))
section
variable {aL σ : Heap} {R : HP}
end
end
section
open HP
theorem ae0{ν:Type}(k:aC)(v:ν):∀s:List (aC×ν),(fJ k v s).length<=s.length+1
 |[]=>by simp [fJ]
 |(a,b)::s=>by
  rw[fJ];split
  ·simp
  ·have:=ae0 k v s;simp;omega
theorem aeZ{ν:Type}(k:aC):∀s:List (aC×ν),(uJ k s).length<=s.length
 |[]=>by simp [uJ]
 |(a,b)::s=>by
  rw[uJ];split
  ·simp
  ·have:=aeZ k s;simp;omega
theorem ap4(n:Int)(s:List (aC×bB))(m:gf):(uw n s m).length<=s.length+1:=by
 unfold uw;split
 ·have:=aeZ m.key s;omega
 ·exact ae0 _ _ _
theorem acT(n:Int):∀(ms:List gf)(s:List (aC×bB)),(ms.foldl (uw n) s).length<=s.length+ms.length
 |[],s=>bN _
 |m::ms,s=>by rw[V4];have:=acT n ms (uw n s m);have:=ap4 n s m;simp;omega
theorem ap3{l:List bA}(hm:∀c∈l,c.dF.length<=2000):(GP l).length<=l.length*2000:=by
 unfold GP
 have key:∀(l:List bA)(s:List (aC×bB)),(∀c∈l,c.dF.length<=2000)->(l.foldl (λs c=>c.dF.foldl (uw c.az) s) s).length<=s.length+l.length*2000:=by
  intro l;induction l with
  |nil=>intro s _;simp
  |cons c l ih=>intro s h;rw[V4];have h1:=ih (c.dF.foldl (uw c.az) s) (λx hx=>h x (by simp [hx]));have h2:=acT c.az c.dF s;have h3:=h c (by simp);simp only[YZ,iG];omega
 have:=key l [] hm;simpa using this
section
variable {aL σ : Heap} {R : HP}
end
end
section
open HP
section
variable {aL σ : Heap} {R : HP}
theorem aqL{α:Type}{c:α->aq}{sz:Nat}{B:aW->Prop}{v:AV}{l:List α}{e:Int}(hc:∀x,kF (c x))(H:Hs B aL σ (Sl (fl c) sz v l*R)):∃v',wh aL (.aM [v,.ah e]) σ=δ (.aM [v',.ah e],aL)/\Y9 (.s sz) v'=sl sz c l:=by
 obtain⟨v',h1,h2,h3⟩:=GO H hc (bN _) 7;refine⟨v',MN (MQ H) (by simp [X4,A.gP,h1]) (λe=>?_),h3⟩;rcases xZ H with⟨rfl,rfl|rfl,_⟩|⟨id,g,rfl,K⟩
 ·simp [X4]at h1;rw[h1]
 ·simp [X4]at h1;rw[h1]
 ·obtain⟨k1,k2⟩:=jO K;have:=(bG.1 k2).1;subst e;omega
theorem RM{α:Type}{c:α->aq}{sz:Nat}{v:AV}{l:List α}{e:Int}(h:Y9 (.s sz) v=sl sz c l):Y9 (.t [(.s sz),.k]) (.aM [v,.ah e])=.aM [sl sz c l,.ah e]:=by simp only[Y9,TQ]at h ⊢;rw[h]
def AE(l:List bA)(n:Int):List bB×Int:=
 if ¬(pL l=0)then([],pL l)else if sE l n=ι then([],8)else(pI (l.take (mE l n+1)),0)
theorem aa2{l:List bA}(hlen:l.length<=300)(hm:∀c∈l,c.dF.length<=2000):nB (pI l)/\(pI l).length<=600000000:=by obtain⟨b1,b2⟩:=abZ (l:=l) (λc hc=>by have:=hm c hc;omega) 0 [] VY (kW _);exact⟨b1,by unfold pI;omega⟩
end
end
section
open HP Go.Sort
theorem agH{α:Type}{r:α->α->Prop}(S2:∀x,¬r x x)(tr:∀x y z,r x y->r y z->r x z):∀{a b:List α},a.Pairwise r->b.Pairwise r->(∀x,x∈a↔x∈b)->a=b
 |[],[],_,_,_=>rfl
 |[],y::b,_,_,h=>by have:=(h y).2 (by simp);simp at this
 |x::a,[],_,_,h=>by have:=(h x).1 (by simp);simp at this
 |x::a,y::b,ha,hb,h=>by
  have ha':=YE.1 ha;have hb':=YE.1 hb
  have hxy:x=y:=by
   rcases jP.1 ((h x).1 (by simp))with e|m1
   ·exact e
   rcases jP.1 ((h y).2 (by simp))with e|m2
   ·exact e.symm
   exact(S2 y (tr _ _ _ (hb'.1 x m1) (ha'.1 y m2))).elim
  subst hxy;congr 1;refine agH S2 tr ha'.2 hb'.2 λz=>⟨λhz=>?_,λhz=>?_⟩
  ·rcases jP.1 ((h z).1 (by simp [hz]))with e|m
   ·exact(S2 x (e▸ha'.1 z hz)).elim
   ·exact m
  ·rcases jP.1 ((h z).2 (by simp [hz]))with e|m
   ·exact(S2 x (e▸hb'.1 z hz)).elim
   ·exact m
theorem EJ{α:Type}[Inhabited α]{cf:α->α->Int}(hS:SWO (λx y=>decide (cf x y<0))) (l:List α):(qx cf l).Perm l/\(qx cf l).Pairwise λx y=>¬cf y x<0:=by
 obtain⟨⟨h1,_,h3⟩,h2⟩:=pdq_sorts (λx y=>decide (cf x y<0)) hS l.toArray 0 l.length (Xf l.length) θ θ (kW _) (by simp) (Or.inl rfl);unfold qx;generalize pdq (λx y=>decide (cf x y<0)) l.toArray 0 l.length (Xf l.length) θ θ=d' at h1 h2 h3;have hs:d'.size=l.length:=by simpa using h1
 refine⟨?_,?_⟩
 ·have e1:d'.extract 0 l.length=d':=by rw[<-hs];simp
  have e2:l.toArray.extract 0 l.length=l.toArray:=by simp
  rw[e1,e2]at h3;exact h3
 ·rw[List.pairwise_iff_getElem];intro i j hi hj hij;simp only[Y8]at hi hj;have:=h2 i j (kW _) hij (by omega);simp only[getElem!_pos d' i hi,getElem!_pos d' j hj]at this;simpa using this
theorem WM{α:Type}[Inhabited α](f:α->aC){l:List α}(hn:∀x∈l,∀y∈l,f x=f y->x=y)(hd:l.Nodup):(qx (λa b=>nM (f a) (f b)) l).Pairwise λa b=>gK (f a) (f b)=θ:=by
 obtain⟨h1,h2⟩:=EJ (AH f) l;have hnd:(qx (λa b=>nM (f a) (f b)) l).Pairwise (λx y=>x≠y):=(h1.nodup_iff).2 hd;refine List.Pairwise.imp_of_mem (R:=λx y=>(¬nM (f y) (f x)<0)/\x≠y) ?_ (h2.and hnd);rintro x y hx hy ⟨q1,q2⟩;cases e:gK (f x) (f y)
 ·exfalso
  have e2:gK (f y) (f x)=ι:=by
   cases e2:gK (f y) (f x)
   ·rfl
   ·exact absurd ((EH _ _).2 e2) q1
  exact q2 (hn x (h1.mem_iff.1 hx) y (h1.mem_iff.1 hy) (aAK e e2))
 ·rfl
theorem acq{l:List bB}(h:nB l){k:aC}{x:bB}:jo l k=δ x↔x∈l/\x.key=k:=by
 constructor
 ·intro e;exact⟨xD e,of_decide_eq_true (aEg (p:=λm:bB=>decide (m.key=k)) e)⟩
 ·rintro⟨hm,hk⟩;cases e:jo l k with
  |none=>have:=T0.1 e x hm;simp [hk]at this
  |some y=>have hy:=xD e;have hyk:y.key=k:=of_decide_eq_true (aEg (p:=λm:bB=>decide (m.key=k)) e);obtain⟨i,hi⟩:=uy.1 hm;obtain⟨j,hj⟩:=uy.1 hy;have e1:=MH h hi hk;have e2:=MH h hj hyk;rw[<-e1,e2,hj]at hi;exact hi
theorem Wy{k:aC}{v:bB}:∀{s:List (aC×bB)},uI s->(dQ k s=δ v↔(k,v)∈s)
 |[],_=>by simp [dQ]
 |(a,b)::s,h=>by
  unfold uI at h;rw[eP,pN]at h;rw[dQ];by_cases e:k=a
  ·subst e;rw[aP rfl];constructor
   ·intro q;injection q with q;simp [q]
   ·intro q;rcases jP.1 q with q|q
    ·injection q with _ q;rw[q]
    ·exact(h.1 (gh.2 ⟨_,q,rfl⟩)).elim
  ·rw[aO e,Wy h.2];constructor
   ·intro q;exact tN _ q
   ·intro q;rcases jP.1 q with q|q
    ·injection q with q _;exact(e q).elim
    ·exact q
def Fw(s:List (aC×bB)):Prop:=∀p∈s,p.2.key=p.1
theorem aeD{ν:Type}{k:aC}{v:ν}:∀{s:List (aC×ν)}{x:aC×ν},x∈fJ k v s->x∈s\/x=(k,v)
 |[],x,h=>by simp [fJ]at h;exact .inr h
 |(a,b)::s,x,h=>by
  rw[fJ]at h;split at h
  ·rcases jP.1 h with rfl|h
   ·exact .inr rfl
   ·exact .inl (tN _ h)
  ·rcases jP.1 h with rfl|h
   ·exact .inl YJ
   ·rcases aeD h with h|h
    ·exact .inl (tN _ h)
    ·exact .inr h
theorem anV(l:List bA):Fw (GP l):=by
 have inner:∀(n:Int)(ms:List gf)(s:List (aC×bB)),Fw s->Fw (ms.foldl (uw n) s):=by
  intro n ms;induction ms with
  |nil=>intro s h;exact h
  |cons m ms ih=>
   intro s hs;refine ih _ (λp hp=>?_);unfold uw at hp;split at hp
   ·exact hs p (Xp hp)
   ·rcases aeD hp with hp|hp
    ·exact hs p hp
    ·rw[hp]
 have key:∀(l:List bA)(s:List (aC×bB)),Fw s->Fw (l.foldl (λs c=>c.dF.foldl (uw c.az) s) s):=by
  intro l;induction l with
  |nil=>intro s h;exact h
  |cons c l ih=>intro s hs;exact ih _ (inner c.az c.dF s hs)
 exact key l [] (by intro p hp;cases hp)
theorem amk{s d:List (aC×bB)}{st:List bB}(hS:Dg s st)(hk:Fw s)(hp:d.Perm s)[Inhabited bB]:qx (λa b:bB=>nM a.key b.key) (d.map (·.2))=st:=by
 obtain⟨h1,h2,h3⟩:=hS
 have OF:uI d:=by unfold uI at h1 ⊢;exact((hp.map (·.1)).nodup_iff).2 h1
 have hkd:Fw d:=λp hp'=>hk p (hp.mem_iff.1 hp')
 have he:d.map (·.1)=(d.map (·.2)).map (·.key):=by rw[YG];exact(Yq λp hp'=>(hkd p hp').symm)
 have hnk:((d.map (·.2)).map (·.key)).Nodup:=by rw[<-he];exact OF
 have hinj:∀x∈d.map (·.2),∀y∈d.map (·.2),x.key=y.key->x=y:=by
  intro x hx y hy e;obtain⟨i,hi⟩:=uy.1 hx;obtain⟨j,hj⟩:=uy.1 hy;have hi':=(bG.1 hi).1
  have hij:i=j:=by
   refine(List.getElem?_inj (l:=(d.map (·.2)).map (·.key)) (by simpa using hi') hnk).1 ?_;have q1:((d.map (·.2)).map (·.key))[i]? =δ x.key:=by rw[uz,hi];rfl
   have q2:((d.map (·.2)).map (·.key))[j]? =δ y.key:=by rw[uz,hj];rfl
   rw[q1,q2,e]
  subst hij;rw[hi]at hj;injection hj
 have hs:=WM (f:=λe:bB=>e.key) hinj ((TO.1 hnk).imp λh e=>h (congrArg _ e));refine agH (r:=λa b:bB=>gK a.key b.key=θ) (λx q=>by rw[CZ]at q;cases q) (λx y z=>Gn) hs h2 λx=>?_
 have hmem:=(EJ (AH λe:bB=>e.key) (d.map (·.2))).1.mem_iff (a:=x);rw[hmem,(hp.map (·.2)).mem_iff];constructor
 ·intro hx;obtain⟨p,hp1,hp2⟩:=gh.1 hx;have hpk:=hk p hp1;have:dQ p.1 s=δ p.2:=(Wy h1).2 hp1;rw[h3]at this;rw[<-hp2];exact((acq h2).1 this).1
 ·intro hx;have:jo st x.key=δ x:=(acq h2).2 ⟨hx,rfl⟩;rw[<-h3]at this;exact gh.2 ⟨_,(Wy h1).1 this,rfl⟩
section
variable {aL σ : Heap} {R : HP}
theorem aru{α:Type}[Inhabited α]{c:α->aq}{sz:Nat}{cf:α->α->Int}(hinj:∀x y,c x=c y->x=y){v:AV}{l:List α}(hl:l≠[])(hlen:l.length<4611686018427387904)(hS:SWO (λx y=>decide (cf x y<0))) (H:Hs dV aL σ (Sl (fl c) sz v l*R)):
  ∃σ',A.M9 sz c cf v σ=δ (.aM [],σ')/\Hs dV aL σ' (Sl (fl c) sz v (qx cf l)*R):=by
 rcases xZ H with⟨h,_,_⟩|⟨id,g,rfl,K⟩
 ·exact absurd h hl
 obtain⟨_,h2⟩:=jO K;have hp:0<l.length:=List.length_pos_iff.2 hl
 have hc:(g=g/\sz=sz/\sz=sz/\0+l.length<=(l.map c).length/\0<l.length/\l.length<4611686018427387904)/\∃l':List α,((l.map c).drop 0).take l.length=l'.map c:=
  ⟨⟨rfl,rfl,rfl,by simp,hp,hlen⟩,l,by rw[Zz,n9 (by simp)]⟩
 have hch:To hc.2=l:=by
  have h9:=Vm hc.2;have e9:((l.map c).drop 0).take l.length=l.map c:=by rw[Zz,n9 (by simp)]
  exact((List.map_inj_right hinj).1 (e9.symm.trans h9)).symm
 refine⟨σ.set id (.arr g sz ((qx cf l).map c)),?_,?_⟩
 ·unfold A.M9;simp only[h2];rw[dif_pos hc,hch,List.take_zero,V7,ZT (by simp),VT]
 ·have hle:(qx cf l).length=l.length:=(EJ hS l).1.length_eq;exact MT (AM (b':=.arr g sz ((qx cf l).map c)) K trivial) hle.symm
theorem apU(e:bB):(((ψ 5 (.agg (bJ e))).bind λiL=>(ir 0 iL [(ε 0),bE,(ε 0),(ε 0),(ε 0)]).bind λgj=>δ gj).bind λcs=>δ (Yh 5 (iP 5 1 cs)))=δ (.sl 5 [bJ e]):=rfl
theorem avT{B:aW->Prop}{v:AV}{l:List bB}(k:bB)(hl:l.length<1000000)(hB:∀g g' seg,(seg=[]\/B (.arr g 5 seg))->B (.arr g' 5 (seg++[bJ k])))(H:Hs B aL σ (Sl (fl bJ) 5 v l*R)):
  ∃v' σ',WK 5 (140737488355328 / 48) v (.sl 5 [bJ k]) σ=δ (v',σ')/\Hs B aL σ' (Sl (fl bJ) 5 v' (l++[k])*R):=
 J6 (ys:=[bJ k]) (xs:=[k]) (eS (show pr (bJ k=bJ k)*(Sl (fl bJ) 5 v l*R)=_ by
  rw[show els (fl bJ) [bJ k] [k]=pr (bJ k=bJ k)*emp from rfl,xY,CT];ac_rfl) (p9.2 ⟨rfl,H⟩)) (by simp;omega) hB
theorem arK{l:List bA}(hl:fZ zN l){n:Int}(hn:aY n)(σ:Heap):Qr [sl 11 bg l,.ah n] σ=δ (.aM [sl 5 bJ (AE l n).1,.ah (AE l n).2],σ):=by
 have run:Qu (sl 11 bg l) (.ah n) σ=δ (.aM [sl 5 bJ (AE l n).1,.ah (AE l n).2],σ):=by
  unfold Qu AE;rw[acm (agh l hl),aJ,Ym,aJ];by_cases hf:pL l=0
  case neg=>
   rw[cL hf,dL,aP hf,bD,cR];exact congrArg (λz=>δ (z,σ)) (RM rfl)
  have hg:=MC hf;have hlen:=hg.len;rw[cO (by simp [hf]),dD,aO (by simp [hf])];obtain⟨p,e1,e2,e3⟩:=atk hg hn σ;rw[e1,aJ,lV,aJ,ext1,aJ,show Wk (.bool (sE l n))=δ (.bool (!sE l n))from rfl,aJ];cases hh:sE l n
  ·rw[show(!ι)=θ from rfl,dL,aP rfl,bD,cR];exact congrArg (λz=>δ (z,σ)) (RM rfl)
  rw[show(!θ)=ι from rfl,dD,aO (by decide)];have e4:=e3 (.inr hh);subst e4;obtain⟨x,hx,hxn⟩:=afo hg hh;generalize mE l n=a at hx ⊢;have Ea:=(bG.1 hx).1;obtain⟨st,hst⟩:∃st,st=GP (l.take (a+1)):=⟨_,rfl⟩
  have hS:Dg st (pI (l.take (a+1))):=hst▸aow _;have hk:Fw st:=hst▸anV _
  have mV:st.length<=600000:=by
   have h1:=ap3 (l:=l.take (a+1)) (λc hc=>(hg.mv c (sA hc)).1);have h2:(l.take (a+1)).length<=300:=by simp;omega
   rw[hst];exact UT h1 (tM 2000 h2)
  have hcs:L4 [sl 11 bg (l.take (a+1))] σ=δ (fmS st,σ):=by rw[hst];exact amC (atB (by simp;unfold aZ;omega) (λc hc=>by have:=(hg.mv c (sA hc)).1;unfold aZ;omega))
  rw[Kc (by omega),aJ,show Wf 11 (sl 11 bg l) μ (δ (.ah ((a+1:Nat):Int))) σ=δ (sl 11 bg (l.take (a+1)))from Gj 11 bg l (by omega),aJ,hcs,aJ];rw[show A.zC (fmS st)=δ (st.map A0)from rfl,aJ];simp only;refine V9 (α:=aC×bB) (enc:=A0) (it:=σ.length) (es:=st) _ _ (λ_ _ _=>rfl) (λd lf w s=>∃h c,w=[h]/\(d=[]->h=.aA)/\Hs dV σ s (blk σ.length (.it c (lf.map A0))*(Sl (fl bJ) 5 h (d.map (·.2))*emp))) ?_ ?_ ?_ ?_
  ·rintro d lf w s ⟨h,c,rfl,_,K⟩;exact⟨c,(jO K).2⟩
  ·rintro d lf w s j p hp ⟨h,c,rfl,_,K⟩ hj;have K':=AM (b':=.it [A0 p] ((lf.eraseIdx j).map A0)) K trivial;obtain⟨_,hgt⟩:=jO K';generalize s.set σ.length (aW.it [A0 p] ((lf.eraseIdx j).map A0))=wZ at K' hgt ⊢;have pP:d.length<=st.length:=by have:=hp.length_eq;simp at this;omega
   obtain⟨h',s',g1,K2⟩:=avT p.2 (by simp;omega) (λ_ _ _ _=>trivial) (eS (show _=Sl (fl bJ) 5 h (d.map (·.2))*(blk σ.length (.it [A0 p] ((lf.eraseIdx j).map A0))*emp) by ac_rfl) K');have NL:A.zz (.op σ.length 0) wZ=δ (.aM [.agg (aS p.1),.agg (bJ p.2)]):=by simp only[A.zz,hgt];rfl
   refine⟨[h'],s',λk=>?_,h',_,rfl,λq=>by simp at q,eS (by rw[Z6];show Sl (fl bJ) 5 h' (d.map (·.2)++[p.2])*_=_;ac_rfl) K2⟩;rw[NL,aJ,ext1,aJ,show ψ 5 (.agg (bJ p.2))=δ (bJ p.2)from rfl,aJ,ap1 p.2 _ rfl,aJ,show VU 0 5 (bJ p.2)=δ (.agg (bJ p.2))from rfl,aJ,apU,aJ];simp only[cH];rw[g1,aJ]
  ·rintro d w s hp ⟨h,c,rfl,Km,K⟩;have K2:=yp K;simp only[aAn,cH]
   letI:Inhabited bB:=⟨⟨⟨0,⟨#[]⟩⟩,⟨0,0⟩,0⟩⟩
   have hsort:∃s',Lo [h,.fn 297 []] s=δ (.aM [],s')/\Hs dV σ s' (Sl (fl bJ) 5 h (pI (l.take (a+1)))*emp):=by
    have hres:=amk hS hk hp;by_cases hd:d=[]
    ·subst hd;rw[Km rfl]at K2 ⊢;refine⟨s,rfl,?_⟩;rw[Vl]at hres K2
     have:pI (l.take (a+1))=[]:=by rw[<-hres];exact xC (by rw[(EJ (AH λe:bB=>e.key) []).1.length_eq];rfl)
     rw[this];exact K2
    ·have pP:d.length<=st.length:=by have:=hp.length_eq;omega
     obtain⟨s',g1,K3⟩:=aru (cf:=λa b:bB=>nM a.key b.key) ab2 (by simpa using hd) (by simp;omega) (AH λe:bB=>e.key) K2;rw[hres]at K3;exact⟨s',g1,K3⟩
   obtain⟨s',g1,K3⟩:=hsort;rw[g1,aJ];obtain⟨v',j1,j2⟩:=aqL (e:=0) Ml K3;rw[j1,cR];exact congrArg (λz=>δ (z,σ)) (RM j2)
  ·have K2:=GJ (b:=aW.it [] (st.map A0)) (C7 (B:=dV) σ) trivial;refine⟨.aA,[],rfl,λ_=>rfl,?_⟩;rw[Vl];exact eS (show _=blk σ.length (aW.it [] (st.map A0))*(Sl (fl bJ) 5 .aA []*emp) by ac_rfl) (sV (v:=.aA) (E:=fl bJ) (sz:=5) K2 (.inl rfl))
 refine wrap_eq rfl ?_ (RM (v:=sl 5 bJ (AE l n).1) rfl);rw[show TQ [Sh.e 11 [.k,.k,.k,.k,.k,.k,.k,.s 2,.k,.k,.s 8]] [sl 11 bg l,.ah n]=[sl 11 bg l,.ah n]from afw l _];exact run
end
end
section
open Go.RowKit Go.Sort
def xO(a b:aC):Int:=if ¬(a.unit=b.unit)then a.unit-b.unit else Xt a.param.data.toList b.param.data.toList
theorem at0(a b:jt):xO a.1 b.1<0↔nM a.1 b.1<0:=by
 unfold xO nM;have:=a.2;have:=b.2;by_cases h:a.1.unit=b.1.unit
 ·simp [h]
 ·rw[aP h,aP h];split<;>omega
theorem ae8:(λx y:jt=>decide (xO x.1 y.1<0))=λx y:jt=>decide (nM x.1 y.1<0):=by funext x y;exact decide_eq_decide.2 (at0 x y)
theorem ahv:SWO (λx y:jt=>decide (xO x.1 y.1<0)):=by rw[ae8];exact AH λk:jt=>k.1
theorem alG(a b:jt)(W:World):Calls Tryz.prog 60 #[.agg (ym a.1).toArray,.agg (ym b.1).toArray] W λe w'=>e=.returned (.int ξ (xO a.1 b.1))/\∃q os',w'=grow (W.drewN q) os':=by
 obtain⟨⟨a,p⟩,ha⟩:=a;obtain⟨⟨b,q⟩,hb⟩:=b;have DG:=λ(x y:ByteArray)W'=>Tryz.strings_Compare x y W'
 unfold ym;simp only at ha hb ⊢
 go_enter Tryz.func60,Tryz.ntmps60
 go_wp2_with (go_at_call 61;refine(DG _ _ _).mono ?_;rintro e w' ⟨rfl,rfl⟩)
 ·go_ret
  have h1:a≠b:=by first|simpa using ‹(a !=b)=θ›|assumption
  exact⟨by rw[xO,aP h1];rfl,Ms⟩
 ·go_ret
  have h1:a=b:=by first|simpa using ‹(a !=b)=ι›|simpa using ‹¬(a !=b)=θ›|assumption|omega
  exact⟨by rw[xO,aO (by simpa using h1)];rfl,Ms⟩
theorem apL{l l':List jt}(h:l.Perm l')(hd:l.Nodup):qx (λa b:jt=>nM a.1 b.1) l=qx (λa b:jt=>nM a.1 b.1) l':=by
 have hn:∀(l:List jt),∀x∈l,∀y∈l,x.1=y.1->x=y:=λl x _ y _ e=>Subtype.ext e
 have p1:=(EJ (AH λk:jt=>k.1) l).1;have p2:=(EJ (AH λk:jt=>k.1) l').1;refine List.Perm.eq_of_pairwise (le:=λa b:jt=>gK a.1 b.1=θ) (λa b _ _ h1 h2=>?_) (WM (λk:jt=>k.1) (hn l) hd) (WM (λk:jt=>k.1) (hn l') (h.nodup_iff.1 hd)) ((p1.trans h).trans p2.symm);have:=Gn h1 h2;rw[CZ]at this;cases this
theorem abk{α β:Type}(f:α->β):∀(l:List α){L:List β},L.Perm (l.map f)->∃l':List α,l'.Perm l/\l'.map f=L
 |[],L,h=>⟨[],.refl _,by have:=List.Perm.eq_nil h;rw[this];rfl⟩
 |x::l,L,h=>by have hx:f x∈L:=h.mem_iff.2 (by simp);obtain⟨s,t,rfl⟩:=List.append_of_mem hx;have h2:(s++t).Perm (l.map f):=(List.perm_cons (f x)).1 (aC2.symm.trans h);obtain⟨l',k1,k2⟩:=abk f l h2;obtain⟨a,b,rfl,e1,e2⟩:=List.map_eq_append_iff.1 k2;exact⟨a++x::b,aC2.trans (k1.cons x),by simp [e1,e2]⟩
abbrev uD(x:jt):List Value:=ym x.1
theorem aqF:∀(l:List jt)(t:Nat),t<l.length*2->(l.flatMap uD)[t]? =δ ((uD l.toArray[t / 2]!)[t % 2]!):=by
 intro l;induction l with
 |nil=>intro t ht;simp at ht
 |cons x l ih=>
  intro t ht;rw[Xm];have hk:(uD x).length=2:=rfl;by_cases h:t<2
  ·rw[iS (by rw[hk];exact h),Nat.div_eq_of_lt h,Nat.mod_eq_of_lt h];simp [hk,h]
  ·rw[jq (by rw[hk];omega),hk,ih (t-2) (by simp [iG]at ht;omega)];have e1:t / 2=(t-2) / 2+1:=by omega
   have e2:t % 2=(t-2) % 2:=by omega
   rw[e1,e2];simp
theorem aqG(l:List jt):(l.flatMap uD).length=l.length*2:=by
 induction l with
 |nil=>rfl
 |cons x l ih=>rw[Xm,ZY,ih,YZ];show 2+_=_;omega
def atQ(l:List jt)(w:World)(e:Ending)(w':World):Prop:=∃v,e=.returned v/\Below w.heap.size w w'/\∃a cap,v=.slice a l.length cap/\l.length<=cap/\(l=[]\/∃g,a=δ ⟨g,0,μ⟩/\w.heap.size<=g/\g<w'.heap.size/\ ∀t x,((qx (λa b:jt=>nM a.1 b.1) l).flatMap uD)[t]? =δ x->w'.cell? ⟨g,t,μ⟩=δ x)
theorem ang(Bm off:Nat)(mb:Option Nat)(es:Array MapEntry)(l:List jt)(ks:List aC)(hks:xm es.toList ks)(hp:ks.Perm (l.map (·.1)))(hd:l.Nodup)(hl:l.length<=1000000)(w:World)(hm:w.cell? ⟨Bm,off,μ⟩=δ (.map mb))(azX:Bm<w.heap.size)(hs:Ci w mb es):
  Calls Tryz.prog 58 #[.func (.func 119) #[] #[.pointer (δ ⟨Bm,off,μ⟩)],.func (.func 60) #[] #[]] w (atQ l w):=by
 have axe:=alU Bm off mb es ks hks (by rw[hp.length_eq,X1];exact hl) w hm azX hs;have eg:∀args w,(callFunc 60 args).run Tryz.prog w=.ok (.enter 60 args) w:=Tryz.call60;have hnone:=λ(w:World)=>(AnyF.slices_SortFunc_none (P:=Tryz.prog) {Tryz.sort118 with} μ 0 (.func (.func 60) #[] #[]) w)
 have hsort:=λ(g cap:Nat)(d:Array jt)(w:World)hH hb hd=>AnyQ.slices_SortFunc_eq Tryz.sort118 2 Tryz.isAgg45 Tryz.sizeOf45 uD (λ_=>rfl) (λx v hv=>by
  simp [uD,ym]at hv
  rcases hv with rfl|rfl<;>rfl) (λa b:jt=>xO a.1 b.1) ahv 60 #[] g 0 cap d w eg (λ_ _ _ _ x y=>alG x y _) hH hb hd
 go_enter Tryz.func58,Tryz.ntmps58
 go_wp2_with (go_at_call 117;refine axe.mono ?_;rintro e w1 ⟨v,ss,rfl,hS,hrow,Km,hb⟩)
 obtain⟨l',hl',rS⟩:=abk (λk:jt=>k.1) l (hS.trans hp);have hlen:ss.length=l.length:=by rw[<-rS,X1];exact hl'.length_eq
 have hfl:ss.flatMap ym=l'.flatMap uD:=by rw[<-rS,List.flatMap_map]
 rcases hrow.2 with⟨rfl,hz⟩|⟨gb,cap,cur,rfl,hbase,Cy,r1,r2,r3,r4⟩
 ·have hl0:l=[]:=xC (by omega);subst hl0
  go_wp2_with (go_at_call 118;refine(hnone w1).mono ?_;rintro e w2 ⟨rfl,rfl⟩)
  go_ret
  exact⟨_,rfl,hb,μ,0,rfl,bN _,.inl rfl⟩
 ·rw[hlen]at r1 r4;rw[hfl]at r4;have vT:l'.length=l.length:=hl'.length_eq;have hgl:gb<w1.heap.size:=(mP.1 Cy).1
  have axf:∀t,t<l'.length*2->cur[t]? =(l'.flatMap uD)[t]? :=λt ht=>by rw[<-r4,WG (by omega),UE]
  have hH:HoldsK uD 2 w1 gb 0 l'.toArray:=by intro t ht;simp only[size_flatK,Zs]at ht;rw[get_flatK _ _ _ _ (by simpa using ht)];refine⟨?_,by simp [World.frozen?,Cy]⟩;have h1:=axf t ht;rw[aqF l' t ht]at h1;have hsz:=(mP.1 h1).1;simp only[Xd,Cy,YW,h1];simp
  have ahV:=hsort gb cap l'.toArray w1 hH hgl (by simp;omega);simp only[Zs,vT]at ahV;rw[hlen]
  go_wp2_with (go_at_call 118;refine ahV.mono ?_;rintro e w2 ⟨rfl,nn,os,rfl⟩)
  go_ret
  have hd':(pdq (λx y:jt=>decide (xO x.1 y.1<0)) l'.toArray 0 l.length (Xf l.length) θ θ).size=l.length:=by have:=aeJ (cf:=λa b:jt=>xO a.1 b.1) ahv l'.toArray;simp only[Zs,vT]at this;exact this
  have SY:(pdq (λx y:jt=>decide (xO x.1 y.1<0)) l'.toArray 0 l.length (Xf l.length) θ θ).toList=qx (λa b:jt=>nM a.1 b.1) l:=by rw[<-apL hl' (hl'.nodup_iff.2 hd)];unfold qx;rw[vT,ae8]
  have avt:(ltOf λa b:jt=>xO a.1 b.1)=λx y:jt=>decide (xO x.1 y.1<0):=rfl
  rw[avt];generalize pdq (λx y:jt=>decide (xO x.1 y.1<0)) l'.toArray 0 l.length (Xf l.length) θ θ=d' at hd' SY ⊢;have hsw:=abq (enc:=uD) (k:=2) (λ_=>rfl) (w:=w1) (b:=gb) (off:=0) (n:=nn) (d:=l'.toArray) (d':=d') (os:=os) (by rw[hd'];simp [vT]) Cy (by simp [vT];omega);have sG:Below w.heap.size w1 (w1.fO gb (.cells (iY cur 0 (d'.toList.flatMap uD)) 45 (0,0))):=⟨rfl,rfl,rfl,by rw[zk];exact bN _,λk hk=>xX _ (by omega)⟩
  have axG:=hsw.mono (B':=w.heap.size) hb.size;have azL:(d'.toList.flatMap uD).length=l.length*2:=by rw[aqG,Y8,hd']
  refine⟨_,rfl,(hb.trans sG).trans axG,δ ⟨gb,0,μ⟩,cap,rfl,r1,.inr ⟨gb,rfl,hbase,?_,λt x hx=>?_⟩⟩
  ·have:=hsw.size;rw[zk]at this;omega
  ·rw[<-SY]at hx;have ht:=(bG.1 hx).1;have hg2:(sortWorldK uD 2 w1 gb 0 nn d' os).heap[gb]? =δ (.cells (iY cur 0 (d'.toList.flatMap uD)) 45 (0,0)):=(hsw.block gb hgl).trans (xh _ hgl)
   have:(iY cur 0 (d'.toList.flatMap uD))[t]? =δ x:=by rw[ES _ _ _ (by omega),aP (by omega)];simpa using hx
   simp only[Xd,hg2,this];simp
theorem aqE{cc:RC}{k:aC}{v:Value}(h:ay cc (.agg (aS k)) v):v=uC k:=by simp only[ay,aS,aX]at h;obtain⟨vs,rfl,⟨x,_,e1,rfl,y,_,e2,rfl,e3⟩,_⟩:=h;subst e3;subst e2;unfold uC;congr 1;exact oI.1 e1
theorem aew{cc:RC}:∀{es:List (AV×AV)}{L:List MapEntry}{l:List jt},eB cc es L->es.map (·.1)=l.map (λk=>Φ (aS k.1))->xm L (l.map (·.1))
 |[],L,l,h,e=>by
  simp only[eB]at h;subst h;cases l with
  |nil=>rfl
  |cons _ _=>simp at e
 |(k,v)::es,L,l,h,e=>by
  simp only[eB]at h;obtain⟨e0,es',rfl,h1,h2,h3⟩:=h;cases l with
  |nil=>simp at e
  |cons x l=>simp only[eP,aCW]at e;have ih:=aew h3 e.2;unfold xm at ih ⊢;rw[eP,eP,eP,ih];rw[e.1]at h1;rw[aqE h1]
theorem keys_perm{L L':List MapEntry}{ks:List aC}(h:xm L ks)(hp:L.Perm L'):∃ks',xm L' ks'/\ks'.Perm ks:=by
 refine⟨(L'.map (·.key)).map NG,?_,?_⟩
 ·have hm:=hp.map (·.key);rw[h]at hm
  have:∀v∈L'.map (·.key),uC (NG v)=v:=λv hv=>by obtain⟨k,_,rfl⟩:=gh.1 (hm.mem_iff.2 hv);rfl
  unfold xm;rw[YG];conv=>lhs;rw[<-List.map_id (L'.map (·.key))]
  exact Yq λv hv=>(this v hv).symm
 ·have hm:=(hp.map (·.key)).map NG;rw[h,Xe]at hm;exact hm.symm
theorem afP{c:RC}{b:Nat}:∀(l:List jt)(off:Nat),(∀t v,(l.flatMap uD)[t]? =δ v->c.w.cell? ⟨b,off+t,μ⟩=δ v)->cA c 2 b off (l.map λk=>aS k.1)
 |[],off,h=>by simp [cA]
 |x::l,off,h=>by
  simp only[eP,cA];refine⟨rfl,?_,afP l (off+2) λt v hv=>?_⟩
  ·unfold aS;simp only[bY];exact⟨⟨_,h 0 _ rfl,rfl,by simp [ay]⟩,⟨_,h 1 _ rfl,rfl,by simp [ay]⟩,trivial⟩
  ·have:=h (t+2) v (by rw[Xm,jq (by show 2<=_;omega)];exact hv);rwa[show off+(t+2)=off+2+t by omega]at this
theorem ajq:Sound Tryz.prog aN 58 Lp:=by
 intro args σ r σ' h;unfold Lp Xw at h;split at h
 ·simp only at h;split at h
  ·obtain⟨es,he,h⟩:=ct.1 h;split at h
   ·rename_i hex;simp only[Θ,T4]at h;obtain⟨rfl,rfl⟩:=h;obtain⟨l,hl⟩:∃l,l=To hex:=⟨_,rfl⟩
    have hK:=Vm hex;rw[<-hl]at hK ⊢;obtain⟨hk1,hk2,hk3⟩:=hK;refine .inl ⟨58,Tryz.call58,λz vs e1 e2 hh ha=>?_⟩;obtain⟨v,u,rfl,r1,r2⟩:=M6 ha;simp only[ay]at r1 r2;obtain⟨f1,us1,rfl,k1,k2⟩:=r1;obtain⟨f2,us2,rfl,k3,k4⟩:=r2;have KQ:f1=119:=R6 (nm:=aN) (k:=359) (by kernel_rfl) rfl (by rw[<-e1];exact k1);have yU:f2=60:=R6 (nm:=aN) (k:=372) (by kernel_rfl) rfl (by rw[<-e1];exact k3);subst KQ yU;have hu2:us2=#[]:=by simp only[aX]at k4;exact oI.1 k4
    subst hu2;simp only[aX,ay]at k2;obtain⟨p,_,q1,⟨b,off,rfl,q2,q3,q4⟩,rfl⟩:=k2;have H9:us1=#[.pointer (δ ⟨b,off,μ⟩)]:=oI.1 q1;subst H9;simp only[bY]at q4;obtain⟨⟨mv,c1,c2,c3⟩,_⟩:=q4
    obtain⟨mb,bP,ks,m1,m2,m3,m4⟩:∃(mb:Option Nat)(bP:Array MapEntry)(ks:List aC),mv=.map mb/\Ci z.w mb bP/\xm bP.toList ks/\ks.Perm (l.map (·.1)):=by
     unfold A.zC at he;split at he
     ·injection he with he
      subst he;simp only[ay]at c3;have hl0:l=[]:=by cases l with|nil=>rfl|cons _ _=>simp at hk1
      subst hl0;exact⟨μ,#[],[],c3,rfl,rfl,List.Perm.refl _⟩
     ·injection he with he
      subst he;simp only[ay]at c3;obtain⟨bm,rfl,_,_,bP,aK,g1,gw,L,g2,g3⟩:=c3;have hKL:=aew g2 hk1
      have hp:L.Perm bP.toList:=by
       rcases g3 with rfl|⟨g3,_⟩
       ·exact List.Perm.refl _
       ·exact g3
      obtain⟨ks,w1,w2⟩:=keys_perm hKL hp;exact⟨δ bm,bP,ks,rfl,⟨aK,gw,g1⟩,w1,w2⟩
     ·cases he
    subst m1;refine(ang b off mb bP l ks m3 m4 hk2 hk3 z.w c1 q2 m2).mono ?_;rintro e w' ⟨v,rfl,hb,a,cap,rfl,hc,hor⟩;have hout:Out z z.w z.E:=⟨rfl,rfl,rfl,bN _,λ_ _ _=>rfl,λi p hp=>.inr ⟨p,hp,rfl⟩,λi p hp=>⟨p,hp,.inl rfl⟩,e2,λp hp=>hh.lt hp⟩
    refine⟨_,z.E,rfl,hout.grow hb,hh.mono (zm hb) rfl (λp hp=>hb.block _ (hh.lt hp)),?_⟩;simp only[ay]
    have hlen:((qx (λa b:jt=>nM a.1 b.1) l).map λk=>aS k.1).length=l.length:=by rw[X1];exact(EJ (AH λk:jt=>k.1) l).1.length_eq
    rw[hlen];refine⟨a,cap,rfl,hc,by decide,?_⟩;rcases hor with rfl|⟨g,rfl,g1,g2,g3⟩
    ·left;exact xC hlen
    ·right;refine⟨g,0,rfl,g2,?_,afP _ 0 λt v hv=>by rw[YW];exact g3 t v hv⟩;rintro(q|⟨p,hp,q⟩|⟨i,q⟩)
     ·have:=e2 _ q;omega
     ·have:=hh.lt (p:=p) hp;simp only[ctx]at this;omega
     ·cases q
   ·cases h
  ·cases h
 ·cases h
end
section
open Go.RowKit
theorem avI{c:RC}{a b d:AV}{vs:Array Value}(h:aX c [a,b,d] vs.toList):∃v u t,vs=#[v,u,t]/\ay c a v/\ay c b u/\ay c d t:=by simp only[aX]at h;obtain⟨v,vs',e,h1,u,vs2,e2,h2,t,vs3,e3,h3,e4⟩:=h;refine⟨v,u,t,?_,h1,h2,h3⟩;subst e4;subst e3;subst e2;cases vs;simp at e;simp [e]
theorem ame:Sound Tryz.prog aN 282 LW:=by
 intro args σ r σ' h;unfold LW Xw at h;split at h
 ·simp only at h;split at h
  ·rename_i x y;split at h
   ·rename_i hb;simp only[Θ,T4]at h;obtain⟨rfl,rfl⟩:=h;refine rE.same Tryz.call282 λc vs w hr=>?_
    obtain⟨v,u,rfl,h1,h2⟩:=M6 hr;simp only[ay]at h1 h2;subst h1 h2;have hx:((x.toNat:Nat):Int)=x:=Wj hb.1;have hy:((y.toNat:Nat):Int)=y:=Wj hb.2.2.1;have:=Tryz.bits_Mul64 x.toNat y.toNat (by omega) (by omega) w;rw[hx,hy]at this;refine this.mono ?_;rintro e w' ⟨rfl,rfl⟩;exact⟨_,rfl,Below.refl _ _,λc'=>by simp [ay,aX]⟩
   ·cases h
  ·cases h
 ·cases h
theorem aoV(x y c:Nat)(hc:c<=1)(w:World):(callFunc 283 #[.int .u64 x,.int .u64 y,.int .u64 c]).run Tryz.prog w=
  .ok (.value (.tuple #[.int .u64 (((x+y+c) % 18446744073709551616:Nat):Int),.int .u64 (((x+y+c) / 18446744073709551616:Nat):Int)])) w:=by
 rw[run_callFunc_extern Tryz.func283 (by kernel_rfl) (by kernel_rfl) (by kernel_rfl) (e:=add64Entry) (by kernel_rfl),run_add64 x y c (by omega) (by omega) (by omega) (by omega)];simp only[Result.andThen];congr 5<;>omega
theorem amd:Sound Tryz.prog aN 283 I7:=by
 intro args σ r σ' h;unfold I7 X5 at h;split at h
 ·simp only at h;split at h
  ·rename_i x y d;split at h
   ·rename_i hb;simp only[Θ,T4]at h;obtain⟨rfl,rfl⟩:=h;refine .inr λz vs e1 e2 hh ha=>?_
    obtain⟨v,u,t,rfl,h1,h2,h3⟩:=avI ha;simp only[ay]at h1 h2 h3;subst h1 h2 h3;have hx:((x.toNat:Nat):Int)=x:=Wj hb.1;have hy:((y.toNat:Nat):Int)=y:=Wj hb.2.2.1;have hd:((d.toNat:Nat):Int)=d:=Wj hb.2.2.2.2.1;have:=aoV x.toNat y.toNat d.toNat (by omega) z.w;rw[hx,hy,hd]at this;exact⟨_,z.w,z.E,this,⟨rfl,rfl,rfl,bN _,λ_ _ _=>rfl,λi p hp=>.inr ⟨p,hp,rfl⟩,λi p hp=>⟨p,hp,.inl rfl⟩,e2,λp hp=>hh.lt hp⟩,hh,by simp [ay,aX]⟩
   ·cases h
  ·cases h
 ·cases h
end
section
theorem aov:Sound Tryz.prog aN 260 VX:=q1 [] 35 (.s .n (.s (.s .n (.b (.l [2,7] [.exit 0,.ret] (.s .n (.s cW (.s (.b (.s .n (.s .n bh))) .n)))))) aV)) WJ Tryz.func260 Tryz.call260 (λa0 σ=>by kernel_rfl) rfl rfl
theorem aAv:Sound Tryz.prog aN 240 Jf:=q1 [] 20 (.s .n aV) (Δ aov WJ) Tryz.func240 Tryz.call240 (λa0 σ=>by kernel_rfl) rfl rfl
theorem wk:Sound Tryz.prog aN 89 l5:=q3 [] 15 (.s .n aV) WJ Tryz.func89 Tryz.call89 (λa0 a1 a2 σ=>by kernel_rfl) rfl rfl
theorem aaE:Sound Tryz.prog aN 241 LB:=q1 [] 5 (.s .n aV) (Δ wk WJ) Tryz.func241 Tryz.call241 (λa0 σ=>by kernel_rfl) rfl rfl
theorem ajF:Sound Tryz.prog aN 242 aBf:=q1 [5] 63 (.s .n (.s bh (.s .n (.s (.s .n (.b (.l [2,12] [.exit 0,.ret] (.s .n (.s cW (.s (.b (.s .n (.s (.b (.s .n (.j aV (.s .n (.j aV (.s .n (.j aV bh))))))) .n))) .n)))))) aV)))) (Δ aaE (Δ aAv WJ)) Tryz.func242 Tryz.call242 (λa0 σ=>by kernel_rfl) rfl rfl
theorem ajx:Sound Tryz.prog aN 198 TA:=q1 [1,6] 115 (.s .n (.s (.b (.s .n (.j aV (.s .n (.j aV (.s .n (.j aV bh))))))) (.s .n (.s (.s .n (.b (.l [1,2,33] [.exit 1,.ret] (.s .n (.s cW (.s (.b (.s .n (.s (.b (.s .n (.j aV (.s .n (.j aV (.s .n (.j aV (.s .n (.j aV bh))))))))) (.s (.s .n bh) (.s .n (.s .n (.c [1] .n .n))))))) .n)))))) aV)))) (Δ aAv (Δ wk (Δ aaE (Δ ajF WJ)))) Tryz.func198 Tryz.call198 (λa0 σ=>by kernel_rfl) rfl rfl
theorem ajw:Sound Tryz.prog aN 153 Tz:=q1 [5] 30 (.s .n (.s bh (.s .n (.s (.s .n (.b (.l [2,13] [.exit 0,.ret] (.s .n (.s cW (.s (.b (.s .n (.s (.s .n bh) (.s bh .n)))) .n)))))) aV)))) (Δ ajx WJ) Tryz.func153 Tryz.call153 (λa0 σ=>by kernel_rfl) rfl rfl
def aiA (dyn:Nat->aq->Heap->aF):Fx:=⟨Tryz.prog,aN,Zw (λ_ _=>μ) [],dyn,[],[],19,[]⟩
theorem aiy(dyn:Nat->aq->Heap->aF)(hd:∀f,Sound Tryz.prog aN f (dyn (aN.getD f 0))):Sound Tryz.prog aN 156 (Ω θ [(.s 3)] .k (Xw (Pu dyn))):=
 Zr (Zb (X:=aiA dyn) (fn:=Tryz.f156) (dg:=(.s .n (.s (.s .n (.b (.l [4,8] [.exit 0,.ret] (.s .n (.s cW (.s (.b (.s .n bh)) .n)))))) aV))) .F trivial (WH rfl WJ (hd)) Tryz.func156 Tryz.call156 (λa0 a1 σ=>by kernel_rfl)) _ _ _ rfl rfl
theorem aiw(dyn:Nat->aq->Heap->aF)(hd:∀f,Sound Tryz.prog aN f (dyn (aN.getD f 0))):Sound Tryz.prog aN 156 (Pt dyn):=aiy dyn hd
theorem aan:Sound Tryz.prog aN 157 Lv:=q2 [2] 8 (.s .n aV) WJ Tryz.func157 Tryz.call157 (λa0 a1 σ=>by kernel_rfl) rfl rfl
def akh:Fx:=⟨Tryz.prog,aN,Zw (λ_ _=>μ) [(156,Pt (Zw (λ_ _=>μ) [(64,Lv)]))],(Zw (λ_ _=>μ) [(64,Lv)]),[4],[],17,[]⟩
theorem ake:Sound Tryz.prog aN 99 (Ω θ [(.s 3)] (.t [(.a [.k,.k,(.e 7 qz)]),.k]) (Xw (PY))):=
 Zr (Zb (X:=akh) (fn:=Tryz.f99) (dg:=(.s .n (.s .n (.s bh aV)))) .F trivial (WH rfl (Δ (aiw _ (uk (Zp (rq aan (by kernel_rfl) rfl) YX))) WJ) (uk (Zp (rq aan (by kernel_rfl) rfl) YX))) Tryz.func99 Tryz.call99 (λa0 a1 σ=>by kernel_rfl)) _ _ _ rfl rfl
theorem aaF:Sound Tryz.prog aN 99 PU:=ake
theorem ajH:Sound Tryz.prog aN 154 ID:=q3 [] 32 (.s .n (.s bh (.s (.s .n (.b (.l [6,7] [.exit 0,.ret] (.s (.s .n cW) (.s (.b bh) .n))))) aV))) WJ Tryz.func154 Tryz.call154 (λa0 a1 a2 σ=>by kernel_rfl) rfl rfl
def alj:Fx:=⟨Tryz.prog,aN,Zw (λ_ _=>μ) [],(λ_ _ _=>μ),[4],[15],33,[]⟩
theorem alh:Sound Tryz.prog aN 155 (Ω ι [] .k (X5 (LN))):=
 Zr (aDG (X:=alj) (fn:=Tryz.f155) (dg:=(.s .n (.s (.s .n (.c [4] .n .n)) (.s .n (.b (.l [4,6] [.exit 0] (.s (.s .n cW) (.s (.b .n) .n)))))))) .K trivial (WH rfl WJ (λ_=>TI)) Tryz.func155 Tryz.call155 (λa0 a1 a2 σ=>by kernel_rfl)) _ _ _ rfl rfl
theorem ald:Sound Tryz.prog aN 155 P5:=alh
theorem aay:Sound Tryz.prog aN 98 PM:=q1 [1,6,7] 91 (.s .n (.s (.s .n bh) (.s bh (.s .n (.s (.s .n (.b (.l [1,2,23] [.exit 0,.ret] (.s .n (.s cW (.s (.b (.s .n (.s bh (.s bh (.s .n (.s bh (.s bh (.s bh .n)))))))) .n)))))) aV))))) (Δ ajw (Δ wk (Δ aaF (Δ ajH (Δ ald WJ))))) Tryz.func98 Tryz.call98 (λa0 σ=>by kernel_rfl) rfl rfl
theorem CO:Sound Tryz.prog aN 41 ug:=q2 [] 7 (.s .n (.s bh aV)) WJ Tryz.func41 Tryz.call41 (λa0 a1 σ=>by kernel_rfl) rfl rfl
theorem Gh:Sound Tryz.prog aN 40 ze:=q1 [] 15 (.s .n (.s (.s .n (.b (.l [2,7] [.exit 0,.ret] (.s .n (.s cW (.s (.b (.s .n bh)) .n)))))) aV)) WJ Tryz.func40 Tryz.call40 (λa0 σ=>by kernel_rfl) rfl rfl
theorem UL:Sound Tryz.prog aN 38 IV:=q1 [1,7,8,11] 50 (.s .n (.s (.s .n bh) (.s .n (.s (.s .n (.b (.l [1,5,20] [.exit 0] (.s .n (.s cW (.s (.b (.s .n (.s .n (.s .n (.b (.l [1,5,7,35] [.exit 2] (.s .n (.s cW (.s (.b aV) .n))))))))) .n)))))) aV)))) (Δ aay (Δ aaF WJ)) Tryz.func38 Tryz.call38 (λa0 σ=>by kernel_rfl) rfl rfl
theorem ane:Sound Tryz.prog aN 147 Vr:=q1 [1,7] 24 (.s .n (.s .n (.s .n (.s (.s .n (.b (.l [16] [.exit 0] (.s .n (.s cW (.s (.b aV) .n)))))) aV)))) (Δ UL WJ) Tryz.func147 Tryz.call147 (λa0 σ=>by kernel_rfl) rfl rfl
theorem abo:Sound Tryz.prog aN 194 Qh:=q1 [] 40 (.s .n (.s (.s .n (.b (.l [2,6] [.exit 0,.ret] (.s .n (.s cW (.s (.b (.s .n bh)) .n)))))) aV)) WJ Tryz.func194 Tryz.call194 (λa0 σ=>by kernel_rfl) rfl rfl
theorem amf:Sound Tryz.prog aN 148 U0:=q1 [] 9 (.s .n aV) (Δ abo WJ) Tryz.func148 Tryz.call148 (λa0 σ=>by kernel_rfl) rfl rfl
theorem aaZ:Sound Tryz.prog aN 149 P7:=q1 [] 5 (.s .n aV) (Δ wk WJ) Tryz.func149 Tryz.call149 (λa0 σ=>by kernel_rfl) rfl rfl
theorem alE:Sound Tryz.prog aN 150 az8:=q2 [2,3] 21 (.s .n (.s bh aV)) (Δ aCw WJ) Tryz.func150 Tryz.call150 (λa0 a1 σ=>by kernel_rfl) rfl rfl
theorem aaw:Sound Tryz.prog aN 88 PK:=q2 [2,8,10] 97 (.s .n (.s (.s .n bh) (.s .n (.s (.s .n (.b (.l [4,26] [.exit 0,.ret] (.s .n (.s cW (.s (.b (.s .n (.s (.b (.s .n (.j aV (.s .n (.j aV (.s .n (.j aV bh))))))) (.s .n (.b (.l [4,8,63] [.exit 3,.ret] (.s .n (.s cW (.s (.b (.s .n (.b (.s .n (.j aV (.s .n (.j aV bh))))))) .n))))))))) .n)))))) aV)))) (Δ aay (Δ CO (Δ Gh (Δ ane (Δ wk (Δ amf (Δ aaZ (Δ alE WJ)))))))) Tryz.func88 Tryz.call88 (λa0 a1 σ=>by kernel_rfl) rfl rfl
theorem abm:Sound Tryz.prog aN 195 EC:=q1 [] 5 (.s .n aV) (Δ wk WJ) Tryz.func195 Tryz.call195 (λa0 σ=>by kernel_rfl) rfl rfl
theorem aaz:Sound Tryz.prog aN 196 PN:=q1 [1,5] 90 (.s .n (.s bh (.s .n (.s bh (.s bh (.s bh (.s (.s .n (.b (.l [2,28] [.exit 0,.ret] (.s .n (.s cW (.s (.b (.s .n bh)) .n)))))) (.s bh (.s (.s .n (.b (.l [2,6] [.exit 2,.ret] (.s (.s .n cW) (.s (.b bh) .n))))) aV))))))))) (Δ wk (Δ CO WJ)) Tryz.func196 Tryz.call196 (λa0 σ=>by kernel_rfl) rfl rfl
theorem aa7:Sound Tryz.prog aN 203 Qb:=q2 [2,3] 20 (.s .n (.s (.s .n (.j (.s bh aV) .n)) aV)) (Δ aCw WJ) Tryz.func203 Tryz.call203 (λa0 a1 σ=>by kernel_rfl) rfl rfl
theorem ako:Sound Tryz.prog aN 197 Ub:=q1 [4] 99 (.s .n (.s (.s .n (.b (.l [2,7] [.exit 0,.ret] (.s .n (.s cW (.s (.b (.s .n (.b (.s .n (.j aV (.s .n (.j aV (.s .n (.j aV (.s .n (.j aV (.s .n (.j aV (.s .n (.j aV bh))))))))))))))) .n)))))) aV)) (Δ wk (Δ aAv (Δ abm (Δ aa7 WJ)))) Tryz.func197 Tryz.call197 (λa0 σ=>by kernel_rfl) rfl rfl
theorem acK:Sound Tryz.prog aN 151 Me:=q1 [5] 101 (.s .n (.s bh (.s .n (.s (.s .n (.b (.l [2,3,13] [.exit 0,.ret] (.s .n (.s cW (.s (.b (.s .n (.s (.b (.s .n (.j aV (.s .n (.j aV (.s .n (.j aV bh))))))) (.s (.s .n bh) (.s bh (.s (.s .n bh) .n)))))) .n)))))) aV)))) (Δ wk (Δ abo (Δ abm (Δ aaz (Δ ako (Δ CO WJ)))))) Tryz.func151 Tryz.call151 (λa0 σ=>by kernel_rfl) rfl rfl
theorem abn:Sound Tryz.prog aN 152 LX:=q3 [4,5,9,11] 55 (.s .n (.s bh (.s bh (.s bh (.s (.s .n (.b (.l [4,5,6,7,31] [.exit 0,.ret] (.s .n (.s cW (.s (.b (.s .n (.s (.s .n cW) (.s (.s .n (.b (.l [4,6,7,43] [.exit 2,.ret] (.s .n (.s cW (.s (.b (.s .n bh)) .n)))))) .n)))) .n)))))) aV))))) (Δ aaZ WJ) Tryz.func152 Tryz.call152 (λa0 a1 a2 σ=>by kernel_rfl) rfl rfl
theorem akH:Sound Tryz.prog aN 90 aBI:=q3 [3,12,14,16] 76 (.s .n (.s (.s .n bh) (.s .n (.s .n (.s (.s .n (.b (.l [37] [.exit 0] (.s .n (.s cW (.s (.b aV) .n)))))) (.s (.s .n (.b (.l [6,46] [.exit 2,.ret] (.s .n (.s cW (.s (.b (.s .n (.s .n (.b (.l [6,53] [.exit 4,.ret] (.s .n (.s cW (.s (.b (.s .n (.s bh (.s .n bh)))) .n)))))))) .n)))))) aV)))))) (Δ aaw (Δ acK (Δ Gh (Δ UL (Δ abn WJ))))) Tryz.func90 Tryz.call90 (λa0 a1 a2 σ=>by kernel_rfl) rfl rfl
def aiQ (dyn:Nat->aq->Heap->aF):Fx:=⟨Tryz.prog,aN,Zw (λ_ _=>μ) [],dyn,[],[],19,[]⟩
theorem aiN(dyn:Nat->aq->Heap->aF)(hd:∀f,Sound Tryz.prog aN f (dyn (aN.getD f 0))):Sound Tryz.prog aN 100 (Ω θ [(.s 2)] .k (Xw (Px dyn))):=
 Zr (Zb (X:=aiQ dyn) (fn:=Tryz.f100) (dg:=(.s .n (.s (.s .n (.b (.l [4,8] [.exit 0,.ret] (.s .n (.s cW (.s (.b (.s .n bh)) .n)))))) aV))) .F trivial (WH rfl WJ (hd)) Tryz.func100 Tryz.call100 (λa0 a1 σ=>by kernel_rfl)) _ _ _ rfl rfl
theorem aiK(dyn:Nat->aq->Heap->aF)(hd:∀f,Sound Tryz.prog aN f (dyn (aN.getD f 0))):Sound Tryz.prog aN 100 (Pw dyn):=aiN dyn hd
theorem aaT:Sound Tryz.prog aN 101 LI:=q2 [2] 8 (.s .n aV) WJ Tryz.func101 Tryz.call101 (λa0 a1 σ=>by kernel_rfl) rfl rfl
def anr:Fx:=⟨Tryz.prog,aN,Zw (λ_ _=>μ) [(100,Pw (Zw (λ_ _=>μ) [(127,LI)]))],(Zw (λ_ _=>μ) [(127,LI)]),[2,4],[],19,[]⟩
theorem anm:Sound Tryz.prog aN 39 (Ω θ Ds (.t [(.a [.k,(.e 11 nC)]),.k]) (Xw (Qx))):=
 Zr (Zb (X:=anr) (fn:=Tryz.f39) (dg:=(.s .n (.s .n (.s bh aV)))) .F trivial (WH rfl (Δ (aiK _ (uk (Zp (rq aaT (by kernel_rfl) rfl) YX))) WJ) (uk (Zp (rq aaT (by kernel_rfl) rfl) YX))) Tryz.func39 Tryz.call39 (λa0 a1 σ=>by kernel_rfl)) _ _ _ rfl rfl
theorem abU:Sound Tryz.prog aN 39 L5:=anm
theorem akb:Sound Tryz.prog aN 36 PW:=q1 [1,5,8,9] 107 (.s .n (.s (.s .n bh) (.s (.s .n (.b (.l [1,2,29] [.exit 0,.ret] (.s .n (.s cW (.s (.b (.s .n (.s bh (.s bh (.s .n bh))))) .n)))))) (.s bh (.s (.s .n (.b (.l [1,2,70] [.exit 2,.ret] (.s .n (.s cW (.s (.b (.s .n (.s bh (.s bh (.s (.s .n bh) bh))))) .n)))))) aV))))) (Δ aaw (Δ CO (Δ Gh (Δ wk (Δ akH (Δ abU WJ)))))) Tryz.func36 Tryz.call36 (λa0 σ=>by kernel_rfl) rfl rfl
def aiP:Fx:=⟨Tryz.prog,aN,Zw (λ_ _=>μ) [],(λ_ _ _=>μ),[],[],8,[]⟩
theorem aiM:Sound Tryz.prog aN 91 (Ω θ [(.s 3)] .k (YR (aCL))):=
 Zr (Vt (X:=aiP) (fn:=Tryz.f91) (dg:=(.s .n (.s bh aV))) .K trivial (WH rfl WJ (λ_=>TI)) Tryz.func91 Tryz.call91 (λa0 σ=>by kernel_rfl)) _ _ _ rfl rfl
theorem aiJ:Sound Tryz.prog aN 91 Tn:=BH aiM Tryz.call91 amq
def aju:Fx:=⟨Tryz.prog,aN,Zw (λ_ _=>μ) [],(λ_ _ _=>μ),[],[],8,[]⟩
theorem ajs:Sound Tryz.prog aN 92 (Ω θ [(.s 4)] .k (YR (aAm))):=
 Zr (Vt (X:=aju) (fn:=Tryz.f92) (dg:=(.s .n (.s bh aV))) .K trivial (WH rfl WJ (λ_=>TI)) Tryz.func92 Tryz.call92 (λa0 σ=>by kernel_rfl)) _ _ _ rfl rfl
theorem ajp:Sound Tryz.prog aN 92 aAD:=BH ajs Tryz.call92 ase
def ajl:Fx:=⟨Tryz.prog,aN,Zw (λ_ _=>μ) [],(λ_ _ _=>μ),[],[],8,[]⟩
theorem ajh:Sound Tryz.prog aN 93 (Ω θ [(.s 7)] .k (YR (aag))):=
 Zr (Vt (X:=ajl) (fn:=Tryz.f93) (dg:=(.s .n (.s bh aV))) .K trivial (WH rfl WJ (λ_=>TI)) Tryz.func93 Tryz.call93 (λa0 σ=>by kernel_rfl)) _ _ _ rfl rfl
theorem aje:Sound Tryz.prog aN 93 Tr:=BH ajh Tryz.call93 aqu
def ajn:Fx:=⟨Tryz.prog,aN,Zw (λ_ _=>μ) [],(λ_ _ _=>μ),[],[],8,[]⟩
theorem ajj:Sound Tryz.prog aN 94 (Ω θ [(.s 3)] .k (YR (aB0))):=
 Zr (Vt (X:=ajn) (fn:=Tryz.f94) (dg:=(.s .n (.s bh aV))) .K trivial (WH rfl WJ (λ_=>TI)) Tryz.func94 Tryz.call94 (λa0 σ=>by kernel_rfl)) _ _ _ rfl rfl
theorem ajf:Sound Tryz.prog aN 94 as0:=BH ajj Tryz.call94 aqw
def aiY:Fx:=⟨Tryz.prog,aN,Zw (λ_ _=>μ) [],(λ_ _ _=>μ),[],[],8,[]⟩
theorem aiV:Sound Tryz.prog aN 95 (Ω θ [(.s 3)] .k (YR (Tq))):=
 Zr (Vt (X:=aiY) (fn:=Tryz.f95) (dg:=(.s .n (.s bh aV))) .K trivial (WH rfl WJ (λ_=>TI)) Tryz.func95 Tryz.call95 (λa0 σ=>by kernel_rfl)) _ _ _ rfl rfl
theorem aiS:Sound Tryz.prog aN 95 Tp:=BH aiV Tryz.call95 anI
def ajA:Fx:=⟨Tryz.prog,aN,Zw (λ_ _=>μ) [],(λ_ _ _=>μ),[],[],8,[]⟩
theorem ajz:Sound Tryz.prog aN 96 (Ω θ [(.s 11)] .k (YR (aai))):=
 Zr (Vt (X:=ajA) (fn:=Tryz.f96) (dg:=(.s .n (.s bh aV))) .K trivial (WH rfl WJ (λ_=>TI)) Tryz.func96 Tryz.call96 (λa0 σ=>by kernel_rfl)) _ _ _ rfl rfl
theorem ajy:Sound Tryz.prog aN 96 PE:=BH ajz Tryz.call96 at5
def ajt:Fx:=⟨Tryz.prog,aN,Zw (λ_ _=>μ) [],(λ_ _ _=>μ),[],[],8,[]⟩
theorem ajr:Sound Tryz.prog aN 97 (Ω θ [(.s 8)] .k (YR (aBw))):=
 Zr (Vt (X:=ajt) (fn:=Tryz.f97) (dg:=(.s .n (.s bh aV))) .K trivial (WH rfl WJ (λ_=>TI)) Tryz.func97 Tryz.call97 (λa0 σ=>by kernel_rfl)) _ _ _ rfl rfl
theorem ajo:Sound Tryz.prog aN 97 ar1:=BH ajr Tryz.call97 asd
end
section
def ajm:Fx:=⟨Tryz.prog,aN,Zw (λ_ _=>μ) [],(λ_ _ _=>μ),[],[],8,[]⟩
theorem aji:Sound Tryz.prog aN 64 (Ω θ [(.s 2)] .k (YR (PD))):=
 Zr (Vt (X:=ajm) (fn:=Tryz.f64) (dg:=(.s .n (.s bh aV))) .K trivial (WH rfl WJ (λ_=>TI)) Tryz.func64 Tryz.call64 (λa0 σ=>by kernel_rfl)) _ _ _ rfl rfl
theorem aah:Sound Tryz.prog aN 64 F5:=BH aji Tryz.call64 aqv
theorem alF:Sound Tryz.prog aN 37 Qc:=q1 [1,2,3,5,8,10] 129 (.s .n (.s .n (.s .n (.s (.s .n (.b (.l [1,2,3,27] [.exit 0] (.s .n (.s cW (.s (.b (.s .n (.s .n (.s (.s .n (.b (.l [1,2,3,5,38] [.exit 2] (.s .n (.s cW (.s (.b aV) .n)))))) .n)))) .n)))))) (.s (.s .n (.b (.l [1,2,3,66] [.exit 4] (.s .n (.s cW (.s (.b (.s .n aV)) .n)))))) (.s (.s .n (.b (.l [2,3,84] [.exit 6] (.s .n (.s cW (.s (.b (.s .n (.s .n (.s (.s .n (.b (.l [2,3,10,95] [.exit 8] (.s .n (.s cW (.s (.b (.s .n aV)) .n)))))) .n)))) .n)))))) aV)))))) (Δ (aCV aiJ (.s 3) rfl) (Δ (aCV ajp (.s 4) rfl) (Δ aje (Δ (aCV ajf (.s 3) rfl) (Δ (aCV aiS (.s 3) rfl) (Δ ajy (Δ (aCV ajo (.s 8) rfl) (Δ (aCV aah (.s 2) rfl) WJ)))))))) Tryz.func37 Tryz.call37 (λa0 σ=>by kernel_rfl) rfl rfl
def aoN:Fx:=⟨Tryz.prog,aN,Zw (λ_ _=>μ) [(36,PW),(37,Qc),(38,IV),(39,L5)],(λ_ _ _=>μ),[1,8,10,12,14,15],[27],119,[]⟩
theorem aoL:Sound Tryz.prog aN 10 (Ω θ Ds .k (YR (Mh))):=
 Zr (Vt (X:=aoN) (fn:=Tryz.f10) (dg:=(.s .n (.s (.s .n bh) (.s .n (.s .n (.s .n (.s .n (.s .n (.s (.s .n (.b (.l [1,46] [.exit 0] (.s .n (.s cW (.s (.b aV) .n)))))) (.s (.s .n (.b (.l [1,59] [.exit 2] (.s .n (.s cW (.s (.b (.s .n (.s .n (.b (.l [1,10,69] [.exit 4] (.s .n (.s cW (.s (.b aV) .n)))))))) .n)))))) (.s (.s .n (.b (.l [1,88] [.exit 6] (.s .n (.s cW (.s (.b (.s .n aV)) .n)))))) aV))))))))))) .K trivial (WH rfl (Δ akb (Δ alF (Δ UL (Δ abU WJ)))) (λ_=>TI)) Tryz.func10 Tryz.call10 (λa0 σ=>by kernel_rfl)) _ _ _ rfl rfl
theorem aou:Sound Tryz.prog aN 10 QG:=aoL
theorem ajU:Sound Tryz.prog aN 42 PO:=q1 [1] 53 (.s .n (.s bh (.s .n (.s .n (.s bh aV))))) (Δ wk WJ) Tryz.func42 Tryz.call42 (λa0 σ=>by kernel_rfl) rfl rfl
theorem aa9:Sound Tryz.prog aN 43 LU:=q1 [] 5 (.s .n aV) (Δ wk WJ) Tryz.func43 Tryz.call43 (λa0 σ=>by kernel_rfl) rfl rfl
theorem aaK:Sound Tryz.prog aN 12 IN:=q1 [] 22 (.s .n (.s bh aV)) WJ Tryz.func12 Tryz.call12 (λa0 σ=>by kernel_rfl) rfl rfl
def ait (dyn:Nat->aq->Heap->aF):Fx:=⟨Tryz.prog,aN,Zw (λ_ _=>μ) [],dyn,[],[],19,[]⟩
theorem ais(dyn:Nat->aq->Heap->aF)(hd:∀f,Sound Tryz.prog aN f (dyn (aN.getD f 0))):Sound Tryz.prog aN 158 (Ω θ [(.s 3)] .k (Xw (Pr dyn))):=
 Zr (Zb (X:=ait dyn) (fn:=Tryz.f158) (dg:=(.s .n (.s (.s .n (.b (.l [4,8] [.exit 0,.ret] (.s .n (.s cW (.s (.b (.s .n bh)) .n)))))) aV))) .F trivial (WH rfl WJ (hd)) Tryz.func158 Tryz.call158 (λa0 a1 σ=>by kernel_rfl)) _ _ _ rfl rfl
theorem air(dyn:Nat->aq->Heap->aF)(hd:∀f,Sound Tryz.prog aN f (dyn (aN.getD f 0))):Sound Tryz.prog aN 158 (Pq dyn):=ais dyn hd
def aip (dyn:Nat->aq->Heap->aF):Fx:=⟨Tryz.prog,aN,Zw (λ_ _=>μ) [(158,Pq dyn)],dyn,[],[],9,[]⟩
theorem aio(dyn:Nat->aq->Heap->aF)(hd:∀f,Sound Tryz.prog aN f (dyn (aN.getD f 0))):Sound Tryz.prog aN 102 (Ω θ [(.s 3)] .k (Xw (Pp dyn))):=
 Zr (Zb (X:=aip dyn) (fn:=Tryz.f102) (dg:=(.s .n aV)) .F trivial (WH rfl (Δ (air dyn hd) WJ) (hd)) Tryz.func102 Tryz.call102 (λa0 a1 σ=>by kernel_rfl)) _ _ _ rfl rfl
theorem aim(dyn:Nat->aq->Heap->aF)(hd:∀f,Sound Tryz.prog aN f (dyn (aN.getD f 0))):Sound Tryz.prog aN 102 (Po dyn):=aio dyn hd
theorem aaj:Sound Tryz.prog aN 103 Lq:=q2 [2] 9 (.s .n aV) WJ Tryz.func103 Tryz.call103 (λa0 a1 σ=>by kernel_rfl) rfl rfl
def aj0:Fx:=⟨Tryz.prog,aN,Zw (λ_ _=>μ) [(102,Po (Zw (λ_ _=>μ) [(152,Lq)])),(89,l5),(41,ug)],(Zw (λ_ _=>μ) [(152,Lq)]),[2],[],36,[]⟩
theorem ajY:Sound Tryz.prog aN 44 (Ω θ Ds .k (Xw (PS))):=
 Zr (Zb (X:=aj0) (fn:=Tryz.f44) (dg:=(.s .n (.s .n (.s bh (.s .n (.s (.s .n (.b (.s .n (.c [6] .n (.s .n (.c [6] .n .n)))))) aV)))))) .F trivial (WH rfl (Δ (aim _ (uk (Zp (rq aaj (by kernel_rfl) rfl) YX))) (Δ wk (Δ CO WJ))) (uk (Zp (rq aaj (by kernel_rfl) rfl) YX))) Tryz.func44 Tryz.call44 (λa0 a1 σ=>by kernel_rfl)) _ _ _ rfl rfl
theorem ajV:Sound Tryz.prog aN 44 PR:=ajY
def ai7:Fx:=⟨Tryz.prog,aN,Zw (λ_ _=>μ) [],(λ_ _ _=>μ),[],[],8,[]⟩
theorem ai4:Sound Tryz.prog aN 104 (Ω ι [] .k (YR (IB))):=
 Zr (Vt (X:=ai7) (fn:=Tryz.f104) (dg:=(.s .n (.s bh aV))) .K trivial (WH rfl WJ (λ_=>TI)) Tryz.func104 Tryz.call104 (λa0 σ=>by kernel_rfl)) _ _ _ rfl rfl
theorem ai1:Sound Tryz.prog aN 104 Iz:=BH ai4 Tryz.call104 aqx
theorem aaN:Sound Tryz.prog aN 57 Ez:=q1 [] 31 (.s .n (.s bh aV)) WJ Tryz.func57 Tryz.call57 (λa0 σ=>by kernel_rfl) rfl rfl
theorem LJ:Sound Tryz.prog aN 63 Av:=q2 [2] 16 (.s .n (.s bh aV)) WJ Tryz.func63 Tryz.call63 (λa0 a1 σ=>by kernel_rfl) rfl rfl
def aik (dyn:Nat->aq->Heap->aF):Fx:=⟨Tryz.prog,aN,Zw (λ_ _=>μ) [],dyn,[],[],49,[]⟩
theorem aij(dyn:Nat->aq->Heap->aF)(hd:∀f,Sound Tryz.prog aN f (dyn (aN.getD f 0))):Sound Tryz.prog aN 243 (Ω θ [(.s 11)] .k (X5 (Iy dyn))):=
 Zr (aDG (X:=aik dyn) (fn:=Tryz.f243) (dg:=(.s .n (.s .n (.s .n (.s (.b (.l [9,10] [.exit 0] (.s (.s .n cW) (.b (.s .n (.s .n (.c [9,10] .n .n))))))) aV))))) .F trivial (WH rfl WJ (hd)) Tryz.func243 Tryz.call243 (λa0 a1 a2 σ=>by kernel_rfl)) _ _ _ rfl rfl
theorem aii(dyn:Nat->aq->Heap->aF)(hd:∀f,Sound Tryz.prog aN f (dyn (aN.getD f 0))):Sound Tryz.prog aN 243 (Ix dyn):=aij dyn hd
theorem aaS:Sound Tryz.prog aN 244 Ga:=q2 [2] 9 (.s .n aV) WJ Tryz.func244 Tryz.call244 (λa0 a1 σ=>by kernel_rfl) rfl rfl
def anq:Fx:=⟨Tryz.prog,aN,Zw (λ_ _=>μ) [(243,Ix (Zw (λ_ _=>μ) [(177,Ga)]))],(Zw (λ_ _=>μ) [(177,Ga)]),[],[],11,[]⟩
theorem anl:Sound Tryz.prog aN 199 (Ω θ [(.e 11 nC)] .k (Xw (Qv))):=
 Zr (Zb (X:=anq) (fn:=Tryz.f199) (dg:=(.s .n aV)) .F trivial (WH rfl (Δ (aii _ (uk (Zp (rq aaS (by kernel_rfl) rfl) YX))) WJ) (uk (Zp (rq aaS (by kernel_rfl) rfl) YX))) Tryz.func199 Tryz.call199 (λa0 a1 σ=>by kernel_rfl)) _ _ _ rfl rfl
theorem am9:Sound Tryz.prog aN 199 Je:=anl
theorem ana:Sound Tryz.prog aN 200 L4:=q1 [5,7] 40 (.s .n (.s .n (.s (.s .n (.b (.l [11] [.exit 0] (.s .n (.s cW (.s (.b (.s .n (.s .n (.b (.l [5,18] [.exit 2] (.s .n (.s cW (.s (.b (.s .n (.s .n (.c [5] .n .n)))) .n)))))))) .n)))))) aV))) WJ Tryz.func200 Tryz.call200 (λa0 σ=>by kernel_rfl) rfl rfl
theorem akI:Sound Tryz.prog aN 202 aaO:=q2 [2,3] 10 (.s .n aV) (Δ aa7 WJ) Tryz.func202 Tryz.call202 (λa0 a1 σ=>by kernel_rfl) rfl rfl
def anp:Fx:=⟨Tryz.prog,aN,Zw (λ_ _=>μ) [(151,Me),(199,Je),(200,L4),(201,Lo)],(Zw (λ_ _=>μ) [(297,aaO)]),[11],[],42,[]⟩
theorem ank:Sound Tryz.prog aN 159 (Ω θ [(.e 11 nC)] (.t [(.s 5),.k]) (Xw (Qu))):=
 Zr (Zb (X:=anp) (fn:=Tryz.f159) (dg:=(.s .n (.s (.s .n bh) (.s .n (.s bh (.s .n (.s (.s .n (.b (.lc [9] [.exit 0] (.s .n (.s cW (.b aV)))))) (.s .n aV)))))))) (.N (Y9 (.t [(.s 5),.k]))) (λ_ _ _ h=>GN _ _ _ rfl h) (WH rfl (Δ acK (Δ am9 (Δ ana (Δ aif WJ)))) (uk (Zp (rq akI (by kernel_rfl) rfl) YX))) Tryz.func159 Tryz.call159 (λa0 a1 σ=>by kernel_rfl)) _ _ _ rfl rfl
theorem am8:Sound Tryz.prog aN 159 Qr:=ank
theorem alg:Sound Tryz.prog aN 121 aAL:=q1 [1] 14 (.s .n aV) WJ Tryz.func121 Tryz.call121 (λa0 σ=>by kernel_rfl) rfl rfl
theorem PL:Sound Tryz.prog aN 62 wj:=q3 [4,6,8] 32 (.s .n (.s .n aV)) (Δ alg WJ) Tryz.func62 Tryz.call62 (λa0 a1 a2 σ=>by kernel_rfl) rfl rfl
theorem akJ:Sound Tryz.prog aN 206 aAM:=q1 [] 5 (.s .n aV) (Δ wk WJ) Tryz.func206 Tryz.call206 (λa0 σ=>by kernel_rfl) rfl rfl
theorem aaY:Sound Tryz.prog aN 162 P6:=q1 [] 15 (.s .n (.s (.s .n (.b (.l [2,7] [.exit 0,.ret] (.s .n (.s cW (.s (.b (.s .n bh)) .n)))))) aV)) (Δ akJ WJ) Tryz.func162 Tryz.call162 (λa0 σ=>by kernel_rfl) rfl rfl
theorem aaX:Sound Tryz.prog aN 237 Gb:=q1 [] 5 (.s .n aV) (Δ wk WJ) Tryz.func237 Tryz.call237 (λa0 σ=>by kernel_rfl) rfl rfl
theorem aj8:Sound Tryz.prog aN 236 TY:=q1 [1] 44 (.s .n (.s (.s .n bh) (.s bh aV))) (Δ aaY (Δ aaX (Δ aaz WJ))) Tryz.func236 Tryz.call236 (λa0 σ=>by kernel_rfl) rfl rfl
theorem aot:Sound Tryz.prog aN 273 tg:=q1 [2] 6 (.s .n aV) WJ Tryz.func273 Tryz.call273 (λa0 σ=>by kernel_rfl) rfl rfl
theorem aaA:Sound Tryz.prog aN 274 vi:=q2 [2,4] 24 (.s .n (.s .n aV)) (Δ ame WJ) Tryz.func274 Tryz.call274 (λa0 a1 σ=>by kernel_rfl) rfl rfl
theorem anb:Sound Tryz.prog aN 258 Qs:=q3 [3,6,7,8,11,12] 131 (.s .n (.s .n (.s (.s .n (.b (.s .n (.j aV (.s .n (.j aV (.s .n (.j aV (.s .n (.j (.s bh aV) (.s .n (.j (.s .n (.s .n (.s (.b (.l [6,7,10] [.exit 1] (.s (.s .n cW) (.b .n)))) (.s .n (.s .n (.s .n aV)))))) .n)))))))))))) aV))) (Δ aot (Δ aaA WJ)) Tryz.func258 Tryz.call258 (λa0 a1 a2 σ=>by kernel_rfl) rfl rfl
theorem aka:Sound Tryz.prog aN 275 PV:=q2 [2,3,4] 29 (.s .n (.s .n (.s .n aV))) (Δ amd WJ) Tryz.func275 Tryz.call275 (λa0 a1 σ=>by kernel_rfl) rfl rfl
theorem aj9:Sound Tryz.prog aN 276 IG:=q2 [2,3] 24 (.s .n aV) WJ Tryz.func276 Tryz.call276 (λa0 a1 σ=>by kernel_rfl) rfl rfl
theorem ale:Sound Tryz.prog aN 259 Uz:=q4 [6,7,10,15] 80 (.s .n (.s (.s .n (.j (.s .n (.s .n (.s .n (.s (.b (.l [7,10,11,12] [.exit 0] (.s (.s .n cW) (.b (.s .n (.s .n (.c [7,10,11,12] .n .n))))))) aV)))) .n)) (.s .n (.s .n (.s .n (.s (.b (.l [7,15,16,17] [.exit 2] (.s (.s .n cW) (.b (.s .n (.s .n (.c [7,15,16,17] .n .n))))))) aV)))))) (Δ aaA (Δ aka (Δ aj9 WJ))) Tryz.func259 Tryz.call259 (λa0 a1 a2 a3 σ=>by kernel_rfl) rfl rfl
theorem aos:Sound Tryz.prog aN 238 VW:=q2 [2,6,7] 46 (.s .n (.s .n (.s (.b (.s .n (.j aV bh))) (.s .n aV)))) (Δ anb (Δ ale WJ)) Tryz.func238 Tryz.call238 (λa0 a1 σ=>by kernel_rfl) rfl rfl
theorem aor:Sound Tryz.prog aN 191 VV:=q2 [2] 21 (.s .n (.s (.s .n bh) aV)) (Δ aj8 (Δ aaX (Δ CO (Δ Gh (Δ aos WJ))))) Tryz.func191 Tryz.call191 (λa0 a1 σ=>by kernel_rfl) rfl rfl
theorem aCe:Sound Tryz.prog aN 142 EA:=q2 [2] 16 (.s .n (.s .n aV)) (Δ aor WJ) Tryz.func142 Tryz.call142 (λa0 a1 σ=>by kernel_rfl) rfl rfl
theorem amg:Sound Tryz.prog aN 207 aBv:=q2 [] 16 (.s .n (.s .n (.s (.s .n (.c [5] .n .n)) aV))) WJ Tryz.func207 Tryz.call207 (λa0 a1 σ=>by kernel_rfl) rfl rfl
theorem amh:Sound Tryz.prog aN 163 U2:=q2 [] 12 (.s .n aV) (Δ amg WJ) Tryz.func163 Tryz.call163 (λa0 a1 σ=>by kernel_rfl) rfl rfl
theorem aa8:Sound Tryz.prog aN 111 LR:=q2 [] 18 (.s .n (.s (.s .n bh) aV)) (Δ aaY (Δ amh WJ)) Tryz.func111 Tryz.call111 (λa0 a1 σ=>by kernel_rfl) rfl rfl
theorem aaB:Sound Tryz.prog aN 82 IF:=q4 [6,10,18] 124 (.s .n (.s .n (.s .n (.s (.s .n (.b (.l [6,10,11,12,13,14,35] [.exit 0] (.s .n (.s cW (.s (.b (.s .n (.s .n (.s .n (.s .n (.s (.s .n cW) (.s .n (.s (.s .n (.c [6,10,18,20] .n .n)) (.s .n (.s .n (.c [6,10,11,12,13,14] .n .n))))))))))) .n)))))) aV)))) (Δ LJ (Δ PL (Δ aCe (Δ aa8 WJ)))) Tryz.func82 Tryz.call82 (λa0 a1 a2 a3 σ=>by kernel_rfl) rfl rfl
def aiR (dyn:Nat->aq->Heap->aF):Fx:=⟨Tryz.prog,aN,Zw (λ_ _=>μ) [],dyn,[],[],19,[]⟩
theorem aiO(dyn:Nat->aq->Heap->aF)(hd:∀f,Sound Tryz.prog aN f (dyn (aN.getD f 0))):Sound Tryz.prog aN 204 (Ω θ [(.s 8)] .k (Xw (Py dyn))):=
 Zr (Zb (X:=aiR dyn) (fn:=Tryz.f204) (dg:=(.s .n (.s (.s .n (.b (.l [4,8] [.exit 0,.ret] (.s .n (.s cW (.s (.b (.s .n bh)) .n)))))) aV))) .F trivial (WH rfl WJ (hd)) Tryz.func204 Tryz.call204 (λa0 a1 σ=>by kernel_rfl)) _ _ _ rfl rfl
theorem aiL(dyn:Nat->aq->Heap->aF)(hd:∀f,Sound Tryz.prog aN f (dyn (aN.getD f 0))):Sound Tryz.prog aN 204 (Li dyn):=aiO dyn hd
theorem aBJ:Sound Tryz.prog aN 161 zf:=q1 [1,2] 25 (.s .n (.s .n (.s .n (.s .n aV)))) WJ Tryz.func161 Tryz.call161 (λa0 σ=>by kernel_rfl) rfl rfl
end
section
theorem aar:Sound Tryz.prog aN 205 IE:=q2 [2] 8 (.s .n aV) WJ Tryz.func205 Tryz.call205 (λa0 a1 σ=>by kernel_rfl) rfl rfl
def aks:Fx:=⟨Tryz.prog,aN,Zw (λ_ _=>μ) [(204,Li (Zw (λ_ _=>μ) [(349,IE)])),(161,zf)],(Zw (λ_ _=>μ) [(349,IE)]),[7,12,13,14],[],77,[]⟩
theorem akq:Sound Tryz.prog aN 160 (Ω ι [] GV (A.HF (Ud))):=
 Zr (Sound.aie (X:=aks) (fn:=Tryz.f160) (dg:=(.s .n (.s .n (.s .n (.s (.s .n (.c [7,12,13,14] (.s .n (.s .n (.c [7,12,13,14] .n .n))) .n)) (.s .n (.s (.s .n (.c [12,13,14] .n .n)) (.s (.s .n (.c [12,13] .n .n)) aV)))))))) .F trivial (WH rfl (Δ (aiL _ (uk (Zp (rq aar (by kernel_rfl) rfl) YX))) (Δ aBJ WJ)) (uk (Zp (rq aar (by kernel_rfl) rfl) YX))) Tryz.func160 Tryz.call160 (λa0 a1 a2 a3 a4 a5 σ=>by kernel_rfl)) _ _ _ rfl rfl
theorem akp:Sound Tryz.prog aN 160 IP:=akq
def akt:Fx:=⟨Tryz.prog,aN,Zw (λ_ _=>μ) [(63,Av),(159,Qr),(152,LX),(62,wj),(142,EA),(82,IF),(160,IP),(161,zf)],(λ_ _ _=>μ),[11,18,21,24,25,27],[],239,[]⟩
theorem akr:Sound Tryz.prog aN 105 (Ω ι [] .k (A.HE (Ue))):=
 Zr (Sound.aid (X:=akt) (fn:=Tryz.f105) (dg:=(.s .n (.s .n (.s .n (.s .n (.s .n (.s .n (.s (.s .n (.b (.l [11,61] [.exit 0] (.s .n (.s cW (.s (.b (.s .n (.s .n (.s .n (.s .n (.s bh (.s .n (.s (.s .n (.c [11,18,23] .n (.s .n (.c [11,18,23] .n .n)))) .n)))))))) .n)))))) (.s (.s .n (.b (.lc [11] [.exit 2] (.s .n (.s cW (.b (.s .n (.s .n (.s (.s .n cW) (.s (.s .n (.c [11,24,25] aV .n)) .n)))))))))) (.s .n (.s .n (.c [] .n .n)))))))))))) .G trivial (WH rfl (Δ LJ (Δ am8 (Δ abn (Δ PL (Δ aCe (Δ aaB (Δ akp (Δ aBJ WJ)))))))) (λ_=>TI)) Tryz.func105 Tryz.call105 (λa0 a1 a2 a3 a4 σ=>by kernel_rfl)) _ _ _ rfl rfl
theorem aaL:Sound Tryz.prog aN 105 xW:=akr
def aki:Fx:=⟨Tryz.prog,aN,Zw (λ_ _=>μ) [(104,Iz),(57,Ez),(105,xW)],(λ_ _ _=>μ),[4],[5],66,[]⟩
theorem akf:Sound Tryz.prog aN 45 (Ω ι [] .k (Xw (PZ))):=
 Zr (Zb (X:=aki) (fn:=Tryz.f45) (dg:=(.s .n (.s .n (.s .n (.b (.l [4] [.ret] (.b (.s .n (.s (.s .n (.b (.l [4,6,7,21] [.exit 2] (.s .n (.s cW (.s (.b (.s .n (.s .n (.s .n (.c [4,6,7] .n .n))))) .n)))))) (.s bh aV)))))))))) .K trivial (WH rfl (Δ ai1 (Δ aaN (Δ aaL WJ))) (λ_=>TI)) Tryz.func45 Tryz.call45 (λa0 a1 σ=>by kernel_rfl)) _ _ _ rfl rfl
theorem T9:Sound Tryz.prog aN 45 Ey:=akf
def aiG (dyn:Nat->aq->Heap->aF):Fx:=⟨Tryz.prog,aN,Zw (λ_ _=>μ) [],dyn,[],[],19,[]⟩
theorem aiE(dyn:Nat->aq->Heap->aF)(hd:∀f,Sound Tryz.prog aN f (dyn (aN.getD f 0))):Sound Tryz.prog aN 106 (Ω θ [(.s 10)] .k (Xw (Pv dyn))):=
 Zr (Zb (X:=aiG dyn) (fn:=Tryz.f106) (dg:=(.s .n (.s (.s .n (.b (.l [4,8] [.exit 0,.ret] (.s .n (.s cW (.s (.b (.s .n bh)) .n)))))) aV))) .F trivial (WH rfl WJ (hd)) Tryz.func106 Tryz.call106 (λa0 a1 σ=>by kernel_rfl)) _ _ _ rfl rfl
theorem aad(dyn:Nat->aq->Heap->aF)(hd:∀f,Sound Tryz.prog aN f (dyn (aN.getD f 0))):Sound Tryz.prog aN 106 (Ev dyn):=aiE dyn hd
def aiZ (dyn:Nat->aq->Heap->aF):Fx:=⟨Tryz.prog,aN,Zw (λ_ _=>μ) [],dyn,[],[],19,[]⟩
theorem aiW(dyn:Nat->aq->Heap->aF)(hd:∀f,Sound Tryz.prog aN f (dyn (aN.getD f 0))):Sound Tryz.prog aN 108 (Ω θ [(.s 11)] .k (Xw (Pz dyn))):=
 Zr (Zb (X:=aiZ dyn) (fn:=Tryz.f108) (dg:=(.s .n (.s (.s .n (.b (.l [4,8] [.exit 0,.ret] (.s .n (.s cW (.s (.b (.s .n bh)) .n)))))) aV))) .F trivial (WH rfl WJ (hd)) Tryz.func108 Tryz.call108 (λa0 a1 σ=>by kernel_rfl)) _ _ _ rfl rfl
theorem aiT(dyn:Nat->aq->Heap->aF)(hd:∀f,Sound Tryz.prog aN f (dyn (aN.getD f 0))):Sound Tryz.prog aN 108 (Lj dyn):=aiW dyn hd
def ajO:Fx:=⟨Tryz.prog,aN,Zw (λ_ _=>μ) [(63,Av),(62,wj),(142,EA),(161,zf)],(λ_ _ _=>μ),[7,10,11],[],82,[]⟩
theorem ajN:Sound Tryz.prog aN 110 (Ω ι [] .k (A.yM (TK))):=
 Zr (Sound.aic (X:=ajO) (fn:=Tryz.f110) (dg:=(.s .n (.s .n (.s .n (.s (.s .n (.b (.lc [7] [.exit 0] (.s .n (.s cW (.b (.s .n (.s .n (.s (.s .n cW) .n))))))))) .n))))) .G trivial (WH rfl (Δ LJ (Δ PL (Δ aCe (Δ aBJ WJ)))) (λ_=>TI)) Tryz.func110 Tryz.call110 (λa0 a1 a2 a3 σ=>by kernel_rfl)) _ _ _ rfl rfl
theorem ajM:Sound Tryz.prog aN 110 LA:=ajN
theorem TM:Sound Tryz.prog aN 107 Ew:=q2 [2] 9 (.s .n aV) WJ Tryz.func107 Tryz.call107 (λa0 a1 σ=>by kernel_rfl) rfl rfl
theorem aCu:Sound Tryz.prog aN 109 Ex:=q2 [2] 9 (.s .n aV) WJ Tryz.func109 Tryz.call109 (λa0 a1 σ=>by kernel_rfl) rfl rfl
def akM:Fx:=⟨Tryz.prog,aN,Zw (λ_ _=>μ) [(106,Ev (Zw (λ_ _=>μ) [(352,Ew),(354,Ex)])),(105,xW),(108,Lj (Zw (λ_ _=>μ) [(352,Ew),(354,Ex)])),(63,Av),(110,LA)],(Zw (λ_ _=>μ) [(352,Ew),(354,Ex)]),[],[],176,[]⟩
theorem akL:Sound Tryz.prog aN 46 (Ω ι [] .k (X5 (IS))):=
 Zr (aDG (X:=akM) (fn:=Tryz.f46) (dg:=(.s .n (.s (.s .n (.b (.s .n (.j (.s .n (.s .n aV)) (.s .n (.j (.s .n (.s .n aV)) .n)))))) (.s .n (.s .n (.s .n (.s (.s .n (.b (.s .n (.j (.s .n bh) (.s .n (.j (.s .n bh) (.s .n (.j (.s .n bh) (.s .n (.j (.s bh .n) (.s .n (.j (.s bh .n) (.s .n (.j (.s bh (.s .n (.s .n aV))) (.s .n (.c [] .n .n)))))))))))))))) (.s .n (.s (.s .n (.c [] .n .n)) aV))))))))) .K trivial (WH rfl (Δ (aad _ (uk (Zp (rq TM (by kernel_rfl) rfl) (Zp (rq aCu (by kernel_rfl) rfl) YX)))) (Δ aaL (Δ (aiT _ (uk (Zp (rq TM (by kernel_rfl) rfl) (Zp (rq aCu (by kernel_rfl) rfl) YX)))) (Δ LJ (Δ ajM WJ))))) (uk (Zp (rq TM (by kernel_rfl) rfl) (Zp (rq aCu (by kernel_rfl) rfl) YX)))) Tryz.func46 Tryz.call46 (λa0 a1 a2 σ=>by kernel_rfl)) _ _ _ rfl rfl
theorem akK:Sound Tryz.prog aN 46 LH:=akL
def alk:Fx:=⟨Tryz.prog,aN,Zw (λ_ _=>μ) [(41,ug),(42,PO),(43,LU),(12,IN),(40,ze),(44,PR),(45,Ey),(46,LH)],(λ_ _ _=>μ),[3],[6],66,[]⟩
theorem ali:Sound Tryz.prog aN 11 (Ω ι [] .k (Xw (P8))):=
 Zr (Zb (X:=alk) (fn:=Tryz.f11) (dg:=(.s .n (.s .n (.s (.s .n bh) (.s .n (.s (.s .n bh) (.s .n (.s .n aV)))))))) .K trivial (WH rfl (Δ CO (Δ ajU (Δ aa9 (Δ aaK (Δ Gh (Δ ajV (Δ T9 (Δ akK WJ)))))))) (λ_=>TI)) Tryz.func11 Tryz.call11 (λa0 a1 σ=>by kernel_rfl)) _ _ _ rfl rfl
theorem alf:Sound Tryz.prog aN 11 UA:=ali
theorem aaM:Sound Tryz.prog aN 47 F9:=q2 [] 16 (.s .n aV) (Δ aa9 (Δ CO (Δ aaK (Δ Gh WJ)))) Tryz.func47 Tryz.call47 (λa0 a1 σ=>by kernel_rfl) rfl rfl
theorem aao:Sound Tryz.prog aN 116 IC:=q2 [2] 8 (.s .n aV) WJ Tryz.func116 Tryz.call116 (λa0 a1 σ=>by kernel_rfl) rfl rfl
def akj:Fx:=⟨Tryz.prog,aN,Zw (λ_ _=>μ) [(106,Ev (Zw (λ_ _=>μ) [(358,IC)])),(47,F9),(41,ug),(40,ze),(45,Ey)],(Zw (λ_ _=>μ) [(358,IC)]),[6],[],36,[]⟩
theorem akg:Sound Tryz.prog aN 56 (Ω ι [] (.t [(.a [.k,.k,.k,.k,.k,(.e 11 nC),.k,.k,.k,.k]),.k]) (X5 (P0))):=
 Zr (aDG (X:=akj) (fn:=Tryz.f56) (dg:=(.s .n (.s .n (.s (.s .n bh) aV)))) .F trivial (WH rfl (Δ (aad _ (uk (Zp (rq aao (by kernel_rfl) rfl) YX))) (Δ aaM (Δ CO (Δ Gh (Δ T9 WJ))))) (uk (Zp (rq aao (by kernel_rfl) rfl) YX))) Tryz.func56 Tryz.call56 (λa0 a1 a2 σ=>by kernel_rfl)) _ _ _ rfl rfl
theorem akc:Sound Tryz.prog aN 56 PX:=akg
theorem ajI:Sound Tryz.prog aN 59 PG:=q1 [] 4 (.s .n aV) WJ Tryz.func59 Tryz.call59 (λa0 σ=>by kernel_rfl) rfl rfl
theorem ajc:Sound Tryz.prog aN 60 aaf:=q2 [2,3] 20 (.s .n (.s bh aV)) (Δ aCw WJ) Tryz.func60 Tryz.call60 (λa0 a1 σ=>by kernel_rfl) rfl rfl
def ajL:Fx:=⟨Tryz.prog,aN,Zw (λ_ _=>μ) [(56,PX),(57,Ez),(59,PG),(58,Lp),(63,Av),(62,wj),(64,A.nS (.s 2) F5)],(Zw (λ_ _=>μ) [(372,aaf)]),[6,10,13,14],[8],90,[]⟩
theorem ajK:Sound Tryz.prog aN 19 (Ω ι [] (.t [(.a [.k,.k,.k,.k,.k,(.e 11 [.k,.k,.k,.k,.k,.k,.k,.k,(.s 2),.k,.k])]),.k]) (X5 (PJ))):=
 Zr (aDG (X:=ajL) (fn:=Tryz.f19) (dg:=(.s .n (.s .n (.s bh (.s .n (.s (.s .n (.c [6,10] .n .n)) (.s .n (.s (.s .n (.b (.l [6,10,52] [.exit 0] (.s .n (.s cW (.s (.b (.s .n (.s .n (.s (.s .n cW) aV)))) .n)))))) aV)))))))) .F trivial (WH rfl (Δ akc (Δ aaN (Δ ajI (Δ ajq (Δ LJ (Δ PL (Δ (aCV aah (.s 2) rfl) WJ))))))) (uk (Zp (rq ajc (by kernel_rfl) rfl) YX))) Tryz.func19 Tryz.call19 (λa0 a1 a2 σ=>by kernel_rfl)) _ _ _ rfl rfl
theorem ajJ:Sound Tryz.prog aN 19 PI:=ajK
theorem akd:Sound Tryz.prog aN 48 LC:=q4 [6] 42 (.s .n (.s .n (.s bh (.s bh (.s .n aV))))) (Δ aaB (Δ aa8 WJ)) Tryz.func48 Tryz.call48 (λa0 a1 a2 a3 σ=>by kernel_rfl) rfl rfl
def aj1:Fx:=⟨Tryz.prog,aN,Zw (λ_ _=>μ) [(47,F9),(45,Ey),(48,LC)],(λ_ _ _=>μ),[10],[7],40,[]⟩
theorem ajZ:Sound Tryz.prog aN 13 (Ω ι [] .k (Xw (PT))):=
 Zr (Zb (X:=aj1) (fn:=Tryz.f13) (dg:=(.s .n (.s (.s .n bh) (.s .n (.s .n (.s (.s .n (.b (.l [8,25] [.exit 0] (.s .n (.s cW (.s (.b aV) .n)))))) aV)))))) .K trivial (WH rfl (Δ aaM (Δ T9 (Δ akd WJ))) (λ_=>TI)) Tryz.func13 Tryz.call13 (λa0 a1 σ=>by kernel_rfl)) _ _ _ rfl rfl
theorem ajW:Sound Tryz.prog aN 13 aCq:=ajZ
theorem am6:Sound Tryz.prog aN 20 Vq:=q2 [4,7] 21 (.s .n (.s (.s .n (.b (.l [4,5,10] [.exit 0,.ret] (.s .n (.s cW (.s (.b (.s .n bh)) .n)))))) aV)) WJ Tryz.func20 Tryz.call20 (λa0 a1 σ=>by kernel_rfl) rfl rfl
theorem am1:Sound Tryz.prog aN 271 Vn:=q1 [] 34 (.s .n (.s (.s .n (.b (.l [2,7] [.exit 0,.ret] (.s .n (.s cW (.s (.b (.s .n (.s .n bh))) .n)))))) aV)) WJ Tryz.func271 Tryz.call271 (λa0 σ=>by kernel_rfl) rfl rfl
theorem VI:Sound Tryz.prog aN 253 Jd:=q1 [] 20 (.s .n aV) (Δ am1 WJ) Tryz.func253 Tryz.call253 (λa0 σ=>by kernel_rfl) rfl rfl
theorem CN:Sound Tryz.prog aN 112 rV:=q3 [] 15 (.s .n aV) WJ Tryz.func112 Tryz.call112 (λa0 a1 a2 σ=>by kernel_rfl) rfl rfl
theorem Qj:Sound Tryz.prog aN 53 EB:=q1 [] 5 (.s .n aV) (Δ CN WJ) Tryz.func53 Tryz.call53 (λa0 σ=>by kernel_rfl) rfl rfl
theorem aop:Sound Tryz.prog aN 280 QE:=q1 [1] 14 (.s .n (.s bh aV)) WJ Tryz.func280 Tryz.call280 (λa0 σ=>by kernel_rfl) rfl rfl
theorem ajX:Sound Tryz.prog aN 285 TP:=q2 [] 19 (.s .n (.s (.s .n (.b (.l [4,8] [.exit 0,.ret] (.s .n (.s cW (.s (.b (.s .n bh)) .n)))))) aV)) WJ Tryz.func285 Tryz.call285 (λa0 a1 σ=>by kernel_rfl) rfl rfl
theorem ajG:Sound Tryz.prog aN 281 PF:=q2 [] 9 (.s .n aV) (Δ ajX WJ) Tryz.func281 Tryz.call281 (λa0 a1 σ=>by kernel_rfl) rfl rfl
theorem akF:Sound Tryz.prog aN 270 Uh:=q3 [3,8,10,14,16] 148 (.s .n (.s bh (.s (.s .n (.b (.l [3,6,23] [.exit 0,.ret] (.s .n (.s cW (.s (.b (.s .n bh)) .n)))))) (.s (.b (.s .n (.j aV (.s .n (.j aV bh))))) (.s (.s .n (.b (.l [3,6,65] [.exit 3,.ret] (.s .n (.s cW (.s (.b (.s .n (.s .n (.b (.l [3,6,10,72] [.exit 5,.ret] (.s .n (.s cW (.s (.b (.s .n bh)) .n)))))))) .n)))))) (.s bh (.s (.s .n (.b (.l [3,6,89] [.exit 7,.ret] (.s .n (.s cW (.s (.b (.s .n (.s (.b (.s .n (.j aV (.s .n (.j aV bh))))) (.s .n (.b (.l [3,6,14,137] [.exit 10,.ret] (.s .n (.s cW (.s (.b (.s .n bh)) .n))))))))) .n)))))) aV))))))) (Δ VI (Δ CN (Δ Qj (Δ aop (Δ ajG WJ))))) Tryz.func270 Tryz.call270 (λa0 a1 a2 σ=>by kernel_rfl) rfl rfl
theorem aj6:Sound Tryz.prog aN 252 TW:=q1 [1,4] 46 (.s .n (.s (.b (.s .n (.j aV (.s .n (.j aV (.s .n (.j aV bh))))))) (.s (.s .n (.b (.l [1,2,29] [.exit 1,.ret] (.s .n (.s cW (.s (.b (.s .n (.s .n bh))) .n)))))) aV))) (Δ VI (Δ CN (Δ akF WJ))) Tryz.func252 Tryz.call252 (λa0 σ=>by kernel_rfl) rfl rfl
theorem aj5:Sound Tryz.prog aN 225 aAV:=q1 [4,7] 38 (.s .n (.s bh (.s (.s .n (.b (.l [2,13] [.exit 0,.ret] (.s .n (.s cW (.s (.b (.s .n (.s (.s .n bh) (.s .n (.b (.l [2,4,27] [.exit 2,.ret] (.s .n (.s cW (.s (.b (.s .n bh)) .n))))))))) .n)))))) aV))) (Δ aj6 WJ) Tryz.func225 Tryz.call225 (λa0 σ=>by kernel_rfl) rfl rfl
theorem Ql:Sound Tryz.prog aN 51 Gg:=q2 [4,7] 21 (.s .n (.s (.s .n (.b (.l [4,5,10] [.exit 0,.ret] (.s .n (.s cW (.s (.b (.s .n bh)) .n)))))) aV)) WJ Tryz.func51 Tryz.call51 (λa0 a1 σ=>by kernel_rfl) rfl rfl
theorem apW:Sound Tryz.prog aN 226 Mo:=q2 [2,3,5] 21 (.s .n (.s .n aV)) (Δ Ql WJ) Tryz.func226 Tryz.call226 (λa0 a1 σ=>by kernel_rfl) rfl rfl
theorem alC:Sound Tryz.prog aN 175 aBt:=q1 [1,5,6,9] 108 (.s .n (.s (.s .n bh) (.s bh (.s (.s .n (.b (.l [1,2,23] [.exit 0,.ret] (.s .n (.s cW (.s (.b (.s .n (.s .n (.s (.b (.s .n (.j aV (.s .n (.j aV (.s .n (.j aV bh))))))) (.s .n (.b (.l [1,2,5,81] [.exit 3,.ret] (.s .n (.s cW (.s (.b (.s .n bh)) .n)))))))))) .n)))))) aV)))) (Δ aj5 (Δ Ql (Δ CN (Δ apW WJ)))) Tryz.func175 Tryz.call175 (λa0 σ=>by kernel_rfl) rfl rfl
theorem abl:Sound Tryz.prog aN 176 Qg:=q1 [] 40 (.s .n (.s bh (.s (.s .n (.b (.l [2,26] [.exit 0,.ret] (.s .n (.s cW (.s (.b (.s .n bh)) .n)))))) aV))) WJ Tryz.func176 Tryz.call176 (λa0 σ=>by kernel_rfl) rfl rfl
theorem apX:Sound Tryz.prog aN 50 aCs:=q2 [2,6] 21 (.s .n (.s (.s .n (.b (.l [4,10] [.exit 0,.ret] (.s .n (.s cW (.s (.b (.s .n bh)) .n)))))) aV)) WJ Tryz.func50 Tryz.call50 (λa0 a1 σ=>by kernel_rfl) rfl rfl
theorem aoo:Sound Tryz.prog aN 52 adr:=q2 [2,4,7] 22 (.s .n (.s (.s .n (.b (.l [4,5,11] [.exit 0,.ret] (.s .n (.s cW (.s (.b (.s .n bh)) .n)))))) aV)) WJ Tryz.func52 Tryz.call52 (λa0 a1 σ=>by kernel_rfl) rfl rfl
theorem Qk:Sound Tryz.prog aN 15 I6:=q2 [2,3,4,7] 34 (.s .n (.s .n (.s bh (.s .n aV)))) (Δ apX (Δ Ql (Δ aoo WJ))) Tryz.func15 Tryz.call15 (λa0 a1 σ=>by kernel_rfl) rfl rfl
theorem VJ:Sound Tryz.prog aN 84 L3:=q2 [2,3] 24 (.s .n aV) WJ Tryz.func84 Tryz.call84 (λa0 a1 σ=>by kernel_rfl) rfl rfl
theorem aj7:Sound Tryz.prog aN 122 TX:=q2 [2,7,9,10] 99 (.s .n (.s (.s .n bh) (.s bh (.s (.s .n (.b (.l [2,4,22] [.exit 0,.ret] (.s .n (.s cW (.s (.b (.s .n (.s (.b (.s .n (.j aV (.s .n (.j aV (.s .n (.j aV bh))))))) (.s .n (.b (.l [2,4,7,64] [.exit 3,.ret] (.s .n (.s cW (.s (.b (.s .n (.s (.s .n bh) (.s bh bh)))) .n))))))))) .n)))))) aV)))) (Δ alC (Δ CN (Δ abl (Δ Qk (Δ Qj (Δ VJ WJ)))))) Tryz.func122 Tryz.call122 (λa0 a1 σ=>by kernel_rfl) rfl rfl
theorem abT:Sound Tryz.prog aN 129 ED:=q1 [] 5 (.s .n aV) (Δ CN WJ) Tryz.func129 Tryz.call129 (λa0 σ=>by kernel_rfl) rfl rfl
end
section
theorem akE:Sound Tryz.prog aN 177 Ug:=q1 [1,4] 108 (.s .n (.s (.b (.s .n (.j aV (.s .n (.j aV (.s .n (.j aV (.s .n (.j aV bh))))))))) (.s (.s .n (.b (.l [1,2,38] [.exit 1,.ret] (.s .n (.s cW (.s (.b (.s .n bh)) .n)))))) (.s bh (.s (.s .n (.b (.l [1,2,5] [.exit 3,.ret] (.s (.s .n cW) (.s (.b bh) .n))))) aV))))) (Δ CN WJ) Tryz.func177 Tryz.call177 (λa0 σ=>by kernel_rfl) rfl rfl
theorem alc:Sound Tryz.prog aN 227 aCC:=q2 [2] 93 (.s .n (.s (.b (.s .n (.j aV (.s .n (.j aV (.s .n (.j aV (.s .n (.j aV (.s .n (.j aV (.s .n (.j aV bh))))))))))))) aV)) (Δ CN (Δ VI (Δ Qj (Δ abT (Δ VJ WJ))))) Tryz.func227 Tryz.call227 (λa0 a1 σ=>by kernel_rfl) rfl rfl
theorem akG:Sound Tryz.prog aN 178 Ui:=q1 [4] 25 (.s .n (.s bh (.s (.s .n (.b (.l [2,11] [.exit 0,.ret] (.s .n (.s cW (.s (.b (.s .n (.s .n bh))) .n)))))) aV))) (Δ alc WJ) Tryz.func178 Tryz.call178 (λa0 σ=>by kernel_rfl) rfl rfl
theorem ala:Sound Tryz.prog aN 123 Uw:=q1 [5] 96 (.s .n (.s bh (.s .n (.s (.s .n (.b (.l [2,3,13] [.exit 0,.ret] (.s .n (.s cW (.s (.b (.s .n (.s (.b (.s .n (.j aV (.s .n (.j aV (.s .n (.j aV bh))))))) (.s (.s .n bh) (.s (.s .n bh) .n))))) .n)))))) (.s bh aV))))) (Δ CN (Δ abl (Δ abT (Δ akE (Δ akG WJ))))) Tryz.func123 Tryz.call123 (λa0 σ=>by kernel_rfl) rfl rfl
theorem alD:Sound Tryz.prog aN 179 UO:=q2 [4,7] 21 (.s .n (.s (.s .n (.b (.l [4,5,10] [.exit 0,.ret] (.s .n (.s cW (.s (.b (.s .n bh)) .n)))))) aV)) WJ Tryz.func179 Tryz.call179 (λa0 a1 σ=>by kernel_rfl) rfl rfl
theorem acI:Sound Tryz.prog aN 124 QF:=q3 [4,5,8,11] 55 (.s .n (.s (.b (.s .n (.j aV (.s .n (.j aV bh))))) (.s .n (.s bh (.s (.s .n (.b (.l [4,6,7,44] [.exit 1,.ret] (.s .n (.s cW (.s (.b (.s .n bh)) .n)))))) aV))))) (Δ Qj (Δ alD WJ)) Tryz.func124 Tryz.call124 (λa0 a1 a2 σ=>by kernel_rfl) rfl rfl
theorem alb:Sound Tryz.prog aN 65 Ux:=q3 [3,10,12,13] 64 (.s .n (.s (.s .n bh) (.s (.s .n bh) (.s (.s .n (.b (.l [3,6,30] [.exit 0,.ret] (.s .n (.s cW (.s (.b (.s .n (.s .n (.b (.l [3,6,37] [.exit 2,.ret] (.s .n (.s cW (.s (.b (.s .n (.s (.s .n bh) (.s .n bh)))) .n)))))))) .n)))))) aV)))) (Δ aj7 (Δ ala (Δ Qk (Δ acI WJ)))) Tryz.func65 Tryz.call65 (λa0 a1 a2 σ=>by kernel_rfl) rfl rfl
theorem atw:Sound Tryz.prog aN 66 aCc:=q2 [6] 20 (.s .n (.s (.s .n (.b (.l [4,9] [.exit 0,.ret] (.s .n (.s cW (.s (.b (.s .n bh)) .n)))))) aV)) WJ Tryz.func66 Tryz.call66 (λa0 a1 σ=>by kernel_rfl) rfl rfl
def ajk:Fx:=⟨Tryz.prog,aN,Zw (λ_ _=>μ) [],(λ_ _ _=>μ),[],[],8,[]⟩
theorem ajg:Sound Tryz.prog aN 180 (Ω θ [(.s 5)] .k (YR (Tt))):=
 Zr (Vt (X:=ajk) (fn:=Tryz.f180) (dg:=(.s .n (.s bh aV))) .K trivial (WH rfl WJ (λ_=>TI)) Tryz.func180 Tryz.call180 (λa0 σ=>by kernel_rfl)) _ _ _ rfl rfl
theorem ajd:Sound Tryz.prog aN 180 PC:=BH ajg Tryz.call180 aqt
theorem acJ:Sound Tryz.prog aN 126 Jl:=q2 [3] 36 (.s .n (.s .n (.s (.b (.l [3,6] [.exit 0] (.s (.s .n cW) (.b .n)))) aV))) (Δ VJ WJ) Tryz.func126 Tryz.call126 (λa0 a1 σ=>by kernel_rfl) rfl rfl
def ai8:Fx:=⟨Tryz.prog,aN,Zw (λ_ _=>μ) [],(λ_ _ _=>μ),[],[],33,[]⟩
theorem ai5:Sound Tryz.prog aN 181 (Ω ι [] .k (X5 (PA))):=
 Zr (aDG (X:=ai8) (fn:=Tryz.f181) (dg:=(.s .n (.s .n (.s bh (.s .n (.s .n (.s .n aV))))))) .R trivial (WH rfl WJ (λ_=>TI)) Tryz.func181 Tryz.call181 (λa0 a1 a2 σ=>by kernel_rfl)) _ _ _ rfl rfl
theorem ai2:Sound Tryz.prog aN 181 IA:=ai5
def ai0:Fx:=⟨Tryz.prog,aN,Zw (λ_ _=>μ) [],(λ_ _ _=>μ),[],[],28,[]⟩
theorem aiX:Sound Tryz.prog aN 272 (Ω ι [] .k (YR (aae))):=
 Zr (Vt (X:=ai0) (fn:=Tryz.f272) (dg:=(.s .n (.b (.l [2,3] [.exit 0] (.s (.s .n cW) (.s (.b .n) .n)))))) .K trivial (WH rfl WJ (λ_=>TI)) Tryz.func272 Tryz.call272 (λa0 σ=>by kernel_rfl)) _ _ _ rfl rfl
theorem aiU:Sound Tryz.prog aN 272 Lk:=aiX
def aiH:Fx:=⟨Tryz.prog,aN,Zw (λ_ _=>μ) [(272,Lk)],(λ_ _ _=>μ),[],[],14,[]⟩
theorem aiF:Sound Tryz.prog aN 254 (Ω ι [] .k (Xw (aac))):=
 Zr (Zb (X:=aiH) (fn:=Tryz.f254) (dg:=(.s .n aV)) .K trivial (WH rfl (Δ aiU WJ) (λ_=>TI)) Tryz.func254 Tryz.call254 (λa0 a1 σ=>by kernel_rfl)) _ _ _ rfl rfl
theorem aiD:Sound Tryz.prog aN 254 Tm:=aiF
def aiB:Fx:=⟨Tryz.prog,aN,Zw (λ_ _=>μ) [(254,Tm)],(λ_ _ _=>μ),[],[],10,[]⟩
theorem aiz:Sound Tryz.prog aN 229 (Ω ι [] .k (Xw (aab))):=
 Zr (Zb (X:=aiB) (fn:=Tryz.f229) (dg:=.n) .K trivial (WH rfl (Δ aiD WJ) (λ_=>TI)) Tryz.func229 Tryz.call229 (λa0 a1 σ=>by kernel_rfl)) _ _ _ rfl rfl
theorem aix:Sound Tryz.prog aN 229 Lh:=aiz
def ai9:Fx:=⟨Tryz.prog,aN,Zw (λ_ _=>μ) [(228,BD),(229,Lh)],(λ_ _ _=>μ),[],[],95,[]⟩
theorem ai6:Sound Tryz.prog aN 182 (Ω ι [] .k (X5 (PB))):=
 Zr (aDG (X:=ai9) (fn:=Tryz.f182) (dg:=(.s .n (.s .n (.s .n (.s bh (.s .n (.s bh (.s (.s .n (.j (.s .n (.s .n (.s .n aV))) .n)) (.s .n (.s (.s .n (.j (.s .n (.s .n aV)) .n)) (.s .n (.s .n aV)))))))))))) .R trivial (WH rfl (Δ aiI (Δ aix WJ)) (λ_=>TI)) Tryz.func182 Tryz.call182 (λa0 a1 a2 σ=>by kernel_rfl)) _ _ _ rfl rfl
theorem ai3:Sound Tryz.prog aN 182 Ll:=ai6
def aoM:Fx:=⟨Tryz.prog,aN,Zw (λ_ _=>μ) [(180,PC),(126,Jl),(181,IA),(182,Ll)],(λ_ _ _=>μ),[3,7],[],48,[]⟩
theorem aoK:Sound Tryz.prog aN 127 (Ω θ [(.s 5),(.a nC)] .k (Xw (QL))):=
 Zr (Zb (X:=aoM) (fn:=Tryz.f127) (dg:=(.s .n (.s .n (.s (.s .n (.b (.l [3,5,15] [.exit 0] (.s .n (.s cW (.s (.b (.s .n (.s .n (.s (.s .n (.c [3,5,7] .n .n)) (.s .n (.c [3,5] .n .n)))))) .n)))))) aV)))) .K trivial (WH rfl (Δ ajd (Δ acJ (Δ ai2 (Δ ai3 WJ)))) (λ_=>TI)) Tryz.func127 Tryz.call127 (λa0 a1 σ=>by kernel_rfl)) _ _ _ rfl rfl
theorem aoq:Sound Tryz.prog aN 127 Md:=aoK
def ano:Fx:=⟨Tryz.prog,aN,Zw (λ_ _=>μ) [(127,Md)],(λ_ _ _=>μ),[7],[],21,[]⟩
theorem anj:Sound Tryz.prog aN 68 (Ω θ [(.e 11 nC)] .k (Xw (Qt))):=
 Zr (Zb (X:=ano) (fn:=Tryz.f68) (dg:=(.s .n (.s .n (.s (.s .n (.b (.l [5,12] [.exit 0] (.s .n (.s cW (.s (.b aV) .n)))))) aV)))) .K trivial (WH rfl (Δ aoq WJ) (λ_=>TI)) Tryz.func68 Tryz.call68 (λa0 a1 σ=>by kernel_rfl)) _ _ _ rfl rfl
theorem am3:Sound Tryz.prog aN 68 Qp:=anj
theorem am2:Sound Tryz.prog aN 125 Vo:=q1 [1,5,6,9] 43 (.s .n (.s .n (.s (.s .n (.b (.l [1,3,13] [.exit 0] (.s .n (.s cW (.s (.b (.s .n (.s .n (.s .n (.b (.l [1,3,5,28] [.exit 2] (.s .n (.s cW (.s (.b aV) .n))))))))) .n)))))) aV))) (Δ Ql WJ) Tryz.func125 Tryz.call125 (λa0 σ=>by kernel_rfl) rfl rfl
theorem am5:Sound Tryz.prog aN 67 Qq:=q3 [3,9,10] 56 (.s .n (.s .n (.s (.s .n (.b (.l [3,7,18] [.exit 0] (.s .n (.s cW (.s (.b (.s .n (.s .n (.s .n (.s (.s .n (.s .n (.c [3,9,12] .n .n))) .n))))) .n)))))) aV))) (Δ am2 (Δ Qk (Δ acJ (Δ acI WJ)))) Tryz.func67 Tryz.call67 (λa0 a1 a2 σ=>by kernel_rfl) rfl rfl
theorem am4:Sound Tryz.prog aN 21 aBX:=q4 [4] 31 (.s .n (.s (.s .n bh) (.s .n (.s bh aV)))) (Δ alb (Δ atw (Δ (aCV am3 (.s 5) rfl) (Δ am5 WJ)))) Tryz.func21 Tryz.call21 (λa0 a1 a2 a3 σ=>by kernel_rfl) rfl rfl
theorem am7:Sound Tryz.prog aN 22 abL:=q2 [2,3,6] 21 (.s .n (.s (.s .n (.b (.l [3,4,10] [.exit 0,.ret] (.s .n (.s cW (.s (.b (.s .n bh)) .n)))))) aV)) WJ Tryz.func22 Tryz.call22 (λa0 a1 σ=>by kernel_rfl) rfl rfl
theorem ajE:Sound Tryz.prog aN 7 aak:=q2 [2,7,9,14,15] 131 (.s .n (.s bh (.s .n (.s .n (.s bh (.s bh (.s .n (.s bh (.s .n (.s .n (.s .n (.s bh (.s (.s .n (.b (.l [2,4,7,99] [.exit 0,.ret] (.s .n (.s cW (.s (.b (.s .n (.s .n bh))) .n)))))) aV))))))))))))) (Δ aou (Δ alf (Δ ajJ (Δ ajW (Δ am6 (Δ am4 (Δ Qk (Δ am7 WJ)))))))) Tryz.func7 Tryz.call7 (λa0 a1 σ=>by kernel_rfl) rfl rfl
end
def qI{κ ν:Type}(eK:κ->AV)(eV:ν->AV):Option (List (κ×ν))->AV
 |none=>.nm
 |some l=>yS eK eV l
theorem asz{κ ν:Type}{eK:κ->AV}{eV:ν->AV}(hk:∀k,Fz (eK k))(hv:∀v,Fz (eV v))(l:List (κ×ν)):Fz (yS eK eV l):=by
 intro σ n d
 have:A.uF σ n d (l.map λp=>(eK p.1,eV p.2))=δ (l.map λp=>(eK p.1,eV p.2)):=by
  induction l with
  |nil=>simp [A.uF]
  |cons x l ih=>simp [A.uF,hk x.1 σ n d,hv x.2 σ n d,ih]
 cases d<;>simp [X4,yS,this]
theorem avh:Fz .nm:=λ_ _ d=>by cases d<;>simp [X4]
theorem auc{κ ν:Type}{eK:κ->AV}{eV:ν->AV}(hk:∀k,Fz (eK k))(hv:∀v,Fz (eV v))(o:Option (List (κ×ν))):Fz (qI eK eV o):=by
 cases o with
 |none=>exact avh
 |some l=>exact asz hk hv l
structure C5 where
 shown:Int
 since:Int
 jV:Bool
def yq(x:C5):aq:=[.ah x.shown,.ah x.since,.bool x.jV]
theorem abP(x:C5):Γ 0 (yq x)=δ (.ah x.shown):=rfl
theorem amM(x:C5):Γ 1 (yq x)=δ (.ah x.since):=rfl
theorem amN(x:C5):Γ 2 (yq x)=δ (.bool x.jV):=rfl
theorem aAS(x:C5):ψ 3 (.agg (yq x))=δ (yq x):=rfl
structure dU where
 gJ:jI
 nN:Int
 ending:Bool
def gI(x:dU):aq:=[.ah x.gJ.fC,.ah x.gJ.to,.ah x.gJ.start,.ah x.gJ.cB,.ah x.gJ.time,.ah x.gJ.fM.kind,sl 2 iF x.gJ.fM.br,.ah x.nN,.bool x.ending]
theorem ao2(x:dU):(gI x).length=9:=rfl
theorem an6(x:dU):Γ 1 (gI x)=δ (.ah x.gJ.to):=rfl
theorem an7(x:dU):Γ 2 (gI x)=δ (.ah x.gJ.start):=rfl
theorem an8(x:dU):Γ 3 (gI x)=δ (.ah x.gJ.cB):=rfl
theorem an9(x:dU):Γ 4 (gI x)=δ (.ah x.gJ.time):=rfl
theorem aoa(x:dU):Γ 6 (gI x)=δ (sl 2 iF x.gJ.fM.br):=rfl
theorem Jn(x:dU):Γ 7 (gI x)=δ (.ah x.nN):=rfl
theorem Mf(x:dU):Γ 8 (gI x)=δ (.bool x.ending):=rfl
theorem aa4(x:dU):VU 0 7 (gI x)=δ (.agg (iK x.gJ)):=rfl
theorem zo(x:dU):VU 0 9 (gI x)=δ (.agg (gI x)):=rfl
theorem Ax(x:dU):ψ 9 (.agg (gI x))=δ (gI x):=rfl
theorem CW(x:dU)(l:aq)(h:l.length=9):ir 0 (gI x) l=δ (gI x):=by simp [ir,ao2,h]
theorem aer(x:dU):kF (gI x):=(cE (eE _ _) (cE (eE _ _) (cE (eE _ _) (cE (eE _ _) (cE (eE _ _) (cE (eE _ _) (cE (sk Mm _) (cE (eE _ _) (cE (BY _) pJ)))))))))
structure bz where
 aK:C5
 az:Int
 kD:Int
 bH:(List bA)
 cK:Int
 jc:Int
 eM:Int
 runs:(Option (List (aC×dU)))
def aU(x:bz):aq:=[.ah x.aK.shown,.ah x.aK.since,.bool x.aK.jV,.ah x.az,.ah x.kD,sl 11 bg x.bH,.ah x.cK,.ah x.jc,.ah x.eM,qI (λx=>Φ (aS x)) (λx=>Φ (gI x)) x.runs]
theorem anB(x:bz):(aU x).length=10:=rfl
theorem abO(x:bz):Γ 3 (aU x)=δ (.ah x.az):=rfl
theorem aA2(x:bz):VU 0 10 (aU x)=δ (.agg (aU x)):=rfl
theorem QT(x:bz):ψ 10 (.agg (aU x))=δ (aU x):=rfl
theorem ap0(x:bz)(l:aq)(h:l.length=10):ir 0 (aU x) l=δ (aU x):=by simp [ir,anB,h]
theorem BP(x:bz):kF (aU x):=(cE (eE _ _) (cE (eE _ _) (cE (BY _) (cE (eE _ _) (cE (eE _ _) (cE (sk JP _) (cE (eE _ _) (cE (eE _ _) (cE (eE _ _) (cE (auc (λx=>wq (AG x)) (λx=>wq (aer x)) _) pJ))))))))))
theorem amr(x:bz){σ:Heap}:((χ (.rp ((aU x).drop 1)) σ).bind λc=>Γ 0 c)=δ (.ah x.aK.since):=rfl
theorem ams(x:bz){σ:Heap}:((χ (.rp ((aU x).drop 2)) σ).bind λc=>Γ 0 c)=δ (.bool x.aK.jV):=rfl
theorem Qn(x:bz){σ:Heap}:((χ (.rp ((aU x).drop 3)) σ).bind λc=>Γ 0 c)=δ (.ah x.az):=rfl
theorem L2(x:bz){σ:Heap}:((χ (.rp ((aU x).drop 4)) σ).bind λc=>Γ 0 c)=δ (.ah x.kD):=rfl
theorem amt(x:bz){σ:Heap}:((χ (.rp ((aU x).drop 7)) σ).bind λc=>Γ 0 c)=δ (.ah x.jc):=rfl
theorem abA(x:bz){σ:Heap}:((χ (.rp ((aU x).drop 8)) σ).bind λc=>Γ 0 c)=δ (.ah x.eM):=rfl
theorem Jb(x:bz){σ:Heap}:((χ (.rp ((aU x).drop 9)) σ).bind λc=>Γ 0 c)=δ (qI (λx=>Φ (aS x)) (λx=>Φ (gI x)) x.runs):=(by unfold aU;cases x.runs<;>rfl)
structure dH where
 aH:(List bz)
 az:Int
 oG:Int
 black:Bool
def wo(x:dH):aq:=[sl 10 aU x.aH,.ah x.az,.ah x.oG,.bool x.black]
theorem abD(x:dH){σ:Heap}:((χ (.rp ((wo x).drop 0)) σ).bind λc=>Γ 0 c)=δ (sl 10 aU x.aH):=rfl
theorem amu(x:dH){σ:Heap}:((χ (.rp ((wo x).drop 2)) σ).bind λc=>Γ 0 c)=δ (.ah x.oG):=rfl
theorem amv(x:dH){σ:Heap}:((χ (.rp ((wo x).drop 3)) σ).bind λc=>Γ 0 c)=δ (.bool x.black):=rfl
structure cr where
 state:dH
 setup:i7
 keys:(List aC)
 params:(Option (List (aC×ey)))
 eu:(List iE)
def vu(x:cr):aq:=[sl 10 aU x.state.aH,.ah x.state.az,.ah x.state.oG,.bool x.state.black,sl 3 cz x.setup.bk.bf,sl 4 dh x.setup.bk.cV,sl 3 dX x.setup.bn,sl 2 fc x.setup.dJ,sl 3 dA x.setup.bM,sl 2 aS x.keys,qI (λx=>Φ (aS x)) (λx=>Φ (cG x)) x.params,sl 5 dR x.eu]
theorem abB(x:cr){σ:Heap}:((χ (.rp ((vu x).drop 10)) σ).bind λc=>Γ 0 c)=δ (qI (λx=>Φ (aS x)) (λx=>Φ (cG x)) x.params):=(by unfold vu;cases x.params<;>rfl)
theorem abC(x:cr){σ:Heap}:((χ (.rp ((vu x).drop 11)) σ).bind λc=>Γ 0 c)=δ (sl 5 dR x.eu):=rfl
section
open HP
def wd(n:Nat):aq:=[.int .u64 ((n / 18446744073709551616:Nat):Int),.int .u64 ((n % 18446744073709551616:Nat):Int)]
theorem SK{n:Nat}(h:n<18446744073709551616):aDL.wrap (n:Int)=(n:Int):=by rw[IntKind.wrap_u64];omega
theorem RT{r:AV->AV->Heap->aF}{x y v:AV}{σ:Heap}(h:[x,y].any A.own=ι)(e:r x y σ=δ (v,σ)):Ω θ [] .k (Xw r) [x,y] σ=δ (v,σ):=by refine wrap_eq h ?_ (jr _);rw[show TQ [] [x,y]=[x,y] by simp [TQ]];exact e
theorem Co{n:Nat}(h:n<9223372036854775808)(σ:Heap):tg [.ah (n:Int)] σ=δ (.agg (wd n),σ):=by
 refine wrap_eq rfl ?_ (jr _);show aAa (.ah (n:Int)) σ=_;unfold aAa;rw[show A.conv .u64 (.ah (n:Int))=δ (.int .u64 (aDL.wrap (n:Int)))from rfl,bS,SK (by omega)]
 have e:wd n=[.int .u64 0,.int .u64 (n:Int)]:=by unfold wd;rw[Nat.div_eq_of_lt (by omega),Nat.mod_eq_of_lt (by omega)];rfl
 rw[e];exact bD _ _
theorem as3{x y:Nat}(hx:x<18446744073709551616)(hy:y<18446744073709551616)(σ:Heap):LW [.int .u64 (x:Int),.int .u64 (y:Int)] σ=δ (.aM [.int .u64 ((x*y / 18446744073709551616:Nat):Int),.int .u64 ((x*y % 18446744073709551616:Nat):Int)],σ):=by
 have h:0<=(x:Int)/\(x:Int)<18446744073709551616/\0<=(y:Int)/\(y:Int)<18446744073709551616:=by omega
 have e:∀(a b:Int),LW [.int .u64 a,.int .u64 b] σ=if 0<=a/\a<18446744073709551616/\0<=b/\b<18446744073709551616 then δ (.aM [.int .u64 ((a.toNat*b.toNat / 18446744073709551616:Nat):Int),.int .u64 ((a.toNat*b.toNat % 18446744073709551616:Nat):Int)],σ)else μ:=λa b=>rfl
 rw[e,aP h,TS,TS]
theorem ae7{x y c:Nat}(hx:x<18446744073709551616)(hy:y<18446744073709551616)(hc:c<=1)(σ:Heap):I7 [.int .u64 (x:Int),.int .u64 (y:Int),.int .u64 (c:Int)] σ=δ (.aM [.int .u64 (((x+y+c) % 18446744073709551616:Nat):Int),.int .u64 (((x+y+c) / 18446744073709551616:Nat):Int)],σ):=by
 have h:0<=(x:Int)/\(x:Int)<18446744073709551616/\0<=(y:Int)/\(y:Int)<18446744073709551616/\0<=(c:Int)/\(c:Int)<=1:=by omega
 have e:∀(a b d:Int),I7 [.int .u64 a,.int .u64 b,.int .u64 d] σ=if 0<=a/\a<18446744073709551616/\0<=b/\b<18446744073709551616/\0<=d/\d<=1 then δ (.aM [.int .u64 (((a.toNat+b.toNat+d.toNat) % 18446744073709551616:Nat):Int),.int .u64 (((a.toNat+b.toNat+d.toNat) / 18446744073709551616:Nat):Int)],σ)else μ:=λa b d=>rfl
 rw[e,aP h,TS,TS,TS]
theorem AI{a n:Nat}(h:a*n<340282366920938463463374607431768211456)(ha:a<340282366920938463463374607431768211456)(hn:n<9223372036854775808)(σ:Heap):vi [.agg (wd a),.ah (n:Int)] σ=δ (.agg (wd (a*n)),σ):=by
 have e0:aAd (.agg (wd a)) (.ah (n:Int)) σ=δ (.agg (wd (a*n)),σ)->vi [.agg (wd a),.ah (n:Int)] σ=δ (.agg (wd (a*n)),σ):=λq=>RT rfl q
 refine e0 ?_;unfold aAd;have hlo:a % 18446744073709551616<18446744073709551616:=Nat.mod_lt _ (by decide)
 have e1:a*n=(a / 18446744073709551616*n)*18446744073709551616+a % 18446744073709551616*n:=by have q:=Nat.div_add_mod a 18446744073709551616;generalize a / 18446744073709551616=hi at q;generalize a % 18446744073709551616=lo at q;subst q;rw[iG,ZM,ZF]
 generalize hp:a / 18446744073709551616*n=p at e1;generalize hq:a % 18446744073709551616*n=q at e1;have hhi:p+q / 18446744073709551616<18446744073709551616:=by omega
 have hd:(a*n) / 18446744073709551616=p+q / 18446744073709551616:=by omega
 have hm:(a*n) % 18446744073709551616=q % 18446744073709551616:=by omega
 rw[show ψ 2 (.agg (wd a))=δ (wd a)from rfl,bS,show Γ 1 (wd a)=δ (.int .u64 ((a % 18446744073709551616:Nat):Int))from rfl,bS,show A.conv .u64 (.ah (n:Int))=δ (.int .u64 (aDL.wrap (n:Int)))from rfl,bS,SK (by omega),as3 hlo (by omega),bS,lV,bS,ext1,bS,show Γ 0 (wd a)=δ (.int .u64 ((a / 18446744073709551616:Nat):Int))from rfl,bS,bS];rw[show Tu (.int .u64 ((a / 18446744073709551616:Nat):Int)) (.int .u64 (n:Int))=δ (.int .u64 (aDL.wrap (((a / 18446744073709551616:Nat):Int)*(n:Int))))from rfl,bS,<-aDX,hp,hq,SK (by omega)];rw[show WE (.int .u64 (p:Int)) (.int .u64 ((q / 18446744073709551616:Nat):Int))=δ (.int .u64 (aDL.wrap ((p:Int)+((q / 18446744073709551616:Nat):Int))))from rfl,bS,<-Int.natCast_add,SK hhi];have e:wd (a*n)=[.int .u64 ((p+q / 18446744073709551616:Nat):Int),.int .u64 ((q % 18446744073709551616:Nat):Int)]:=by unfold wd;rw[hd,hm]
 rw[e];exact bD _ _
theorem auE{a b:Nat}(h:a+b<340282366920938463463374607431768211456)(σ:Heap):PV [.agg (wd a),.agg (wd b)] σ=δ (.agg (wd (a+b)),σ):=by
 have e0:T7 (.agg (wd a)) (.agg (wd b)) σ=δ (.agg (wd (a+b)),σ)->PV [.agg (wd a),.agg (wd b)] σ=δ (.agg (wd (a+b)),σ):=λq=>RT rfl q
 refine e0 ?_;unfold T7;have ha:a % 18446744073709551616<18446744073709551616:=Nat.mod_lt _ (by decide);have hb:b % 18446744073709551616<18446744073709551616:=Nat.mod_lt _ (by decide);rw[show ψ 2 (.agg (wd a))=δ (wd a)from rfl,bS,show ψ 2 (.agg (wd b))=δ (wd b)from rfl,bS,show Γ 1 (wd a)=δ (.int .u64 ((a % 18446744073709551616:Nat):Int))from rfl,bS,show Γ 1 (wd b)=δ (.int .u64 ((b % 18446744073709551616:Nat):Int))from rfl,bS];have e0:=ae7 ha hb (c:=0) (by omega) σ;rw[show((0:Nat):Int)=0 from rfl]at e0;rw[e0,bS,lV,bS,ext1,bS,show Γ 0 (wd a)=δ (.int .u64 ((a / 18446744073709551616:Nat):Int))from rfl,bS,show Γ 0 (wd b)=δ (.int .u64 ((b / 18446744073709551616:Nat):Int))from rfl,bS];simp only;rw[ae7 (by omega) (by omega) (by omega),bS,lV,bS,ext1,bS]
 have e:wd (a+b)=[.int .u64 (((a / 18446744073709551616+b / 18446744073709551616+(a % 18446744073709551616+b % 18446744073709551616+0) / 18446744073709551616) % 18446744073709551616:Nat):Int),.int .u64 (((a % 18446744073709551616+b % 18446744073709551616+0) % 18446744073709551616:Nat):Int)]:=by
  have d1:(a+b) / 18446744073709551616=(a / 18446744073709551616+b / 18446744073709551616+(a % 18446744073709551616+b % 18446744073709551616+0) / 18446744073709551616) % 18446744073709551616:=by omega
  have d2:(a+b) % 18446744073709551616=(a % 18446744073709551616+b % 18446744073709551616+0) % 18446744073709551616:=by omega
  unfold wd;rw[d1,d2]
 rw[e];exact bD _ _
theorem ags(a b:Nat)(σ:Heap):IG [.agg (wd a),.agg (wd b)] σ=δ (.bool (decide (a<b)),σ):=by
 refine wrap_eq rfl ?_ (jr _);show ar5 (.agg (wd a)) (.agg (wd b)) σ=_;unfold ar5
 rw[show ψ 2 (.agg (wd a))=δ (wd a)from rfl,bS,show ψ 2 (.agg (wd b))=δ (wd b)from rfl,bS,show Γ 0 (wd a)=δ (.int .u64 ((a / 18446744073709551616:Nat):Int))from rfl,bS,show Γ 0 (wd b)=δ (.int .u64 ((b / 18446744073709551616:Nat):Int))from rfl,bS,
  show YY (.int .u64 ((a / 18446744073709551616:Nat):Int)) (.int .u64 ((b / 18446744073709551616:Nat):Int))=δ (.bool (decide (((a / 18446744073709551616:Nat):Int)<((b / 18446744073709551616:Nat):Int))))from rfl,bS]
 by_cases h1:a / 18446744073709551616<b / 18446744073709551616
 ·rw[cL (show((a / 18446744073709551616:Nat):Int)<((b / 18446744073709551616:Nat):Int) by omega)];rw[cL (show a<b by omega)];exact bD _ _
 rw[cO (show ¬((a / 18446744073709551616:Nat):Int)<((b / 18446744073709551616:Nat):Int) by omega)]
 have hq:ZA .i (.int .u64 ((a / 18446744073709551616:Nat):Int)) (.int .u64 ((b / 18446744073709551616:Nat):Int))=δ (.bool (decide (((a / 18446744073709551616:Nat):Int)=((b / 18446744073709551616:Nat):Int)))):=by simp only[ZA,WN,A.qH,if_true,cR];congr 2
 simp only[gF,bS];rw[hq];by_cases h2:a / 18446744073709551616=b / 18446744073709551616
 ·rw[cL (show((a / 18446744073709551616:Nat):Int)=((b / 18446744073709551616:Nat):Int) by omega)];simp only[gT,bS];rw[show Γ 1 (wd a)=δ (.int .u64 ((a % 18446744073709551616:Nat):Int))from rfl,bS,show Γ 1 (wd b)=δ (.int .u64 ((b % 18446744073709551616:Nat):Int))from rfl,bS,show YY (.int .u64 ((a % 18446744073709551616:Nat):Int)) (.int .u64 ((b % 18446744073709551616:Nat):Int))=δ (.bool (decide (((a % 18446744073709551616:Nat):Int)<((b % 18446744073709551616:Nat):Int))))from rfl,bS];rw[show decide (((a % 18446744073709551616:Nat):Int)<((b % 18446744073709551616:Nat):Int))=decide (a<b)from decide_eq_decide.2 (by omega)];exact bD _ _
 ·rw[cO (show ¬((a / 18446744073709551616:Nat):Int)=((b / 18446744073709551616:Nat):Int) by omega)];simp only[xP,bS];rw[cO (show ¬a<b by omega)];exact bD _ _
end
section
open HP
theorem atM{r:AV->AV->AV->AV->Heap->aF}{x y z t v:AV}{σ:Heap}(h:[x,y,z,t].any A.own=ι)(e:r x y z t σ=δ (v,σ)):Ω θ [] .k (A.yM r) [x,y,z,t] σ=δ (v,σ):=by refine wrap_eq h ?_ (jr _);rw[show TQ [] [x,y,z,t]=[x,y,z,t] by simp [TQ]];exact e
theorem EI{a b:Nat}(h:a+b<9223372036854775808):WE (.ah (a:Int)) (.ah (b:Int))=δ (.ah ((a+b:Nat):Int)):=by rw[nQ,<-Int.natCast_add,cq (by unfold aY;omega)]
theorem apB{a b:Nat}(h:a*b<9223372036854775808):Tu (.ah (a:Int)) (.ah (b:Int))=δ (.ah ((a*b:Nat):Int)):=by rw[AW,<-aDX,cq (by unfold aY;omega)]
theorem Wn{a b:Nat}(h:b<=a)(h2:a<9223372036854775808):Uk (.ah (a:Int)) (.ah (b:Int))=δ (.ah ((a-b:Nat):Int)):=by rw[tP,cq (by unfold aY;omega)];congr 2;omega
theorem afx{a:Nat}(h:a<9223372036854775808):A.quo (.ah (a:Int)) (.ah 2)=δ (.ah ((a / 2:Nat):Int)):=by rw[ahC _ _ (by decide),show((a:Int)).tdiv 2=((a / 2:Nat):Int)from by rw[aD9 (by omega)];omega,cq (by unfold aY;omega)]
def Hv(a b:Int)(n d:Nat):Int:=if a<=b then a+((2*(b-a).toNat*n+d) / (2*d):Nat)else a-((2*(a-b).toNat*n+d-1) / (2*d):Nat)
theorem rY(n:Nat):ψ 2 (.agg (wd n))=δ (wd n):=rfl
theorem rC(n:Nat):VU 0 2 (wd n)=δ (.agg (wd n)):=rfl
theorem uq(n:Nat):ir 0 (wd n) [(Wz .u64 0),(Wz .u64 0)]=δ (wd n):=rfl
theorem Sq(n:Nat):((Tv (.lbx (wd n))).bind λc=>VU 0 2 c)=δ (.agg (wd n)):=rfl
theorem ani(k:Nat):Tu (.ah 2) (.ah (k:Int))=δ (.ah (ξ.wrap (2*(k:Int)))):=rfl
theorem Jw{k:Nat}(h:k<4611686018427387904):Tu (.ah 2) (.ah (k:Int))=δ (.ah ((2*k:Nat):Int)):=by rw[ani,cq (by unfold aY;omega)];congr 2
theorem atG{d X K m:Nat}(hd:0<d)(hd2:d<100000000000000000000000000)(hm2:m<=65535)(hX:X<=200000*d)(hK:K<=m)(hle:∀k:Nat,k<=K↔d*(2*k)<=X)(σ:Heap):∃q,Y7 ((λv12 wY=>
    (YY (aj v12 2) (aj v12 3)).bind λcN=>
    φ cN (
     (WE (aj v12 2) (aj v12 3)).bind λbO=>
     (WE bO (ε 1)).bind λcg=>
     (A.quo cg (ε 2)).bind λcQ=>
     ((Tv (aj v12 1)).bind λiz=>VU 0 2 iz).bind λcS=>
     ((Tv (aj v12 0)).bind λij=>VU 0 2 ij).bind λcI=>
     (Tu (ε 2) cQ).bind λep=>
     (Wi (vi [cI,ep] wY) wY).bind λx24=>
     (Wi (IG [cS,x24] wY) wY).bind λx25=>
     (φ x25 (
      (Uk cQ (ε 1)).bind λfB=>
      δ ([(aj v12 0),(aj v12 1),(aj v12 2),fB],wY)) (
      δ ([(aj v12 0),(aj v12 1),cQ,(aj v12 3)],wY))).bind λmZ=>
     δ (Xv,[(aj mZ.1 0),(aj mZ.1 1),(aj mZ.1 2),(aj mZ.1 3)],mZ.2)) (
     δ (Ξ 0,[(aj v12 0),(aj v12 1),(aj v12 2),(aj v12 3)],wY)))) [.lbx (wd d),.lbx (wd X),.ah 0,.ah (m:Int)] σ=δ q/\∃w,q=(.exit 0,[.lbx (wd d),.lbx (wd X),.ah (K:Int),w],σ):=by
 refine qt (λz v w=>∃lo hi:Nat,v=[.lbx (wd d),.lbx (wd X),.ah (lo:Int),.ah (hi:Int)]/\w=σ/\z=hi-lo/\lo<=K/\K<=hi/\hi<=m) ?_ (n:=m) ⟨0,m,rfl,rfl,by omega,by omega,hK,bN _⟩;rintro z v w ⟨lo,hi,rfl,rfl,hz,h1,h2,h3⟩;simp only[cH,dr];rw[nw,bS];by_cases hlt:lo<hi
 ·rw[cL (by omega),dL,EI (by omega),bS,show WE (.ah ((lo+hi:Nat):Int)) (.ah 1)=δ (.ah ((lo+hi+1:Nat):Int))from EI (b:=1) (by omega),bS,afx (by omega),bS,Sq,bS,Sq,bS,Jw (by omega),bS];generalize hk:(lo+hi+1) / 2=k;have hk1:lo<k:=by omega
  have hk2:k<=hi:=by omega
  have hdk:d*(2*k)<=131070*d:=by rw[ZF];exact XK (by omega) (bN _)
  rw[eH (AI (by omega) (by omega) (by omega) w),bS,eH (ags X (d*(2*k)) w),bS];by_cases hc:X<d*(2*k)
  ·rw[cL hc,dL,show Uk (.ah (k:Int)) (.ah 1)=δ (.ah ((k-1:Nat):Int))from Wn (b:=1) (by omega) (by omega),bS,bS];have hnk:¬k<=K:=λq=>by have:=(hle k).1 q;omega
   exact .inl ⟨k-1-lo,_,_,by omega,rfl,lo,k-1,rfl,rfl,rfl,h1,by omega,by omega⟩
  ·rw[cO hc,dD,bS];have hkK:k<=K:=(hle k).2 (by omega);exact .inl ⟨hi-k,_,_,by omega,rfl,k,hi,rfl,rfl,rfl,hkK,h2,h3⟩
 ·rw[cO (by omega),dD];refine .inr ⟨_,rfl,by simp,.ah (hi:Int),?_⟩;rw[show lo=K by omega]
theorem asf{d X K m:Nat}(hd:0<d)(hd2:d<100000000000000000000000000)(hm2:m<=65535)(hX:X<=200000*d)(hK:K<=m)(hle:∀k:Nat,k<K↔d*(2*k+1)<X)(σ:Heap):∃q,Y7 ((λlD nH=>
    (YY (aj lD 2) (aj lD 3)).bind λiu=>
    φ iu (
     (WE (aj lD 2) (aj lD 3)).bind λgn=>
     (A.quo gn (ε 2)).bind λfD=>
     ((Tv (aj lD 0)).bind λoh=>VU 0 2 oh).bind λgL=>
     (Tu (ε 2) fD).bind λgA=>
     (WE gA (ε 1)).bind λfE=>
     (Wi (vi [gL,fE] nH) nH).bind λiZ=>
     ((Tv (aj lD 1)).bind λlX=>VU 0 2 lX).bind λiO=>
     (Wi (IG [iZ,iO] nH) nH).bind λgu=>
     (φ gu (
      (WE fD (ε 1)).bind λgM=>
      δ ([(aj lD 0),(aj lD 1),gM,(aj lD 3)],nH)) (
      δ ([(aj lD 0),(aj lD 1),(aj lD 2),fD],nH))).bind λkI=>
     δ (Xv,[(aj kI.1 0),(aj kI.1 1),(aj kI.1 2),(aj kI.1 3)],kI.2)) (
     δ (Ξ 2,[(aj lD 0),(aj lD 1),(aj lD 2),(aj lD 3)],nH)))) [.lbx (wd d),.lbx (wd X),.ah 0,.ah (m:Int)] σ=δ q/\∃w,q=(.exit 2,[.lbx (wd d),.lbx (wd X),.ah (K:Int),w],σ):=by
 refine qt (λz v w=>∃lo hi:Nat,v=[.lbx (wd d),.lbx (wd X),.ah (lo:Int),.ah (hi:Int)]/\w=σ/\z=hi-lo/\lo<=K/\K<=hi/\hi<=m) ?_ (n:=m) ⟨0,m,rfl,rfl,by omega,by omega,hK,bN _⟩;rintro z v w ⟨lo,hi,rfl,rfl,hz,h1,h2,h3⟩;simp only[cH,dr];rw[nw,bS];by_cases hlt:lo<hi
 ·rw[cL (by omega),dL,EI (by omega),bS,afx (by omega),bS,Sq,bS,Jw (by omega),bS];generalize hk:(lo+hi) / 2=k;have hk1:lo<=k:=by omega
  have hk2:k<hi:=by omega
  have hdk:d*(2*k+1)<=131071*d:=by rw[ZF];exact XK (by omega) (bN _)
  rw[show WE (.ah ((2*k:Nat):Int)) (.ah 1)=δ (.ah ((2*k+1:Nat):Int))from EI (b:=1) (by omega),bS,eH (AI (by omega) (by omega) (by omega) w),bS,Sq,bS,eH (ags (d*(2*k+1)) X w),bS];by_cases hc:d*(2*k+1)<X
  ·rw[cL hc,dL,show WE (.ah (k:Int)) (.ah 1)=δ (.ah ((k+1:Nat):Int))from EI (b:=1) (by omega),bS,bS];have hkK:k<K:=(hle k).2 hc;exact .inl ⟨hi-(k+1),_,_,by omega,rfl,k+1,hi,rfl,rfl,rfl,by omega,h2,h3⟩
  ·rw[cO hc,dD,bS];have hnk:¬k<K:=λq=>hc ((hle k).1 q)
   exact .inl ⟨k-lo,_,_,by omega,rfl,lo,k,rfl,rfl,rfl,h1,by omega,by omega⟩
 ·rw[cO (by omega),dD];refine .inr ⟨_,rfl,by simp,.ah (hi:Int),?_⟩;rw[show lo=K by omega]
theorem arA{a b:Int}(ha:0<=a)(ha2:a<=65535)(hb:0<=b)(uR:b<=65535){n d:Nat}(hd:0<d)(hnd:n<=d)(hd2:d<100000000000000000000000000)(σ:Heap):Uz [.ah a,.ah b,.agg (wd n),.agg (wd d)] σ=δ (.ah (Hv a b n d),σ):=by
 have run:∃q,UH (.ah a) (.ah b) (.agg (wd n)) (.agg (wd d)) σ=δ q/\q=(.ah (Hv a b n d),σ):=by
  unfold UH Hv;rw[rY,bS,rY,bS,vD,bS];by_cases hab:a<=b
  ·rw[cL hab,dL,aP hab];obtain⟨m,hm⟩:∃m:Nat,b-a=m:=⟨(b-a).toNat,by omega⟩
   have hm2:m<=65535:=by omega
   have b1:2*m*n<=131070*d:=XK (by omega) hnd;have b2:n*(2*m)=2*m*n:=ZF _ _;rw[tP,cq (by unfold aY;omega),hm,bS,rC,bS,Jw (by omega),bS,eH (AI (by omega) (by omega) (by omega) σ),bS,rC,bS,eH (auE (by omega) σ),bS,rY,bS,uq,bS];rw[TS,b2];generalize hX:2*m*n+d=X
   have hK:X / (2*d)<=m:=by
    refine Nat.lt_succ_iff.1 ((aDC (by omega)).2 ?_);have:m*n<=m*d:=XK (bN _) hnd;have e1:2*m*n=2*(m*n):=ZM _ _ _;have e2:(m+1)*(2*d)=2*(m*d)+2*d:=by rw[iG,U5];omega
    show X<(m+1)*(2*d)
    omega
   generalize aAw:X / (2*d)=K at hK
   have hle:∀k:Nat,k<=K↔d*(2*k)<=X:=λk=>by rw[<-aAw,Nat.le_div_iff_mul_le (by omega),show k*(2*d)=d*(2*k) by rw[U5,U5 d];congr 1;exact ZF _ _]
   refine EW (atG hd hd2 hm2 (by omega) hK hle σ) ?_
   ·rintro q ⟨w,rfl⟩;simp only[qj,cH,dr];rw[nQ,cq (by unfold aY;omega),bS];exact⟨_,bD _ _,rfl⟩
  ·rw[cO hab,dD,aO hab];obtain⟨m,hm⟩:∃m:Nat,a-b=m:=⟨(a-b).toNat,by omega⟩
   have hm2:m<=65535:=by omega
   have b1:2*m*n<=131070*d:=XK (by omega) hnd;have b2:n*(2*m)=2*m*n:=ZF _ _;rw[tP,cq (by unfold aY;omega),hm,bS,rC,bS,Jw (by omega),bS,AI (by omega) (by omega) (by omega) σ,bS,rY,bS,uq,bS];rw[TS,b2];generalize hX:2*m*n=X
   have hK:(X+d-1) / (2*d)<=m:=by
    refine Nat.lt_succ_iff.1 ((aDC (by omega)).2 ?_);have:m*n<=m*d:=XK (bN _) hnd;have e1:2*m*n=2*(m*n):=ZM _ _ _;have e2:(m+1)*(2*d)=2*(m*d)+2*d:=by rw[iG,U5];omega
    show X+d-1<(m+1)*(2*d)
    omega
   generalize aAw:(X+d-1) / (2*d)=K at hK
   have hle:∀k:Nat,k<K↔d*(2*k+1)<X:=λk=>by
    have q:=Nat.le_div_iff_mul_le (k:=2*d) (x:=k+1) (y:=X+d-1) (by omega);rw[aAw]at q;have e:(k+1)*(2*d)=d*(2*k+1)+d:=by rw[Uu,iG,U5,U5 d];rw[ZF k d];omega
    constructor
    ·intro h;have:=q.1 h;omega
    ·intro h;exact q.2 (by omega)
   refine EW (asf hd hd2 hm2 (by omega) hK hle σ) ?_
   ·rintro q ⟨w,rfl⟩;simp only[qj,cH,dr];rw[tP,cq (by unfold aY;omega),bS];exact⟨_,bD _ _,rfl⟩
 obtain⟨q,h1,rfl⟩:=run;exact atM rfl h1
end
section
def LZ (a0:Int) (a1:Int):Option Int:=
 (N2 a0 a1).bind λx1=>
 (N3 a0 a1).bind λx2=>
 (show Option Int from
   if x2<0 then
    δ (ξ.wrap (x1-1))
   else
   δ x1).bind λj4=>
 δ j4
theorem alY{a0:Int}{a1:Int}{σ:Heap}{r:Int}(h:LZ a0 a1=δ r):aBv [(ε a0),(ε a1)] σ=δ ((ε r),σ):=by
 refine rW (f:=aBm) (y0:=(ε a0)) (y1:=(ε a1)) (enc:=λr:Int=>(ε r)) (T:=LZ a0 a1) rfl rfl ?_ r h;unfold aBm LZ;refine jK (λx1:Int=>(ε x1)) (λx1 hx1=>auG hx1) (λx1 hx1=>?_);refine jK (λx2:Int=>(ε x2)) (λx2 hx2=>auI hx2) (λx2 hx2=>?_);refine an _ rfl ?_
 refine N1 (ω:=Int) (λj4 a=>a=(([(ε j4)]:aq),σ)) (
   by
    refine jJ (p:=x2<0) (λc3=>?_) (λc3=>?_)
    ·refine an _ rfl ?_;exact bK rfl
    exact bK rfl
   ) (λj4 a ha=>?_)
 subst ha;exact dI _ (bD _ _) ⟨rfl,rfl⟩
def L0 (a0:Int) (a1:Int):Option Int:=(LZ (ξ.wrap (ξ.wrap (2*a0)+a1)) (ξ.wrap (2*a1))).bind λr1=>δ r1
theorem alZ{a0:Int}{a1:Int}{σ:Heap}{r:Int}(h:L0 a0 a1=δ r):U2 [(ε a0),(ε a1)] σ=δ ((ε r),σ):=by refine rW (f:=Vc) (y0:=(ε a0)) (y1:=(ε a1)) (enc:=λr:Int=>(ε r)) (T:=L0 a0 a1) rfl rfl ?_ r h;unfold Vc L0;refine an _ rfl<|an _ rfl<|an _ rfl ?_;refine jK (λr1:Int=>((ε r1),σ)) (λr1 jE=>alY jE) (λr1 jE=>?_);exact dI _ (bD _ _) ⟨rfl,rfl⟩
def P9 (a0:Int):Option Bool:=δ (aT a0 0 36000000)
theorem LL{a0:Int}{σ:Heap}{r:Bool}(h:P9 a0=δ r):Gb [(ε a0)] σ=δ ((Λ r),σ):=by refine yj (f:=UF) (y0:=(ε a0)) (enc:=λr:Bool=>(Λ r)) (T:=P9 a0) rfl rfl ?_ r h;unfold UF P9;refine an _ (mL a0 0 36000000 σ) ?_;exact dI _ (bD _ _) ⟨rfl,rfl⟩
def Gc (a0:(List Int)):Option Int:=
 kr a0 (λ(i8:Nat)e7(s1:Unit)=>(show Option (Lr Unit Unit Int)from
   if(!(aT e7 0 65535))=θ then
    δ (.ret 1)
   else
   δ (.go ()))) (λs1=>δ ()) () (λb2=>
  δ 0) (λb2=>
  δ b2)
theorem aaV{a0:(List Int)}{σ:Heap}{r:Int}(h:Gc a0=δ r):P6 [(sl 1 oL a0)] σ=δ ((ε r),σ):=by
 refine yj (f:=aCH) (y0:=(sl 1 oL a0)) (enc:=λr:Int=>(ε r)) (T:=Gc a0) rfl rfl ?_ r h;unfold aCH Gc;refine an _ (fu _ _ _) ?_;refine mA (B:=Unit) (R:=Int) (λ(i8:Nat)(s1:Unit)v w3=>v=[(ε 0),(ε (i8:Int))]/\σ=w3) (λ(b2:Unit)(q:LS)=>∃u2 u7,q=((Ξ 0),([u2,u7]:aq),σ)) (λ(b2:Int)(q:LS)=>∃u7,q=(YP,([(ε b2),u7]:aq),σ)) ?_ ?_ ⟨rfl,rfl⟩ ?_ ?_
 ·intro sF i8 e7 s1 v w3 jZ hI;obtain⟨rfl,rfl⟩:=hI;refine an _ (iR jZ)<|mC<|an _ (gH jZ)<|an _ rfl<|an _ (amE e7 σ)<|an _ rfl ?_;refine gy (c:=(!(aT e7 0 65535))) (λc9=>?_) (λc9=>?_)
  ·exact bK (gd (by simp) ⟨_,rfl⟩)
  refine an _ (fT jZ sF) ?_;exact bK (l7 ⟨rfl,rfl⟩)
 ·intro hl s1 v w3 hI;obtain⟨rfl,rfl⟩:=hI;refine an _ (iQ _)<|mB ?_;exact bK ⟨by simp,⟨_,_,rfl⟩⟩
 ·intro hl b2 q hq;obtain⟨u2,u7,rfl⟩:=hq;refine gO rfl ?_;exact dI _ (bD _ _) ⟨rfl,rfl⟩
 ·intro hl b2 q hq;obtain⟨u7,rfl⟩:=hq;refine qc rfl<|gO rfl ?_;exact dI _ (bD _ _) ⟨rfl,rfl⟩
def LF (a0:jI):Option Int:=
 (Gc ([a0.fC,a0.to]:(List Int))).bind λr1=>
 if ¬(r1=0)then
  δ r1
 else
 if((((!((aT a0.start 0 36000000)))||(!((aT a0.cB 0 36000000))))||(!((aT a0.time 0 36000000))))||(!((aT (ξ.wrap (ξ.wrap (a0.start+a0.cB)+a0.time)) 0 36000000))))=θ then
  δ 1
 else
 δ (pK a0.fM)
theorem aj4{a0:jI}{σ:Heap}{r:Int}(h:LF a0=δ r):TY [(Φ (iK a0))] σ=δ ((ε r),σ):=by
 refine yj (f:=aBz) (y0:=(Φ (iK a0))) (enc:=λr:Int=>(ε r)) (T:=LF a0) rfl rfl ?_ r h;unfold aBz LF;refine an _ rfl<|an _ rfl<|an _ rfl<|an (sl 1 oL ([a0.fC,a0.to]:(List Int))) rfl ?_;refine jK (λr1:Int=>((ε r1),σ)) (λr1 jE=>aaV jE) (λr1 jE=>?_);refine an _ (fV _ _ _) ?_;refine jJ (p:=¬(r1=0)) (λc3=>?_) (λc3=>?_)
 ·exact dI _ (bD _ _) ⟨rfl,rfl⟩
 refine an _ rfl<|an _ (LL (σ:=σ) (r:=(aT a0.start 0 36000000)) rfl)<|an _ rfl<|ew (ε a0.cB) (λhg=>rfl)<|ew (Λ ((aT a0.cB 0 36000000))) (λhg=>by(try rw[hg]);exact(eH (LL (σ:=σ) (r:=(aT a0.cB 0 36000000)) rfl)))<|ew (Λ (!((aT a0.cB 0 36000000)))) (λhg=>by(try rw[hg]);exact rfl)<|an _ (nO _ _)<|ew (ε a0.time) (λhg=>rfl)<|ew (Λ ((aT a0.time 0 36000000))) (λhg=>by(try rw[hg]);exact(eH (LL (σ:=σ) (r:=(aT a0.time 0 36000000)) rfl)))<|ew (Λ (!((aT a0.time 0 36000000)))) (λhg=>by(try rw[hg]);exact rfl)<|an _ (nO _ _)<|ew (ε a0.start) (λhg=>rfl)<|ew (ε a0.cB) (λhg=>rfl)<|ew (ε (ξ.wrap (a0.start+a0.cB))) (λhg=>by(try rw[hg]);exact rfl)<|ew (ε a0.time) (λhg=>rfl)<|ew (ε (ξ.wrap (ξ.wrap (a0.start+a0.cB)+a0.time))) (λhg=>by(try rw[hg]);exact rfl)<|ew (Λ ((aT (ξ.wrap (ξ.wrap (a0.start+a0.cB)+a0.time)) 0 36000000))) (λhg=>by(try rw[hg]);exact(eH (LL (σ:=σ) (r:=(aT (ξ.wrap (ξ.wrap (a0.start+a0.cB)+a0.time)) 0 36000000)) rfl)))<|ew (Λ (!((aT (ξ.wrap (ξ.wrap (a0.start+a0.cB)+a0.time)) 0 36000000)))) (λhg=>by(try rw[hg]);exact rfl)<|an _ (nO _ _) ?_;refine gy (c:=((((!((aT a0.start 0 36000000)))||(!((aT a0.cB 0 36000000))))||(!((aT a0.time 0 36000000))))||(!((aT (ξ.wrap (ξ.wrap (a0.start+a0.cB)+a0.time)) 0 36000000))))) (λc2=>?_) (λc2=>?_)
 ·exact dI _ (bD _ _) ⟨rfl,rfl⟩
 refine an _ rfl<|an _ (aa1 a0.fM σ) ?_;exact dI _ (bD _ _) ⟨rfl,rfl⟩
def LV (a0:Int) (a1:Int):Option (Int×Int):=
 (Gc ([a0,a1]:(List Int))).bind λr1=>
 if ¬(r1=0)then
  δ (0,r1)
 else
 (L0 (ξ.wrap (a0*a1)) 65535).bind λr2=>
 δ (r2,0)
theorem als{a0:Int}{a1:Int}{σ:Heap}{r:(Int×Int)}(h:LV a0 a1=δ r):LR [(ε a0),(ε a1)] σ=δ ((Yu [(ε r.1),(ε r.2)]),σ):=by
 refine rW (f:=UU) (y0:=(ε a0)) (y1:=(ε a1)) (enc:=λr:(Int×Int)=>(Yu [(ε r.1),(ε r.2)])) (T:=LV a0 a1) rfl rfl ?_ r h;unfold UU LV;refine an (sl 1 oL ([a0,a1]:(List Int))) rfl ?_;refine jK (λr1:Int=>((ε r1),σ)) (λr1 jE=>aaV jE) (λr1 jE=>?_);refine an _ (fV _ _ _) ?_;refine jJ (p:=¬(r1=0)) (λc3=>?_) (λc3=>?_)
 ·exact dI _ (bD _ _) ⟨rfl,rfl⟩
 refine an _ rfl ?_;refine jK (λr2:Int=>((ε r2),σ)) (λr2 tY=>alZ tY) (λr2 tY=>?_);exact dI _ (bD _ _) ⟨rfl,rfl⟩
end
section
open HP
theorem atL{s:List Sh}{ro:Sh}{r:AV->AV->AV->Heap->aF}{x y z v v':AV}{σ:Heap}(h:[x,y,z].any A.own=ι)(e1:TQ s [x,y,z]=[x,y,z])(e2:Y9 ro v=v')(e:r x y z σ=δ (v,σ)):Ω θ s ro (X5 r) [x,y,z] σ=δ (v',σ):=by refine wrap_eq h ?_ e2;rw[e1];exact e
theorem EX{x y X Y:Int}(hx:0<=x)(hx2:x<=X)(hy:0<=y)(hy2:y<=Y):0<=x*y/\x*y<=X*Y:=⟨Int.mul_nonneg hx hy,Int.mul_le_mul hx2 hy2 hy (by omega)⟩
def qu(l:List oF)(p q:Int):Nat->Nat->Nat
 |0,i=>i
 |f+1,i=>if i+2<l.length/\(l.getD (i+1) eY).time*q<=1000*p then qu l p q f (i+1)else i
def Zq(l:List oF)(p q:Int):Int:=(l.getD (qu l p q l.length 0) eY).way*((l.getD (qu l p q l.length 0+1) eY).time-(l.getD (qu l p q l.length 0) eY).time)*q+((l.getD (qu l p q l.length 0+1) eY).way-(l.getD (qu l p q l.length 0) eY).way)*(1000*p-(l.getD (qu l p q l.length 0) eY).time*q)
def aBl(l:List oF)(p q:Int):Int:=(l.getD (qu l p q l.length 0+1) eY).time-(l.getD (qu l p q l.length 0) eY).time
def rP(c:tu)(p q:Nat):Nat×Nat:=
 if c.kind=2 then(p*p,q*q)else if c.kind=3 then(p*(2*q-p),q*q)else if c.kind=4 then(p*p*(3*q-2*p),q*q*q)else if c.kind=5 then(if p<q then(0,1)else(1,1))
 else if c.kind=6 then((Zq c.br p q).toNat,(1000*aBl c.br p q).toNat*q)else(p,q)
structure agT (l : List oF) : Prop where
 two:2<=l.length
 len:l.length<=20
 bd:∀i,i<l.length->0<=(l.getD i eY).time/\(l.getD i eY).time<=1000/\0<=(l.getD i eY).way/\(l.getD i eY).way<=1000
 fst:(l.getD 0 eY).time=0
 lst:(l.getD (l.length-1) eY).time=1000
 ord:∀i,i+1<l.length->(l.getD i eY).time<(l.getD (i+1) eY).time/\(l.getD i eY).way<=(l.getD (i+1) eY).way
theorem auF{c:tu}(h:pK c=0)(h6:c.kind=6):agT c.br:=by
 unfold pK at h;split at h
 ·cases h
 try rw[aP h6]at h
 split at h
 ·cases h
 split at h
 ·cases h
 rename_i h2 FM;unfold SG at h;split at h
 ·cases h
 rename_i hb;split at h
 ·cases h
 rename_i hf;split at h
 ·cases h
 rename_i hl;split at h
 ·cases h
 rename_i ho
 have hb':∀p∈c.br,Cj p=ι:=by
  intro p hp;cases q:Cj p
  ·rfl
  ·exact absurd (VK.2 ⟨p,hp,q⟩) hb
 have hf:=Vj.1 hf;have hl:=Vj.1 hl;refine⟨by omega,by omega,λi hi=>?_,hf.1,hl.1,λi hi=>?_⟩
 ·have e:=zu hi;have:=hb' _ (dm e);unfold Cj aT at this;simp only[qw,aDv,decide_eq_true_eq]at this;omega
 ·have h1:¬Bc c.br (i+1)=θ:=λq=>ho (VK.2 ⟨i+1,by rw[List.mem_range'];exact⟨i,by omega,by omega⟩,q⟩)
  unfold Bc at h1;simp only[decide_eq_true_eq,Nat.add_sub_cancel]at h1;omega
theorem aeY{l:List oF}{p q:Int}:∀(f i:Nat),i+f=l.length->i+1<l.length->(l.getD i eY).time*q<=1000*p->qu l p q f i+1<l.length/\(l.getD (qu l p q f i) eY).time*q<=1000*p/\(1000*p<(l.getD (qu l p q f i+1) eY).time*q\/qu l p q f i+2=l.length)
 |0,i,h1,h2,_=>by omega
 |f+1,i,h1,h2,h3=>by
  rw[qu];split
  ·rename_i h;exact aeY f (i+1) (by omega) (by omega) h.2
  ·rename_i h;refine⟨h2,h3,?_⟩;by_cases h4:i+2<l.length
   ·exact .inl (Int.lt_of_not_ge λq=>h ⟨h4,q⟩)
   ·exact .inr (by omega)
theorem ary{l:List oF}(hl:agT l){p q:Int}(hp:0<=p)(hp2:p<=36000000)(hq:0<q)(Am:q<=36000000)(σ:Heap):∃r,Y7 (Uv (sl 2 iF l) (ε p) (ε q)) [.lbx [(Wz .u64 0),(Wz .u64 0)],.lbx [(Wz .u64 0),(Wz .u64 0)],.ah 0] σ=δ r/\r=(.exit 1,[.lbx [(Wz .u64 0),(Wz .u64 0)],.lbx [(Wz .u64 0),(Wz .u64 0)],.ah (qu l p q l.length 0:Nat)],σ):=by
 have FM:=hl.len;refine qt (λz v w=>∃i:Nat,v=[.lbx [(Wz .u64 0),(Wz .u64 0)],.lbx [(Wz .u64 0),(Wz .u64 0)],.ah (i:Int)]/\w=σ/\z=l.length-i/\i<=l.length/\qu l p q (l.length-i) i=qu l p q l.length 0) ?_ (n:=l.length) ⟨0,rfl,rfl,rfl,kW _,rfl⟩;rintro z v w ⟨i,rfl,rfl,hz,hi,hT⟩;try unfold Uv
 simp only[cH,dr];rw[show WE (.ah (i:Int)) (.ah 2)=δ (.ah ((i+2:Nat):Int))from EI (b:=2) (by omega),bS,fu,bS,nw,bS];by_cases h1:i+2<l.length
 ·obtain⟨b1,b2,_,_⟩:=hl.bd (i+1) (by omega);have m1:=EX b1 b2 (Int.le_of_lt hq) Am;have ex:=zu (l:=l) (i:=i+1) (by omega);rw[cL (by omega)];simp only[gT,bS];rw[AW,cq (by unfold aY;omega),bS,show WE (.ah (i:Int)) (.ah 1)=δ (.ah ((i+1:Nat):Int))from EI (b:=1) (by omega),bS,gH ex,bS,show WC 0 (.rp (iF (l.getD (i+1) eY)))=δ (.rp (iF (l.getD (i+1) eY)))from rfl,bS,qG,bS,show Γ 0 (iF (l.getD (i+1) eY))=δ (.ah (l.getD (i+1) eY).time)from rfl,bS,AW,cq (by unfold aY;omega),bS,vD,bS];simp only[qm,bS];rw[show l.length-i=(l.length-(i+1))+1 by omega,qu]at hT;by_cases h2:(l.getD (i+1) eY).time*q<=1000*p
  ·rw[cL h2,dL];rw[aP ⟨h1,h2⟩]at hT;exact .inl ⟨l.length-(i+1),_,_,by omega,rfl,i+1,rfl,rfl,rfl,by omega,hT⟩
  ·rw[cO h2,dD];rw[aO (λq=>h2 q.2)]at hT;exact .inr ⟨_,rfl,by simp,by rw[hT]⟩
 ·rw[cO (by omega)];simp only[xP,bS,qM];rw[dD];refine .inr ⟨_,rfl,by simp,?_⟩
  have:qu l p q (l.length-i) i=i:=by
   cases hf:l.length-i with
   |zero=>rfl
   |succ f=>rw[qu,aO (λq=>h1 q.1)]
  rw[<-hT,this]
theorem D6{α:Type}{X:Option α}{v:α}(h:∃b,X=δ b/\b=v):X=δ v:=by obtain⟨b,h,rfl⟩:=h;exact h
theorem ahw{c:tu}(hc:pK c=0){p q:Nat}(hp:0<p)(hpq:p<q)(hq:q<=36000000)(σ:Heap):Qs [.agg (lR c),.ah (p:Int),.ah (q:Int)] σ=δ (.aM [.agg (wd (rP c p q).1),.agg (wd (rP c p q).2)],σ)/\(rP c p q).1<=(rP c p q).2/\0<(rP c p q).2/\(rP c p q).2<100000000000000000000000000:=by
 have q2:q*q<=36000000*36000000:=XK hq hq;have q3:q*q*q<=36000000*36000000*36000000:=XK q2 hq;have q2p:0<q*q:=Nat.mul_pos (by omega) (by omega);have q3p:0<q*q*q:=Nat.mul_pos q2p (by omega);have pp:p*p<=q*q:=XK (by omega) (by omega);have head:∀{v:AV},Y9 .k v=v->True:=λ_=>trivial
 have go:(Qw (.agg (lR c)) (.ah (p:Int)) (.ah (q:Int)) σ=δ (.aM [.agg (wd (rP c p q).1),.agg (wd (rP c p q).2)],σ))->Qs [.agg (lR c),.ah (p:Int),.ah (q:Int)] σ=δ (.aM [.agg (wd (rP c p q).1),.agg (wd (rP c p q).2)],σ):=λh=>atL rfl (dO (nT rfl) rfl) (jr _) h
 suffices Qw (.agg (lR c)) (.ah (p:Int)) (.ah (q:Int)) σ=δ (.aM [.agg (wd (rP c p q).1),.agg (wd (rP c p q).2)],σ)/\(rP c p q).1<=(rP c p q).2/\0<(rP c p q).2/\(rP c p q).2<100000000000000000000000000 from⟨go this.1,this.2⟩
 clear go head;unfold Qw rP;rw[show ψ 2 (.agg (lR c))=δ (lR c)from rfl,bS,Co (by omega),bS,AI (by omega) (by omega) (by omega),bS,rY,bS,uq,bS,show Γ 0 (lR c)=δ (.ah c.kind)from rfl,bS,jL,bS];by_cases k2:c.kind=2
 ·rw[cL k2,dL,aP k2,eH (Co (by omega) σ),bS,eH (AI (by omega) (by omega) (by omega) σ),bS,rC,bS,rY,bS,uq,bS,rY,bS,uq,bS,rC,bS,rC,bS];exact⟨bD _ _,pp,q2p,by omega⟩
 rw[cO k2,dD,aO k2,jL,bS];by_cases k3:c.kind=3
 ·have hm:p*(2*q-p)<=q*q:=by
   obtain⟨t,rfl⟩:∃t,q=p+t:=⟨q-p,by omega⟩
   rw[show 2*(p+t) -p=p+2*t by omega,Uu,iG,Uu,Uu];have e1:p*(2*t)=p*t+p*t:=by rw[<-Uu];congr 1;omega
   have e2:t*p=p*t:=ZF _ _;rw[e1,e2];omega
  rw[cL k3,dL,aP k3,eH (Co (by omega) σ),bS,Jw (by omega),bS,Wn (by omega) (by omega),bS,eH (AI (by omega) (by omega) (by omega) σ),bS,rC,bS,rY,bS,uq,bS,rY,bS,uq,bS,rC,bS,rC,bS];exact⟨bD _ _,hm,q2p,by omega⟩
 rw[cO k3,dD,aO k3,jL,bS];by_cases k4:c.kind=4
 ·have hm:p*p*(3*q-2*p)<=q*q*q:=by
   obtain⟨t,rfl⟩:∃t,q=p+t:=⟨q-p,by omega⟩
   rw[show 3*(p+t) -2*p=p+3*t by omega]
   have e1:(p+t)*(p+t)*(p+t)=p*p*(p+3*t)+(3*p*(t*t)+t*t*t):=by
    simp only[iG,Uu];have a1:p*p*(3*t)=p*p*t+p*p*t+p*p*t:=by rw[show 3*t=t+t+t by omega,Uu,Uu]
    have a2:p*t*p=p*p*t:=by rw[Nat.mul_right_comm]
    have a3:t*p*p=p*p*t:=by rw[ZF t p,Nat.mul_right_comm]
    have a4:t*p*t=p*(t*t):=by rw[ZF t p,ZM]
    have a5:p*t*t=p*(t*t):=ZM _ _ _;have a6:t*t*p=p*(t*t):=ZF _ _;have a7:3*p*(t*t)=p*(t*t)+p*(t*t)+p*(t*t):=by rw[show 3*p=p+p+p by omega,iG,iG]
    rw[a1,a2,a3,a4,a5,a6,a7];omega
   rw[e1];omega
  rw[cL k4,dL,aP k4,eH (Co (by omega) σ),bS,eH (AI (by omega) (by omega) (by omega) σ),bS,show Tu (.ah 3) (.ah (q:Int))=δ (.ah ((3*q:Nat):Int))from apB (a:=3) (by omega),bS,Jw (by omega),bS,Wn (by omega) (by omega),bS,eH (AI (by omega) (by omega) (by omega) σ),bS,rC,bS,eH (AI (by omega) (by omega) (by omega) σ),bS,rY,bS,uq,bS,rY,bS,uq,bS,rC,bS,rC,bS];exact⟨bD _ _,hm,q3p,by omega⟩
 rw[cO k4,dD,aO k4,jL,bS];by_cases k5:c.kind=5
 ·rw[cL k5,dL,aP k5,nw,bS,cL (by omega),dL,aP hpq,show tg [.ah 0] σ=δ (.agg (wd 0),σ)from Co (n:=0) (by omega) σ,bS];simp only;rw[show tg [.ah 1] σ=δ (.agg (wd 1),σ)from Co (n:=1) (by omega) σ,bS];simp only;rw[rY,bS,uq,bS,rY,bS,uq,bS,rC,bS,rC,bS];exact⟨bD _ _,by omega,by omega,by omega⟩
 rw[cO k5,dD,aO k5,jL,bS];by_cases k6:c.kind=6
 ·rw[cL k6,dL,aP k6,show Γ 1 (lR c)=δ (sl 2 iF c.br)from rfl,bS];have hl:=auF hc k6;have FM:=hl.len;obtain⟨s1,s2,s3⟩:=aeY (l:=c.br) (p:=(p:Int)) (q:=(q:Int)) c.br.length 0 (by omega) (by have:=hl.two;omega) (by rw[hl.fst];omega);generalize hI:qu c.br (p:Int) (q:Int) c.br.length 0=i at s1 s2 s3;obtain⟨a1,a2,a3,a4⟩:=hl.bd i (by omega);obtain⟨b1,b2,b3,b4⟩:=hl.bd (i+1) s1;obtain⟨o1,o2⟩:=hl.ord i s1;have exA:=zu (l:=c.br) (i:=i) (by omega);have exB:=zu (l:=c.br) (i:=i+1) s1;have eN:Zq c.br (p:Int) (q:Int)=(c.br.getD i eY).way*((c.br.getD (i+1) eY).time-(c.br.getD i eY).time)*(q:Int)+((c.br.getD (i+1) eY).way-(c.br.getD i eY).way)*(1000*(p:Int) -(c.br.getD i eY).time*(q:Int)):=by unfold Zq;rw[hI]
  have eL:aBl c.br (p:Int) (q:Int)=(c.br.getD (i+1) eY).time-(c.br.getD i eY).time:=by unfold aBl;rw[hI]
  have hbt:1000*(p:Int)<=(c.br.getD (i+1) eY).time*(q:Int):=by
   rcases s3 with s3|s3
   ·omega
   ·have:=hl.lst;rw[show c.br.length-1=i+1 by omega]at this;rw[this];omega
  rw[eN,eL];generalize hA:c.br.getD i eY=pa at exA a1 a2 a3 a4 o1 o2 s2;generalize hB:c.br.getD (i+1) eY=pb at exB b1 b2 b3 b4 o1 o2 hbt;obtain⟨T,hT⟩:∃T,T=pb.time-pa.time:=⟨_,rfl⟩
  obtain⟨D,hD⟩:∃D,D=pb.way-pa.way:=⟨_,rfl⟩
  have m1:=EX a1 a2 (show(0:Int)<=(q:Int) by omega) (show(q:Int)<=36000000 by omega);obtain⟨U,hU⟩:∃U,U=1000*(p:Int) -pa.time*(q:Int):=⟨_,rfl⟩
  have m2:=EX a3 a4 (show 0<=T by omega) (show T<=1000 by omega);have m3:=EX m2.1 m2.2 (show(0:Int)<=(q:Int) by omega) (show(q:Int)<=36000000 by omega);have m4:=EX (show 0<=D by omega) (show D<=1000 by omega) (show 0<=U by omega) (show U<=36000000000 by omega);have m5:=EX (show 0<=T by omega) (show T<=1000 by omega) (show(0:Int)<=(q:Int) by omega) (show(q:Int)<=36000000 by omega);have hUT:U<=T*(q:Int):=by rw[hT,Int.sub_mul];omega
  have m6:D*U<=D*(T*(q:Int)):=Int.mul_le_mul_of_nonneg_left hUT (by omega);have m7:pb.way*(T*(q:Int))<=1000*(T*(q:Int)):=Int.mul_le_mul_of_nonneg_right b4 m5.1;have m8:pa.way*T*(q:Int)+D*(T*(q:Int))=pb.way*(T*(q:Int)):=by rw[hD,Int.sub_mul,Int.mul_assoc];omega
  rw[<-hT,<-hD,<-hU];have t1:0<T:=by omega
  have t2:0<T*(q:Int):=Int.mul_pos t1 (by omega);have uS:(((1000*T).toNat*q:Nat):Int)=1000*(T*(q:Int)):=by rw[aDX,Wj (by omega),Int.mul_assoc]
  refine⟨D6 (EW (ary hl (p:=(p:Int)) (q:=(q:Int)) (by omega) (by omega) (by omega) (by omega) σ) ?_),by show(_:Nat)<=_;omega,by show 0<(_:Nat);omega,by show(_:Nat)<_;omega⟩;rintro r rfl;simp only[qj,cH,dr];rw[hI,gH exA,bS,qG,bS,zj,bS,show WE (.ah (i:Int)) (.ah 1)=δ (.ah ((i+1:Nat):Int))from EI (b:=1) (by omega),bS,gH exB,bS,qG,bS,zj,bS,zh,bS,zl _ _ rfl,bS,zh,bS,zl _ _ rfl,bS];rw[show Γ 0 (iF pb)=δ (.ah pb.time)from rfl,bS,show Γ 0 (iF pa)=δ (.ah pa.time)from rfl,bS,tP,cq (by unfold aY;omega),<-hT,bS,show Γ 1 (iF pa)=δ (.ah pa.way)from rfl,bS,AW,cq (by unfold aY;omega),bS,AW,cq (by unfold aY;omega),bS,show Γ 1 (iF pb)=δ (.ah pb.way)from rfl,bS,bS,tP,cq (by unfold aY;omega),<-hD,bS,AW,cq (by unfold aY;omega),bS,bS,AW,cq (by unfold aY;omega),bS,tP,cq (by unfold aY;omega),<-hU,bS,AW,cq (by unfold aY;omega),bS,nQ,cq (by unfold aY;omega),bS]
  have of1:∀w,tg [.ah (pa.way*T*(q:Int)+D*U)] w=δ (.agg (wd (pa.way*T*(q:Int)+D*U).toNat),w):=λw=>by have:=Co (n:=(pa.way*T*(q:Int)+D*U).toNat) (by omega) w;rwa[Wj (by omega)]at this
  have of2:∀w,tg [.ah (1000*T)] w=δ (.agg (wd (1000*T).toNat),w):=λw=>by have:=Co (n:=(1000*T).toNat) (by omega) w;rwa[Wj (by omega)]at this
  rw[of1,bS,AW,cq (by unfold aY;omega),bS];simp only;rw[of2,bS];simp only;rw[AI (by omega) (by omega) (by omega),bS];simp only;rw[show Tv (.lbx [(Wz .u64 0),(Wz .u64 0)])=δ [(Wz .u64 0),(Wz .u64 0)]from rfl,bS,rY,bS,uq,bS,bS,rY,bS,uq,bS,rC,bS,rC,bS];exact⟨_,bD _ _,rfl⟩
 ·rw[cO k6,dD,aO k6,Co (by omega),bS,Co (by omega),bS,rY,bS,uq,bS,rY,bS,uq,bS,rC,bS,rC,bS];exact⟨bD _ _,by omega,by omega,by omega⟩
end
section
open HP
structure uj (f : jI) : Prop where
 a:0<=f.fC/\f.fC<=65535
 b:0<=f.to/\f.to<=65535
 s:0<=f.start/\f.start<=36000000
 d:0<=f.cB/\f.cB<=36000000
 t:0<=f.time/\f.time<=36000000
 e:f.start+f.cB+f.time<=36000000
 c:pK f.fM=0
def FU (f:jI) (t:Int):Int:=
 if f.start+f.cB+f.time<=t then f.to
 else if t<=f.start+f.cB then f.fC
 else Hv f.fC f.to (rP f.fM (t-(f.start+f.cB)).toNat f.time.toNat).1 (rP f.fM (t-(f.start+f.cB)).toNat f.time.toNat).2
theorem GA{s:List Sh}{ro:Sh}{r:AV->AV->Heap->aF}{x y z v v':AV}{σ:Heap}(h:[x,y].any A.own=ι)(e1:TQ s [x,y]=[x,y])(e2:Y9 ro v=v')(e:r x y σ=δ (v,σ)):Ω θ s ro (Xw r) [x,y] σ=δ (v',σ):=by refine wrap_eq h ?_ e2;rw[e1];exact e
theorem avV{f:jI}(h:uj f)(t:Int)(σ:Heap):VW [.agg (iK f),.ah t] σ=δ (.ah (FU f t),σ):=by
 obtain⟨a1,a2⟩:=h.a;obtain⟨b1,b2⟩:=h.b;obtain⟨s1,s2⟩:=h.s;obtain⟨d1,d2⟩:=h.d;obtain⟨t1,t2⟩:=h.t;have he:=h.e;refine GA (z:=.ah 0) rfl (dO (nT rfl) rfl) (jr _) ?_;unfold acD FU;rw[Gu,bS,QI,bS,VZ,bS,nQ,cq (by unfold aY;omega),bS,acy,bS,nQ,cq (by unfold aY;omega),bS,vD,bS];by_cases h1:f.start+f.cB+f.time<=t
 ·rw[cL h1,dL,aP h1,acw,bS];exact bD _ _
 rw[cO h1,dD,aO h1,Ss,bS];by_cases h2:t<=f.start+f.cB
 ·rw[cL h2,dL,aP h2,acv,bS];exact bD _ _
 rw[cO h2,dD,aO h2,ak1,bS,tP,cq (by unfold aY;omega),bS,bS];obtain⟨w,l1,l2,l3⟩:=ahw h.c (p:=(t-(f.start+f.cB)).toNat) (q:=f.time.toNat) (by omega) (by omega) (by omega) σ;rw[Wj (by omega),Wj (by omega)]at w;rw[w,bS];simp only;generalize rP f.fM (t-(f.start+f.cB)).toNat f.time.toNat=nd at l1 l2 l3 ⊢;rw[lV,bS,ext1,bS,rY,bS,uq,bS,rY,bS,uq,bS,acv,bS,acw,bS,rC,bS,rC,bS,arA a1 a2 b1 b2 l2 l1 l3,bS];exact bD _ _
end
section
open HP
theorem Gz{s:List Sh}{ro:Sh}{r:AV->Heap->aF}{x v v':AV}{σ:Heap}(h:[x].any A.own=ι)(e1:TQ s [x]=[x])(e2:Y9 ro v=v')(e:r x σ=δ (v,σ)):Ω θ s ro (YR r) [x] σ=δ (v',σ):=by refine wrap_eq h ?_ e2;rw[e1];exact e
theorem F4{n lo hi:Int}(h1:lo<=n)(h2:n<=hi):aT n lo hi=θ:=by unfold aT;exact cL ⟨h1,h2⟩
theorem uH(cs:aq):ZP (.rp cs)=δ (.rp cs):=rfl
theorem mS(k:Nat)(cs:aq):WC k (.rp cs)=δ (.rp (cs.drop k)):=rfl
theorem adq{a b:Int}(h1:0<=a/\a<=65535)(h2:0<=b/\b<=65535):Gc [a,b]=δ 0:=by unfold Gc;rw[yc (f:=λ_ n=>if(!(aT n 0 65535))=θ then 1 else 0) (by show 2<=aZ;decide) (λi x _=>by show(if _ then _ else _)=_;by_cases h:(!(aT x 0 65535))=θ<;>simp only[h,if_true,if_false]<;>rfl)];simp only[jR,F4 h1.1 h1.2,F4 h2.1 h2.2];rfl
theorem at2{f:jI}(h:uj f):LF f=δ 0:=by obtain⟨s1,s2⟩:=h.s;obtain⟨d1,d2⟩:=h.d;obtain⟨t1,t2⟩:=h.t;have he:=h.e;unfold LF;rw[adq h.a h.b,aJ,aO (λq=>q rfl),F4 s1 s2,F4 d1 d2,F4 t1 t2,show ξ.wrap (f.start+f.cB)=f.start+f.cB from cq (by unfold aY;omega),cq (by unfold aY;omega),F4 (by omega) he,h.c];rfl
theorem au2{f:jI}(h:uj f){t:Int}(ht:0<=t)(ht2:t<=36000000)(σ:Heap):VV [.agg (iK f),.ah t] σ=δ (.aM [.ah (FU f t),.ah 0],σ):=by refine GA (z:=.ah 0) rfl (dO (nT rfl) rfl) (jr _) ?_;unfold acC;rw[Gu,bS,JD,bS,aj4 (at2 h),bS];simp only;rw[LL (r:=θ) (by unfold P9;rw[F4 ht ht2]),bS];simp only;rw[axN,bS,yl,bS];simp only;rw[show((((Ψ (.ah 0)).bind λv=>δ [v]).bind λc7=>(ir 0 c7 [(ε 0),(ε 0)]).bind λc8=>((Ψ (.ah (if ι=θ then 1 else 0))).bind λv=>δ [v]).bind λc9=>(ir 1 c9 c8).bind λeR=>δ eR).bind λcs=>δ (Yh 1 (iP 1 2 cs)))=δ (sl 1 oL [0,0])from rfl,bS,EL _ (by decide),bS];simp only;rw[show((Xx (λn=>decide (¬n=0)) ([0,0]:List Int)).getD 0)=0 from rfl,Ym,bS,cO (λq=>q rfl),dD,bS,avV h,bS];exact bD _ _
def wX (r:dU) (c:Int):Int:=FU r.gJ (if 36000000<c then 36000000 else c)
theorem ME{r:dU}(h:uj r.gJ){c:Int}(hc:0<=c)(σ:Heap):EA [.agg (gI r),.ah c] σ=δ (.ah (wX r c),σ):=by refine GA (z:=.ah 0) rfl (dO (nT rfl) rfl) (jr _) ?_;unfold aaJ;rw[Ax,bS,aa4,bS,show A.min (.ah c) (.ah 36000000)=δ (.ah (if 36000000<c then 36000000 else c))from rfl,bS,au2 h (by split<;>omega) (by split<;>omega),bS,lV,bS,ext1,bS];exact bD _ _
def eT(c:C5)(t:Int):Int:=if c.jV=θ then c.shown else ξ.wrap (ξ.wrap (c.shown+t) -c.since)
theorem MY(c:C5)(t:Int)(σ:Heap):Av [.agg (yq c),.ah t] σ=δ (.ah (eT c t),σ):=by
 refine RT rfl ?_;unfold aaQ eT;rw[aAS,bS,amN,bS];cases c.jV
 ·rw[dD,aO (by decide),abP,bS,nQ,bS,amM,bS,tP,bS];exact bD _ _
 ·rw[dL,aP rfl,abP,bS];exact bD _ _
def N0(r:dU):Int:=ξ.wrap (ξ.wrap (r.gJ.start+r.gJ.cB)+r.gJ.time)
theorem avf(r:dU)(σ:Heap):aAL [.agg (gI r)] σ=δ (.ah (N0 r),σ):=by refine Gz rfl (dO (nT rfl) rfl) (jr _) ?_;unfold aaW;rw[Ax,bS,an7,bS,an8,bS,nQ,bS,an9,bS,nQ,bS];exact bD _ _
def iC(b:bz):Int:=if b.eM<0\/b.aK.jV=θ then -1 else ξ.wrap (ξ.wrap (b.aK.since+b.eM) -b.aK.shown)
theorem ahb(b:bz)(σ:Heap):Ez [.rp (aU b)] σ=δ (.ah (iC b),σ):=by
 refine Gz rfl rfl (jr _) ?_;unfold aaI iC;rw[uH,bS,mS,bS,abA,bS,nw,bS];by_cases hf:b.eM<0
 ·rw[cL hf];simp only[Cv,bS,qm];rw[dL,aP (.inl hf)];exact bD _ _
 rw[cO hf];simp only[gF,bS,uH,mS,qM,Zz,ams];cases hs:b.aK.jV
 ·rw[dD,aO (λq=>q.elim hf (λq=>by cases q))];simp only[amr,show ∀(x:bz){σ:Heap},((χ (.rp (aU x)) σ).bind λc=>Γ 0 c)=δ (.ah x.aK.shown)from λ_ _=>rfl,abA,bS,nQ,tP];exact bD _ _
 ·rw[dL,aP (.inr rfl)];exact bD _ _
end
section
open HP
theorem gU(X:Option AV)(w:Bool)(d:Option AV):η (.aM []) w X d=d:=by have h:η (.aM []) w X d=d:=rfl;exact h.trans (Eq.refl d)
theorem zY(b:Bool):Wk (.bool b)=δ (.bool (!b)):=rfl
section
variable {κ ν : Type} [DecidableEq κ] {ek : A.EK} {eK : κ -> AV} {eV : ν -> AV} {σ : Heap} {o : Option (List (κ × ν))}
theorem anL(hq:∀a b,WN ek (eK a) (eK b)=δ (decide (a=b)))(x:κ)(z:AV)(hok:A.lS ek (eK x)=θ):A.GM ek (qI eK eV o) (eK x) z σ=δ (.aM [((dQ x (o.getD [])).map eV).getD z,.bool (dQ x (o.getD [])).isSome]):=by
 cases o with
 |none=>simp only[A.GM,qI,hok,cU,US,aJ,WO,dQ];rfl
 |some l=>simp only[A.GM,qI,yS,hok,cU,US,aJ,EV hq,cR,WU,Option.isSome_map]
theorem aqM(hq:∀a b,WN ek (eK a) (eK b)=δ (decide (a=b)))(x:κ)(z:AV)(hok:A.lS ek (eK x)=θ):Yt ek (qI eK eV o) (eK x) z σ=δ (((dQ x (o.getD [])).map eV).getD z):=by
 cases o with
 |none=>simp only[Yt,qI,hok,cU,US,aJ,WO,dQ];rfl
 |some l=>simp only[Yt,qI,yS,hok,cU,US,aJ,EV hq,cR,WU]
end
def avN:dU:=⟨⟨0,0,0,0,0,⟨0,[]⟩⟩,0,ι⟩
def eF(b:bz)(k:aC)(c:Int):dU×Bool:=match dQ k (b.runs.getD [])with
 |none=>(avN,ι)
 |some r=>(r,!(r.ending&&decide (N0 r<=c)))
abbrev rJ:aq:=[(ε 0),(ε 0),(ε 0),(ε 0),(ε 0),(ε 0),Zg,(ε 0),aR]
theorem MU{ro:Sh}{r:AV->AV->AV->Heap->aF}{x y z v v':AV}{σ σ':Heap}(e2:Y9 ro v=v')(e:r x y z σ=δ (v,σ')):Ω ι [] ro (X5 r) [x,y,z] σ=δ (v',σ'):=by have:X5 r [x,y,z] σ=δ (v,σ'):=e;simp only[Ω,U7,bQ,TQ,this,cR,e2]
theorem aAN{p q:AV}(b:bz)(k:aC)(c:Int)(σ:Heap)(h1:ZP p=δ p)(h2:WC 9 p=δ q)(h3:((χ q σ).bind λc=>Γ 0 c)=δ (qI (λx=>Φ (aS x)) (λx=>Φ (gI x)) b.runs)):wj [p,.agg (aS k),.ah c] σ=δ (.aM [.agg (gI (eF b k c).1),.bool (eF b k c).2],σ):=by
 suffices ∃v,Y9 (.t [(.a [.k,.k,.k,.k,.k,.k,(.s 2),.k,.k]),.k]) v=.aM [.agg (gI (eF b k c).1),.bool (eF b k c).2]/\TL p (.agg (aS k)) (.ah c) σ=δ (v,σ) by obtain⟨v,h1,h2⟩:=this;exact MU h1 h2
 unfold TL eF;rw[BV,bS,h1,bS,h2,bS,h3,bS,rB,bS,anL vq k _ rfl,bS,lV,bS,ext1,bS];cases dQ k (b.runs.getD [])with
 |none=>refine⟨.aM [.agg rJ,.bool ι],rfl,?_⟩;simp only[Zc,WO,Option.isSome_none];rw[show ψ 9 (.agg rJ)=δ rJ from rfl,bS,show ir 0 rJ rJ=δ rJ from rfl,bS,show VU 0 9 rJ=δ (.agg rJ)from rfl,bS];simp only[xP,gU,bS,qM,show ψ 9 (.agg rJ)=δ rJ from rfl,show ir 0 rJ rJ=δ rJ from rfl,show VU 0 9 rJ=δ (.agg rJ)from rfl];exact bD _ _
 |some r=>
  refine⟨.aM [.agg (gI r),.bool (!(r.ending&&decide (N0 r<=c)))],rfl,?_⟩;simp only[cR,WU,Option.isSome_some];rw[Ax,bS,CW _ _ rfl,bS,zo,bS];simp only[gT,bS,Mf];cases he:r.ending
  ·simp only[xP,bS,qM,qm,zY,Ax,zo,CW r _ (show rJ.length=9 from rfl)];exact bD _ _
  ·simp only[gT,bS,zo,eH (avf r σ),vD];simp only[bS,qm,zY,Ax,zo,CW r _ (show rJ.length=9 from rfl)];exact bD _ _
theorem aqB(b:bz)(k:aC)(c:Int)(σ:Heap):wj [.rp (aU b),.agg (aS k),.ah c] σ=δ (.aM [.agg (gI (eF b k c).1),.bool (eF b k c).2],σ):=aAN b k c σ rfl rfl (Jb b)
def mn(a b:Int):Int:=if b<a then b else a
theorem aBo(a b:Int):A.min (.ah a) (.ah b)=δ (.ah (mn a b)):=rfl
def wC(f:jI):jI:={f with start:=mn f.start 36000000,cB:=mn f.cB (ξ.wrap (36000000-mn f.start 36000000)),time:=mn f.time (ξ.wrap (ξ.wrap (36000000-mn f.start 36000000) -mn f.cB (ξ.wrap (36000000-mn f.start 36000000))))}
abbrev Dd:aq:=[(ε 0),(ε 0),(ε 0),(ε 0),(ε 0),(ε 0),Zg]
theorem uu(n:Int):((Ψ (.ah n)).bind λv=>δ [v])=δ [.ah n]:=rfl
theorem avL(f:jI)(n:Int):ir 2 [.ah n] (iK f)=δ (iK {f with start:=n}):=rfl
theorem ahu(f:jI)(n:Int):ir 3 [.ah n] (iK f)=δ (iK {f with cB:=n}):=rfl
theorem Na(f:jI)(n:Int):ir 4 [.ah n] (iK f)=δ (iK {f with time:=n}):=rfl
theorem XV(f:jI)(σ:Heap):zf [.agg (iK f)] σ=δ (.agg (iK (wC f)),σ):=by refine Gz rfl (dO (nT rfl) rfl) (v:=.agg (iK (wC f))) rfl ?_;unfold acE wC;rw[Gu,bS,QI,bS,aBo,bS,uu,bS,avL,bS,VZ,bS,QI,bS,tP,bS,aBo,bS,uu,bS,ahu,bS,acy,bS,QI,bS,tP,bS,VZ,bS,tP,bS,aBo,bS,uu,bS,Na,bS,JD,bS,Gu,bS,Ru _ _ rfl,bS,JD,bS];exact bD _ _
end
section
open HP
def As(a b:Int):Int:=(2*(a*b)+65535) / 131070
theorem ars{a b:Int}(h1:0<=a/\a<=65535)(h2:0<=b/\b<=65535):LV a b=δ (As a b,0):=by
 have m:=EX h1.1 h1.2 h2.1 h2.2;unfold LV;rw[adq h1 h2,aJ,aO (λq=>q rfl)];unfold L0 LZ As;rw[show ξ.wrap (a*b)=a*b from cq (by unfold aY;omega),show ξ.wrap (2*(a*b))=2*(a*b)from cq (by unfold aY;omega),show ξ.wrap (2*(a*b)+65535)=2*(a*b)+65535 from cq (by unfold aY;omega),show ξ.wrap (2*65535)=131070 from cq (by unfold aY;omega)]
 have q1:N2 (2*(a*b)+65535) 131070=δ ((2*(a*b)+65535) / 131070):=by unfold N2;rw[aO (by decide),aD9 (by omega),cq (by unfold aY;omega)]
 have q2:N3 (2*(a*b)+65535) 131070=δ ((2*(a*b)+65535) % 131070):=by unfold N3;rw[aO (by decide),Int.tmod_eq_emod_of_nonneg (by omega)]
 rw[q1,aJ,q2,aJ,aO (by omega)];rfl
theorem afR{a b:Int}(h1:0<=a/\a<=65535)(h2:0<=b/\b<=65535)(σ:Heap):LR [.ah a,.ah b] σ=δ (.aM [.ah (As a b),.ah 0],σ):=als (ars h1 h2)
theorem auL{a b:Int}(h1:0<=a/\a<=65535)(h2:0<=b/\b<=65535):0<=As a b/\As a b<=65535:=by have m:=EX h1.1 h1.2 h2.1 h2.2;unfold As;omega
theorem atF{a b:Int}(ha:0<=a/\a<=65535)(hb:0<=b/\b<=65535){n d:Nat}(hnd:n<=d)(hd:0<d):0<=Hv a b n d/\Hv a b n d<=65535:=by
 unfold Hv
 have key:∀m:Nat,(2*m*n+d) / (2*d)<=m:=λm=>by
  refine Nat.le_of_lt_succ ((aDC (by omega)).2 ?_);have:m*n<=m*d:=Nat.mul_le_mul_left _ hnd;have e1:2*m*n=2*(m*n):=ZM _ _ _;have e2:(m+1)*(2*d)=2*(m*d)+2*d:=by rw[iG,U5];omega
  rw[e1,e2];omega
 split
 ·have:=key (b-a).toNat;generalize (2*(b-a).toNat*n+d) / (2*d)=q at this ⊢;omega
 ·have k:=key (a-b).toNat;have:(2*(a-b).toNat*n+d-1) / (2*d)<=(2*(a-b).toNat*n+d) / (2*d):=Nat.div_le_div_right (by omega);generalize (2*(a-b).toNat*n+d) / (2*d)=q at this k;generalize (2*(a-b).toNat*n+d-1) / (2*d)=q' at this ⊢;omega
theorem aur{f:jI}(h:uj f)(t:Int):0<=FU f t/\FU f t<=65535:=by
 obtain⟨a1,a2⟩:=h.a;obtain⟨b1,b2⟩:=h.b;obtain⟨s1,s2⟩:=h.s;obtain⟨d1,d2⟩:=h.d;obtain⟨t1,t2⟩:=h.t;have he:=h.e;unfold FU;split
 ·exact⟨b1,b2⟩
 split
 ·exact⟨a1,a2⟩
 obtain⟨_,l1,l2,_⟩:=ahw h.c (p:=(t-(f.start+f.cB)).toNat) (q:=f.time.toNat) (by omega) (by omega) (by omega) [];exact atF ⟨a1,a2⟩ ⟨b1,b2⟩ l1 l2
theorem J4{r:dU}(h:uj r.gJ)(c:Int):0<=wX r c/\wX r c<=65535:=aur h _
structure wu (b : bz) (t : Int) : Prop where
 runs:∀k r,dQ k (b.runs.getD [])=δ r->uj r.gJ
 jc:0<=b.jc/\b.jc<=65535
 uQ:0<=eT b.aK t
def gr(d:cr)(k:aC):Int×Int×Bool:=match dQ k (d.params.getD [])with
 |none=>(0,0,ι)
 |some p=>(p.group,p.default,p.snap)
abbrev GU:aq:=[bE,(ε 0),(ε 0),(ε 0),(ε 0),aR,Zg]
def mh(d:cr)(k:aC):aq:=match dQ k (d.params.getD [])with
 |none=>GU
 |some p=>cG p
theorem aeB(d:cr)(k:aC)(σ:Heap):Yt (.s [0,2]) (qI (λx=>Φ (aS x)) (λx=>Φ (cG x)) d.params) (.agg (aS k)) (.agg GU) σ=δ (.agg (mh d k)):=by rw[aqM vq k _ rfl];unfold mh;cases dQ k (d.params.getD [])<;>rfl
theorem JU(d:cr)(k:aC):ψ 7 (.agg (mh d k))=δ (mh d k):=by unfold mh;cases dQ k (d.params.getD [])<;>rfl
theorem agM(d:cr)(k:aC):ir 0 (mh d k) GU=δ (mh d k):=by
 unfold mh;cases dQ k (d.params.getD [])
 ·rfl
 ·exact nY _ _ rfl
theorem Da(d:cr)(k:aC):Γ 1 (mh d k)=δ (.ah (gr d k).1):=by unfold mh gr;cases dQ k (d.params.getD [])<;>rfl
theorem auC(d:cr)(k:aC):Γ 4 (mh d k)=δ (.ah (gr d k).2.1):=by unfold mh gr;cases dQ k (d.params.getD [])<;>rfl
theorem auD(d:cr)(k:aC):Γ 5 (mh d k)=δ (.bool (gr d k).2.2):=by unfold mh gr;cases dQ k (d.params.getD [])<;>rfl
structure HD where
 out:Int
 owner:Int
 pri:Int
 nN:Int
def Ft (g:Int) (b:bz) (r:dU) (c:Int):Int:=if g=1 then As (wX r c) b.jc else wX r c
def uo (g:Int) (k:aC) (t:Int) (s:HD) (b:bz):HD:=
 if(eF b k (eT b.aK t)).2=ι\/b.kD<s.pri then s
 else if s.pri<b.kD\/(g=1/\s.out<Ft g b (eF b k (eT b.aK t)).1 (eT b.aK t))\/(¬g=1/\s.nN<(eF b k (eT b.aK t)).1.nN)then⟨Ft g b (eF b k (eT b.aK t)).1 (eT b.aK t),b.az,b.kD,(eF b k (eT b.aK t)).1.nN⟩
 else s
def sR (d:cr) (bs:List bz) (k:aC) (t:Int):HD:=bs.foldl (uo (gr d k).1 k t) ⟨(gr d k).2.1,0,-1,0⟩
theorem kg(cs:aq):Tv (.lbx cs)=δ cs:=rfl
theorem C6{b:bz}{t:Int}(h:wu b t){k:aC}(hd:(eF b k (eT b.aK t)).2=θ):uj (eF b k (eT b.aK t)).1.gJ:=by
 have h:=h.runs k;revert hd h;unfold eF;generalize dQ k (b.runs.getD [])=o;cases o with
 |none=>intro hd;cases hd
 |some r=>intro _ h;exact h r rfl
theorem aqr(b:bz)(σ:Heap):((χ (.rp ((aU b).drop 0)) σ).bind λc=>VU 0 3 c)=δ (.agg (yq b.aK)):=rfl
theorem amK{d:cr}{s:dH}{k:aC}{t:Int}(hs:s.aH.length<=aZ){i:Nat}{b:bz}(hb:s.aH[i]? =δ b)(ho:wu b t)(m:HD)(σ:Heap):(Lu (ZN (wo s)) (ε t) (ε (s.aH.length:Int))) [.lbx (aS k),.lbx (mh d k),.ah m.out,.ah m.owner,.ah m.pri,.ah m.nN,.ah (i:Int)] σ=δ (.normal,[.lbx (aS k),.lbx (mh d k),.ah (uo (gr d k).1 k t m b).out,.ah (uo (gr d k).1 k t m b).owner,.ah (uo (gr d k).1 k t m b).pri,.ah (uo (gr d k).1 k t m b).nN,.ah ((i+1:Nat):Int)],σ):=by
 try unfold Lu
 simp only[cH,dr];rw[iR hb,bS,dL,uH,bS,mS,bS,abD,bS,gH hb,bS,uH,bS,mS,bS,aqr,bS,MY,bS];simp only;rw[kg,bS,rB,bS,aqB,bS];simp only;rw[lV,bS,ext1,bS,Ax,bS,CW _ _ rfl,bS,zY,bS];unfold uo;cases hd:(eF b k (eT b.aK t)).2
 ·rw[aP (.inl rfl)];simp only[Yx,Cv,bS,qm];rw[dL,fT hb hs,bS]
 have hok:=C6 ho hd;have hbd:=J4 hok (eT b.aK t);simp only[Ur,gF,bS,uH,mS,L2,nw,qM];by_cases hp:b.kD<m.pri
 ·rw[cL hp,dL,fT hb hs,bS,aP (.inr hp)]
 rw[cO hp,dD,aO (λq=>q.elim (λq=>by cases q) hp),zo,bS,ME hok ho.uQ,bS];simp only;rw[kg,bS,bS,bS,Da,bS,jL,bS];generalize hr:(eF b k (eT b.aK t)).1=r at hok hbd ⊢;generalize hg:(gr d k).1=g;unfold Ft;by_cases h1:g=1
 ·rw[cL h1,dL];simp only[uH,bS,mS,amt,afR hbd ho.jc,lV,ext1,aP h1];generalize As (wX r (eT b.aK t)) b.jc=n;by_cases h2:m.pri<b.kD
  ·simp only[cL h2,Kg,Cv,gU,bS,qm,kg,cH,dr,cT,uH,mS,Qn,L2,Jn,aP (Or.inl h2),fT hb hs]
  simp only[cO h2,Kg,gF,gT,bS,qM,qm,kg,Da,hg,jL,cL h1,cH,dr];by_cases h3:m.out<n
  ·have hc:m.pri<b.kD\/(g=1/\m.out<n)\/(¬g=1/\m.nN<r.nN):=.inr (.inl ⟨h1,h3⟩);simp only[cL h3,Cv,gU,bS,qm,cT,uH,mS,Qn,L2,kg,Jn,aP hc,fT hb hs,cH,dr]
  ·have hc:¬(m.pri<b.kD\/(g=1/\m.out<n)\/(¬g=1/\m.nN<r.nN)):=λq=>q.elim h2 λq=>q.elim (λq=>h3 q.2) λq=>q.1 h1
   simp only[cO h3,gF,xP,gU,bS,qM,cF,kg,Da,hg,fV,decide_not,cL h1,Ur,aO hc,fT hb hs,cH,dr]
 ·rw[cO h1,dD];simp only[uH,bS,mS,aO h1];generalize wX r (eT b.aK t)=n;by_cases h2:m.pri<b.kD
  ·simp only[cL h2,Kg,Cv,gU,bS,qm,kg,cH,dr,cT,uH,mS,Qn,L2,Jn,aP (Or.inl h2),fT hb hs]
  simp only[cO h2,Kg,gF,xP,gU,bS,qM,kg,Da,hg,jL,fV,decide_not,cO h1,Yx,gT,cH,dr,Jn];by_cases h4:m.nN<r.nN
  ·have hc:m.pri<b.kD\/(g=1/\m.out<n)\/(¬g=1/\m.nN<r.nN):=.inr (.inr ⟨h1,h4⟩);simp only[cL h4,qm,bS,cT,uH,mS,Qn,L2,kg,Jn,aP hc,fT hb hs,cH,dr]
  ·have hc:¬(m.pri<b.kD\/(g=1/\m.out<n)\/(¬g=1/\m.nN<r.nN)):=λq=>q.elim h2 λq=>q.elim (λq=>h1 q.1) λq=>h4 q.2
   simp only[cO h4,qm,bS,cF,aO hc,fT hb hs,cH,dr]
theorem amJ{d:cr}{s:dH}{k:aC}{t:Int}(hs:s.aH.length<=aZ)(ho:∀b∈s.aH,wu b t)(m:HD)(σ:Heap):∃q,Y7 (Lu (ZN (wo s)) (ε t) (ε (s.aH.length:Int))) [.lbx (aS k),.lbx (mh d k),.ah m.out,.ah m.owner,.ah m.pri,.ah m.nN,.ah 0] σ=δ q/\∃u,q=(.exit 0,[.lbx (aS k),.lbx (mh d k),.ah (s.aH.foldl (uo (gr d k).1 k t) m).out,.ah (s.aH.foldl (uo (gr d k).1 k t) m).owner,.ah (s.aH.foldl (uo (gr d k).1 k t) m).pri,.ah (s.aH.foldl (uo (gr d k).1 k t) m).nN,u],σ):=by
 refine qt (λz v w=>∃(i:Nat)(x:HD),v=[.lbx (aS k),.lbx (mh d k),.ah x.out,.ah x.owner,.ah x.pri,.ah x.nN,.ah (i:Int)]/\w=σ/\z=s.aH.length-i/\i<=s.aH.length/\(s.aH.drop i).foldl (uo (gr d k).1 k t) x=s.aH.foldl (uo (gr d k).1 k t) m) ?_ (n:=s.aH.length) ⟨0,m,rfl,rfl,rfl,kW _,rfl⟩;rintro z v w ⟨i,x,rfl,rfl,hz,hi,hT⟩;by_cases h:i<s.aH.length
 ·have hb:s.aH[i]? =δ s.aH[i]:=cC h;refine .inl ⟨s.aH.length-(i+1),_,_,by omega,amK hs hb (ho _ (aDo h)) x w,i+1,uo (gr d k).1 k t x s.aH[i],rfl,rfl,rfl,by omega,?_⟩;rw[UG h]at hT;exact hT
 ·have:i=s.aH.length:=by omega
  subst this;rw[aDp]at hT;simp only[aDM]at hT;subst hT;try unfold Lu
  simp only[cH,dr];rw[iQ,bS,dD];exact .inr ⟨_,rfl,by simp,_,rfl⟩
theorem ae3{s:List Sh}{ro:Sh}{r:AV->AV->AV->AV->Heap->aF}{x y z u v v':AV}{σ:Heap}(h:[x,y,z,u].any A.own=ι)(e1:TQ s [x,y,z,u]=[x,y,z,u])(e2:Y9 ro v=v')(e:r x y z u σ=δ (v,σ)):Ω θ s ro (A.yM r) [x,y,z,u] σ=δ (v',σ):=by refine wrap_eq h ?_ e2;rw[e1];exact e
theorem aeE{d:cr}{s:dH}{k:aC}{t:Int}(hs:s.aH.length<=aZ)(ho:∀b∈s.aH,wu b t)(σ:Heap):IF [.rp (vu d),.rp (wo s),.agg (aS k),.ah t] σ=δ (.aM [.ah (sR d s.aH k t).out,.ah (sR d s.aH k t).owner],σ):=by refine ae3 rfl rfl (jr _) ?_;unfold aax;rw[BV,bS,uH,bS,mS,bS,abB,bS,rB,bS,aeB,bS,JU,bS,agM,bS,auC,bS,uH,bS,mS,bS,abD,bS,fu,bS];refine D6 (EW (amJ (d:=d) hs ho ⟨(gr d k).2.1,0,-1,0⟩ σ) ?_);rintro q ⟨u,rfl⟩;simp only[qj,cH,dr];exact⟨_,bD _ _,rfl⟩
end
section
open HP
def tI(l:List iE):Int:=match l.getLast? with
 |none=>0
 |some a=>a.time
theorem af0(d:cr)(hl:d.eu.length<=aZ)(σ:Heap):IN [.rp (vu d)] σ=δ (.ah (tI d.eu),σ):=by
 refine Gz rfl rfl (jr _) ?_;unfold aaG tI;rw[uH,bS,mS,bS,abC,bS,fu,bS,jL,bS];by_cases h:d.eu.length=0
 ·rw[cL (by omega),dL,xC h];exact bD _ _
 ·have hx:d.eu[d.eu.length-1]? =δ (d.eu[d.eu.length-1]'(by omega)):=cC _
  rw[cO (by omega),dD];simp only[uH,mS,bS,abC,fu];rw[tP,cq (by unfold aY;unfold aZ at hl;omega),bS,show((d.eu.length:Int) -1)=((d.eu.length-1:Nat):Int) by omega,gH hx,bS,mS,bS,List.getLast?_eq_getElem?,hx]
  exact(congrArg (aDN · λx=>wh σ x σ) (show((χ (.rp ((dR (d.eu[d.eu.length-1]'(by omega))).drop 0)) σ).bind λc=>Γ 0 c)=δ (.ah (d.eu[d.eu.length-1]'(by omega)).time)from rfl)).trans (bD _ _)
def ux(l:List iE)(t:Int):Int:=if aT t 0 36000000=θ then(if decide (t<tI l)=θ then 7 else 0)else 1
theorem aeu(t:Int)(σ:Heap):LU [.ah t] σ=δ (.bool (aT t 0 36000000),σ):=by refine Gz rfl rfl (jr _) ?_;unfold aa5;rw[mL,bS];exact bD _ _
theorem ah5(a b:Int):(((((Ψ (.ah a)).bind λv=>δ [v]).bind λc7=>(ir 0 c7 [(ε 0),(ε 0)]).bind λc8=>((Ψ (.ah b)).bind λv=>δ [v]).bind λc9=>(ir 1 c9 c8).bind λeR=>δ eR).bind λcs=>δ (Yh 1 (iP 1 2 cs))))=δ (sl 1 oL [a,b]):=rfl
theorem auT(d:cr)(hl:d.eu.length<=aZ)(t:Int)(σ:Heap):F9 [.rp (vu d),.ah t] σ=δ (.ah (ux d.eu t),σ):=by refine GA (z:=.aA) rfl rfl (jr _) ?_;unfold aaH ux;rw[aeu,bS];simp only;rw[zY,bS,yl,bS];simp only;rw[af0 d hl,bS];simp only;rw[nw,bS,yl,bS];simp only;generalize aT t 0 36000000=w;generalize decide (t<tI d.eu)=e;rw[ah5,bS,EL _ (by show 2<=aZ;decide),bS];cases w<;>cases e<;>exact bD _ _
theorem asD{d:cr}{s:dH}{k:aC}{t:Int}(hs:s.aH.length<=aZ)(ho:∀b∈s.aH,wu b t)(hg:0<=s.oG/\s.oG<=65535)(hm:(gr d k).1=1->0<=(sR d s.aH k t).out/\(sR d s.aH k t).out<=65535)(σ:Heap):LC [.rp (vu d),.rp (wo s),.agg (aS k),.ah t] σ=δ (.ah (if ¬(gr d k).1=1 then(sR d s.aH k t).out else if s.black=θ then 0 else As (sR d s.aH k t).out s.oG),σ):=by
 refine ae3 rfl rfl (jr _) ?_;unfold aaD;rw[BV,bS,rB,bS,aeE hs ho,bS];simp only;rw[lV,bS,ext1,bS,uH,bS,mS,bS,abB,bS,bS,aeB,bS,JU,bS,Da,bS,fV,bS];by_cases h1:(gr d k).1=1
 ·rw[cO (λq=>q h1),dD,uH,bS,mS,bS,amv,bS,aO (λq=>q h1)];cases s.black
  ·rw[dD,bS,mS,bS,amu,bS,afR (hm h1) hg,bS];simp only;rw[lV,bS,ext1,bS];exact bD _ _
  ·rw[dL];exact bD _ _
 ·rw[cL h1,dL,aP h1];exact bD _ _
end
section
open HP
def JW(g:Int)(x:bA)(fC to c:Int):jI:=⟨fC,to,c,x.cB,if g=1 then(if to<fC then x.down else x.up)else x.other,x.fM⟩
def MM(x:bA)(k:aC)(f:jI):jI:=match x.dF.find? (λm=>decide (m.key=k))with
 |none=>f
 |some m=>if m.zO=θ then{f with cB:=m.cB,time:=m.time}else f
def GI(snap:Bool)(f:jI):jI:=if snap=θ then{f with time:=0}else f
def Ce(d:cr)(x:bA)(k:aC)(fC to c:Int):jI:=wC (GI (gr d k).2.2 (MM x k (JW (gr d k).1 x fC to c)))
theorem aqJ(m:gf)(k:aC)(σ:Heap):IE [.agg (ff m),.rp (aS k)] σ=δ (.bool (decide (m.key=k)),σ):=by refine RT rfl ?_;unfold aaq;rw[show ψ 8 (.agg (ff m))=δ (ff m)from rfl,bS,show VU 0 2 (ff m)=δ (.agg (aS m.key))from rfl,bS,qG,bS,rB,bS,R1,bS];exact bD _ _
theorem auX{ro:Sh}{r:AV->AV->AV->AV->AV->AV->Heap->aF}{x y z u p q v v':AV}{σ σ':Heap}(e2:Y9 ro v=v')(e:r x y z u p q σ=δ (v,σ')):Ω ι [] ro (A.HF r) [x,y,z,u,p,q] σ=δ (v',σ'):=by have:A.HF r [x,y,z,u,p,q] σ=δ (v,σ'):=e;simp only[Ω,U7,bQ,TQ,this,cR,e2]
theorem aqX(fC to c:Int)(x:bA):((((Ψ (.ah fC)).bind λv=>δ [v]).bind λc6=>(ir 0 c6 [(ε 0),(ε 0),(ε 0),(ε 0),(ε 0),(ε 0),Zg]).bind λc7=>((Ψ (.ah to)).bind λv=>δ [v]).bind λc8=>(ir 1 c8 c7).bind λc9=>((Ψ (.ah c)).bind λv=>δ [v]).bind λeR=>(ir 2 eR c9).bind λfq=>((Ψ (.ah x.cB)).bind λv=>δ [v]).bind λcZ=>(ir 3 cZ fq).bind λfU=>((Ψ (.ah x.other)).bind λv=>δ [v]).bind λia=>(ir 4 ia fU).bind λjj=>(ψ 2 (.agg (lR x.fM))).bind λjY=>(ir 5 jY jj).bind λlW=>δ lW).bind λcs=>δ (Φ cs))=δ (.agg (iK ⟨fC,to,c,x.cB,x.other,x.fM⟩)):=rfl
theorem agd(g:jI)(σ:Heap):(((Tv (.lbx (iK g))).bind λsM=>VU 0 7 sM).bind λqQ=>(zf [qQ] σ).bind λBy=>(Tv (.lbx Dd)).bind λqE=>(ψ 7 By.1).bind λuN=>(ir 0 uN qE).bind λuO=>(VU 0 7 uO).bind λx90=>wh σ x90 By.2)=δ (.agg (iK (wC g)),σ):=by rw[kg,bS,JD,bS,XV,bS];simp only;rw[kg,bS,Gu,bS,Ru _ _ rfl,bS,JD,bS];exact bD _ _
theorem ac7(d:cr)(k:aC)(f1:jI)(σ:Heap):((Γ 5 (mh d k)).bind λsY=>(φ sY (δ ([(VD Dd),(VD (iK {f1 with time:=0}))],σ)) (δ ([(VD Dd),(VD (iK f1))],σ))).bind λtZ=>((Tv (aj tZ.1 1)).bind λsM=>VU 0 7 sM).bind λqQ=>(zf [qQ] tZ.2).bind λBy=>(Tv (aj tZ.1 0)).bind λqE=>(ψ 7 By.1).bind λuN=>(ir 0 uN qE).bind λuO=>(VU 0 7 uO).bind λx90=>wh σ x90 By.2)=δ (.agg (iK (wC (GI (gr d k).2.2 f1))),σ):=by
 rw[auD,bS];unfold GI;cases(gr d k).2.2
 ·rw[dD,bS];simp only[cH,dr];exact agd f1 σ
 ·rw[dL,bS];simp only[cH,dr];exact agd {f1 with time:=0} σ
theorem aeh(d:cr)(k:aC)(f1:jI)(σ:Heap):((Γ 5 (mh d k)).bind λsY=>(φ sY (((Ψ (ε 0)).bind λv=>δ [v]).bind λD2=>(ir 4 D2 (iK f1)).bind λyQ=>δ ([(VD Dd),(VD yQ)],σ)) (δ ([(VD Dd),(VD (iK f1))],σ))).bind λtZ=>((Tv (aj tZ.1 1)).bind λsM=>VU 0 7 sM).bind λqQ=>(zf [qQ] tZ.2).bind λBy=>(Tv (aj tZ.1 0)).bind λqE=>(ψ 7 By.1).bind λuN=>(ir 0 uN qE).bind λuO=>(VU 0 7 uO).bind λx90=>wh σ x90 By.2)=δ (.agg (iK (wC (GI (gr d k).2.2 f1))),σ):=by rw[uu,bS,Na,bS];exact ac7 d k f1 σ
theorem aua{p q pm:AV}(d:cr)(x:bA)(hm:x.dF.length<=aZ)(k:aC)(fC to c:Int)(σ:Heap)(h1:ZP p=δ p)(h2:WC 10 p=δ q)(h3:((χ q σ).bind λc=>Γ 0 c)=δ pm) (h4:Yt (.s [0,2]) pm (.agg (aS k)) (.agg GU) σ=δ (.agg (mh d k))):IP [p,.agg (bg x),.agg (aS k),.ah fC,.ah to,.ah c] σ=δ (.agg (iK (Ce d x k fC to c)),σ):=by
 refine auX (v:=.agg (iK (Ce d x k fC to c))) rfl ?_;unfold Ud Ce;rw[JI,bS,BV,bS,bS,Wq,bS,adB,bS,UQ,bS,aqX,bS,Gu,bS,Ru _ _ rfl,bS,h1,bS,h2,bS,h3,bS,qG,bS,rB,bS,h4,bS,JU,bS,agM,bS,Da,bS,jL,bS];have Ec:∀w,Li (Zw (λ_ _=>μ) [(349,IE)]) [sl 8 ff x.dF,.fn 349 [.rp (aS k)]] w=δ (.ah (iT (λm:gf=>decide (m.key=k)) x.dF),w):=λw=>aiv _ x.dF hm _ _ _ w λm _=>aqJ m k w
 have A1:∀(f0:jI),(φ (.bool (decide ((gr d k).1=1))) ((Γ 3 (bg x)).bind λiN=>((Ψ iN).bind λv=>δ [v]).bind λuL=>(ir 4 uL (iK f0)).bind λkX=>(YY (.ah to) (.ah fC)).bind λiD=>(φ iD ((Γ 4 (bg x)).bind λx38=>((Ψ x38).bind λv=>δ [v]).bind λoN=>(ir 4 oN kX).bind λoO=>δ ([(VD (bg x)),(VD Dd),(VD oO),(VD (mh d k))],σ)) (δ ([(VD (bg x)),(VD Dd),(VD kX),(VD (mh d k))],σ))).bind λlP=>δ ([(aj lP.1 0),(aj lP.1 1),(aj lP.1 2),(aj lP.1 3)],lP.2)) (δ ([(VD (bg x)),(VD Dd),(VD (iK f0)),(VD (mh d k))],σ)))=δ ([(VD (bg x)),(VD Dd),(VD (iK {f0 with time:=if(gr d k).1=1 then(if to<fC then x.down else x.up)else f0.time})),(VD (mh d k))],σ):=by
  intro f0;by_cases h1:(gr d k).1=1
  ·simp only[cL h1,cT,adA,bS,uu,Na,nw,aP h1];by_cases h2:to<fC
   ·simp only[cL h2,cT,Wr,bS,uu,Na,aP h2,cH,dr]
   ·simp only[cO h2,cF,bS,aO h2,cH,dr]
  ·simp only[cO h1,cF,aO h1]
 rw[A1,bS];simp only[cH,dr,kg,bS,acu,Ec,vD];unfold MM;change _=δ (Φ (iK (wC (GI (gr d k).2.2 (match x.dF.find? (λm=>decide (m.key=k))with|none=>_|some m=>_)))),σ);rcases td (λm:gf=>decide (m.key=k)) x.dF with⟨e1,_,e2⟩|⟨j,m,e1,e2,e3,e4,_⟩
 ·rw[e1,e2];simp only[show decide ((0:Int)<=-1)=ι from cO (by decide),xP,gU,bS,qM,cF,cH,dr,kg];exact aeh d k _ σ
 ·rw[e3,e4];simp only[cL (show(0:Int)<=(j:Int) by omega),gT,bS,gH e1,mS,qm,show((χ (.rp ((ff m).drop 5)) σ).bind λc=>Γ 0 c)=δ (.bool m.zO)from rfl];cases m.zO
  ·simp only[cF,bS,cH,dr,kg];exact aeh d k _ σ
  ·simp only[cT,bS,show((χ (.rp ((ff m).drop 6)) σ).bind λc=>Γ 0 c)=δ (.ah m.cB)from rfl,show((χ (.rp ((ff m).drop 7)) σ).bind λc=>Γ 0 c)=δ (.ah m.time)from rfl,uu,ahu,Na,cH,dr,kg];exact ac7 d k ⟨fC,to,c,m.cB,m.time,x.fM⟩ σ
end
section
open HP
def fG(p:aC×dU):AV×AV:=(.agg (aS p.1),.agg (gI p.2))
theorem abR{α β:Type}(f:α->β):∀(l:List α){L:List β},L.Perm (l.map f)->∃l':List α,l'.Perm l/\l'.map f=L
 |[],L,h=>⟨[],.refl _,by have:=List.Perm.eq_nil h;rw[this];rfl⟩
 |x::l,L,h=>by have hx:f x∈L:=h.mem_iff.2 (by simp);obtain⟨s,t,rfl⟩:=List.append_of_mem hx;have h2:(s++t).Perm (l.map f):=(List.perm_cons (f x)).1 (aC2.symm.trans h);obtain⟨l',k1,k2⟩:=abR f l h2;obtain⟨a,b,rfl,e1,e2⟩:=List.map_eq_append_iff.1 k2;exact⟨a++x::b,aC2.trans (k1.cons x),by simp [e1,e2]⟩
theorem Xa(l:List (aC×dU)):∃l':List (aC×dU),l'.Perm l/\l'.map fG=A.Cl (l.map fG):=abR fG l (Wg (l.map fG))
def DA (l:List (aC×dU)):List (aC×dU):=To (Xa l)
theorem Js(l:List (aC×dU)):(DA l).Perm l:=(Vm (Xa l)).1
theorem ad8(l:List (aC×dU)):(DA l).map fG=A.Cl (l.map fG):=(Vm (Xa l)).2
theorem aql(l:List (aC×dU)):A.Cl ((DA l).map fG)=(DA l).map fG:=by rw[ad8];exact acZ (Wg _)
theorem ad7{a b:aC}(h:Φ (aS a)=Φ (aS b)):a=b:=by
 injection h with h
 simp only[aS,aCW,Wz.injEq,Xo.injEq,and_true,true_and]at h;obtain⟨u,p⟩:=a;obtain⟨u',p'⟩:=b;simp only at h;rw[h.1,h.2]
theorem avc{l:List (aC×dU)}(h:(l.map (·.1)).Nodup):J8 (l.map fG):=by
 refine⟨λp hp=>?_,?_⟩
 ·obtain⟨q,_,rfl⟩:=gh.1 hp;exact⟨q.1.unit,q.1.param,rfl⟩
 ·rw[YG];have e:((·.1)∘fG)=(λk:aC=>Φ (aS k))∘(λp:aC×dU=>p.1):=rfl;rw[e,<-YG];exact TO.2 (List.Pairwise.imp (λq e=>q (ad7 e)) h)
def GW(o:Option (List (aC×dU))):Prop:=∀l,o=δ l->(l.map (·.1)).Nodup/\A.Cl (l.map fG)=l.map fG
theorem af7{l:List (aC×dU)}(h:(l.map (·.1)).Nodup):A.can (.fm (l.map fG))=.fm (A.Cl (l.map fG)):=by unfold A.can;exact aP (avc h)
theorem arV{o:Option (List (aC×dU))}(h:GW o):A.can (qI (λx=>Φ (aS x)) (λx=>Φ (gI x)) o)=qI (λx=>Φ (aS x)) (λx=>Φ (gI x)) o:=by
 cases o with
 |none=>rfl
 |some l=>obtain⟨h1,h2⟩:=h l rfl;show A.can (.fm (l.map fG))=.fm (l.map fG);rw[af7 h1,h2]
theorem ao4{b:bz}(h:GW b.runs):(aU b).map A.can=aU b:=by unfold aU;simp only[eP,Vl,arV h];rfl
def xG(d:cr)(e:bB):Int:=(xq d.setup.bn e.key e.value).1
def Ki (d:cr) (s:dH) (b:bz) (k:aC) (t c:Int):Int:=if(eF b k c).2=θ then wX (eF b k c).1 c else if ¬(gr d k).1=1 then(sR d s.aH k t).out else 0
def yx (d:cr) (s:dH) (b:bz) (x:bA) (t c:Int) (e:bB):dU:=
 if(eF b e.key c).2=θ/\(eF b e.key c).1.ending=ι/\(eF b e.key c).1.gJ.to=xG d e then(eF b e.key c).1
 else⟨Ce d x e.key (Ki d s b e.key t c) (xG d e) c,s.az,ι⟩
def wm (d:cr) (s:dH) (b:bz) (x:bA) (c:Int) (seen:List bB) (k:aC):Option dU:=
 if(eF b k c).2=ι\/(jo seen k).isSome=θ\/¬(gr d k).1=1 then μ
 else δ (if(eF b k c).1.ending=θ then(eF b k c).1 else⟨wC ⟨wX (eF b k c).1 c,0,c,x.cB,x.down,x.fM⟩,s.az,θ⟩)
def rI(b:bz)(x:bA):List bB:=(AE b.bH x.az).1
def zA (d:cr) (s:dH) (b:bz) (x:bA) (t:Int):List (aC×dU):=(rI b x).map (λe=>(e.key,yx d s b x t (eT b.aK t) e))++(b.runs.getD []).filterMap (λp=>(wm d s b x (eT b.aK t) (rI b x) p.1).map (λr=>(p.1,r)))
def lB (d:cr) (s:dH) (b:bz) (x:bA) (to t:Int):bz:=
 {b with aK:=⟨eT b.aK t,t,ι⟩,cK:=to,runs:=δ (DA (zA d s b x t)),eM:=if 0<=x.eM/\to+1<(b.bH.length:Int)then ξ.wrap (eT b.aK t+x.eM)else -1}
abbrev XQ:Sh:=.p HC
abbrev Xy:Sh:=.p [(.s 10),.k,.k,.k]
structure wI (p : AV) (d : cr) (σ : Heap) : Prop where
 nc:ZP p=δ p
 f2:∃q1 q2,WC 4 p=δ q1/\WC 2 q1=δ q2/\∀ex,((χ q2 (σ++ex)).bind λc=>Γ 0 c)=δ (sl 3 dX d.setup.bn)
 f10:∃q pm,WC 10 p=δ q/\∀ex,((χ q (σ++ex)).bind λc=>Γ 0 c)=δ pm/\∀k,Yt (.s [0,2]) pm (.agg (aS k)) (.agg GU) (σ++ex)=δ (.agg (mh d k))
 lt:∀ex,Lt (σ++ex) XQ p (.rp (vu d))
theorem aph(l:List bz)(σ:Heap)(n d:Nat):A.lK σ n d (l.map aU)=δ (l.map aU):=Sw BP l σ n d
abbrev bU(v:AV)(s:dH):aq:=[v,.ah s.az,.ah s.oG,.bool s.black]
theorem aq6{W:Heap}{ids bC g:Nat}{s:dH}(h1:W[ids]? =δ (.box (bU (.os bC g 10 0 s.aH.length) s)))(h2:W[bC]? =δ (.arr g 10 (s.aH.map aU))):Lt W Xy (.op ids 0) (.rp (wo s)):=by refine⟨⟨.rp (wo s),?_,rfl,rfl⟩,rfl,λh=>by cases h⟩;have q:=R3 (c:=aU) (sz:=10) (l:=s.aH) BP h2 (n:=0) (by omega) 6;simp only[X4,aCX,if_false,h1,Zz,bU,A.yw,q,aJ,cR];rfl
theorem aq8{W:Heap}{pd ps:AV}{d:cr}{s:dH}{k:aC}{t:Int}(hd:Lt W XQ pd (.rp (vu d)))(hs':Lt W Xy ps (.rp (wo s)))(hs:s.aH.length<=aZ)(ho:∀b∈s.aH,wu b t):IF [pd,ps,.agg (aS k),.ah t] W=δ (.aM [.ah (sR d s.aH k t).out,.ah (sR d s.aH k t).owner],W):=
 Bb (eD:=[pd,ps,.agg (aS k),.ah t]) (ts:=[.rp (vu d),.rp (wo s),.agg (aS k),.ah t]) ⟨hd,hs',E5 (wq (AG k)) rfl,R5 t,trivial⟩ (λσ=>aeE (d:=d) hs ho σ) rfl
def Fg(p:aC×Bool):AV×AV:=(.agg (aS p.1),.bool p.2)
abbrev tW(σ:Heap)(m1:List (aC×dU))(m2:List (aC×Bool)):Heap:=σ++[.map (m1.map fG),.map (m2.map Fg)]
theorem avi(σ:Heap)(m1:List (aC×dU))(m2:List (aC×Bool)):(tW σ m1 m2)[σ.length]? =δ (.map (m1.map fG)):=by rw[jq (bN _),Yp];rfl
theorem avj(σ:Heap)(m1:List (aC×dU))(m2:List (aC×Bool)):(tW σ m1 m2)[σ.length+1]? =δ (.map (m2.map Fg)):=by rw[jq (by omega),show σ.length+1-σ.length=1 by omega];rfl
theorem ago(σ:Heap)(m1:List (aC×dU))(m2:List (aC×Bool))(k:aC)(r:dU):A.jX (.s [0,2]) (.om σ.length) (.agg (aS k)) (.agg (gI r)) (tW σ m1 m2)=δ (tW σ (fJ k r m1) m2):=by rw[C0 _ rfl (avi σ m1 m2),show A.upd (.s [0,2]) (.agg (aS k)) (.agg (gI r)) (m1.map fG)=δ ((fJ k r m1).map fG)from GS (eK:=λk=>Φ (aS k)) (eV:=λr=>Φ (gI r)) vq k r m1,cR,sy _ _ (bN _),Yp];rfl
theorem aug(σ:Heap)(m1:List (aC×dU))(m2:List (aC×Bool))(k:aC)(r:Bool):A.jX (.s [0,2]) (.om (σ.length+1)) (.agg (aS k)) (.bool r) (tW σ m1 m2)=δ (tW σ m1 (fJ k r m2)):=by rw[C0 _ rfl (avj σ m1 m2),show A.upd (.s [0,2]) (.agg (aS k)) (.bool r) (m2.map Fg)=δ ((fJ k r m2).map Fg)from GS (eK:=λk=>Φ (aS k)) (eV:=λr=>Λ r) vq k r m2,cR,sy _ _ (by omega),show σ.length+1-σ.length=1 by omega];rfl
structure KB (p : AV) (b : bz) (σ : Heap) : Prop where
 nc:ZP p=δ p
 f:∀o,∃q,WC o p=δ q/\∀ex,χ q (σ++ex)=δ ((aU b).drop o)
theorem bRd{σ:Heap}{bC g ib:Nat}{l:List bz}{b:bz}(h:σ[bC]? =δ (.arr g 10 (l.map aU)))(hb:l[ib]? =δ b):KB (.oe bC g ib 0) b σ:=by refine⟨rfl,λo=>⟨.oe bC g ib o,by simp [WC],λex=>?_⟩⟩;have hl:=(bG.1 h).1;simp only[χ,iS hl,h,if_true,uz,hb,cR]
theorem ar4{σ:Heap}{p:AV}{b:bz}(h:KB p b σ)(k:aC)(c:Int)(ex:Heap):wj [p,.agg (aS k),.ah c] (σ++ex)=δ (.aM [.agg (gI (eF b k c).1),.bool (eF b k c).2],σ++ex):=by obtain⟨q,h2,h3⟩:=h.f 9;refine aAN b k c (σ++ex) h.nc h2 ?_;rw[h3 ex];exact Jb b (σ:=[])
theorem at9{σ:Heap}{p:AV}{d:cr}(h:wI p d σ)(x:bA)(hm:x.dF.length<=aZ)(k:aC)(fC to c:Int)(ex:Heap):IP [p,.agg (bg x),.agg (aS k),.ah fC,.ah to,.ah c] (σ++ex)=δ (.agg (iK (Ce d x k fC to c)),σ++ex):=by obtain⟨q,pm,h2,h3⟩:=h.f10;exact aua d x hm k fC to c (σ++ex) h.nc h2 (h3 ex).1 ((h3 ex).2 k)
theorem aBh(f:jI)(n:Int)(b:Bool):(((ψ 7 (.agg (iK f))).bind λBl=>(ir 0 Bl [(ε 0),(ε 0),(ε 0),(ε 0),(ε 0),(ε 0),Zg,(ε 0),aR]).bind λqF=>((Ψ (.ah n)).bind λv=>δ [v]).bind λD4=>(ir 7 D4 qF).bind λDx=>((Ψ (Λ b)).bind λv=>δ [v]).bind λGX=>(ir 8 GX Dx).bind λNi=>δ Ni).bind λcs=>δ (Φ cs))=δ (.agg (gI ⟨f,n,b⟩)):=rfl
theorem go_step1{d:cr}{s:dH}{σ:Heap}{pd bp:AV}{ids bC g:Nat}{b:bz}{x:bA}{t:Int}(hd:wI pd d σ)(h1:σ[ids]? =δ (.box (bU (.os bC g 10 0 s.aH.length) s)))(h2:σ[bC]? =δ (.arr g 10 (s.aH.map aU)))(hb:b∈s.aH)(Cw:KB bp b σ)(hs:s.aH.length<=aZ)(ho:∀b∈s.aH,wu b t)(hp:fZ xk d.setup.bn)(hx:x.dF.length<=aZ){seen:List bB}(Eg:seen.length<=aZ){i:Nat}{e:bB}(he:seen[i]? =δ e)(m1:List (aC×dU))(m2:List (aC×Bool)):(Lz pd (Yy ids 0) bp (ε t) (ε (eT b.aK t)) (σ.length+1) σ.length (ε (seen.length:Int)) (sl 5 bJ seen)) [.lbx (bg x),.ah (i:Int)] (tW σ m1 m2)=δ (.normal,[.lbx (bg x),.ah ((i+1:Nat):Int)],tW σ (fJ e.key (yx d s b x t (eT b.aK t) e) m1) (fJ e.key θ m2)):=by
 obtain⟨c,hc⟩:∃c,c=eT b.aK t:=⟨_,rfl⟩
 have FN:=ho b hb;have DF:=FN.uQ;have HW:(eF b e.key c).2=θ->uj (eF b e.key c).1.gJ:=λq=>by rw[hc]at q ⊢;exact C6 FN q
 rw[<-hc]at DF;rw[<-hc];obtain⟨q1,q2,f1,f2,f3⟩:=hd.f2;obtain⟨FV,pm,g1,g2⟩:=hd.f10;have h1':∀ex,(σ++ex)[ids]? =δ (.box (bU (.os bC g 10 0 s.aH.length) s)):=λex=>by rw[iS (bG.1 h1).1];exact h1
 have h2':∀ex,(σ++ex)[bC]? =δ (.arr g 10 (s.aH.map aU)):=λex=>by rw[iS (bG.1 h2).1];exact h2
 try unfold Lz
 simp only[cH,dr];rw[iR he,bS,dL,gH he,bS,qG];simp only[bS,show VU 0 5 (bJ e)=δ (.agg (bJ e))from rfl,show ψ 5 (.agg (bJ e))=δ (bJ e)from rfl,show ir 0 (bJ e) [(ε 0),bE,(ε 0),(ε 0),(ε 0)]=δ (bJ e)from rfl,show VU 0 2 (bJ e)=δ (.agg (aS e.key))from rfl,show VU 2 2 (bJ e)=δ (.agg (tC e.value))from rfl];rw[aug,bS];simp only[hd.nc,bS,f1,f2,f3,eH (abh (ae6 d.setup.bn hp e.key e.value)),lV,ext1];rw[ar4 Cw,bS];simp only[lV,ext1,bS,Ax,CW _ _ (show rJ.length=9 from rfl)]
 have tail:∀(W:Heap)(fC:Int)(hW:W=tW σ m1 (fJ e.key θ m2)),((Tv (VD (bJ e))).bind λ_=>δ 0).bind (λp84=>((Tv (VD (bJ e))).bind λBj=>VU p84 2 Bj).bind λxg=>((Tv (.lbx (bg x))).bind λuN=>VU 0 11 uN).bind λwg=>((Tv (VD (bJ e))).bind λ_=>δ (0)).bind λp89=>((Tv (VD (bJ e))).bind λyR=>VU p89 2 yR).bind λx91=>(Wi (IP [pd,wg,x91,.ah fC,.ah (xG d e),.ah c] W) W).bind λtc=>(ZP (Yy ids 0)).bind λx93=>(WC 1 x93).bind λqR=>((χ qR W).bind λsN=>Γ 0 sN).bind λx96=>
   (((ψ 7 tc).bind λBl=>(ir 0 Bl [(ε 0),(ε 0),(ε 0),(ε 0),(ε 0),(ε 0),Zg,(ε 0),aR]).bind λqF=>((Ψ x96).bind λv=>δ [v]).bind λD4=>(ir 7 D4 qF).bind λDx=>((Ψ aR).bind λv=>δ [v]).bind λGX=>(ir 8 GX Dx).bind λNi=>δ Ni).bind λcs=>δ (Φ cs)).bind λAe=>(A.jX (.s [0,2]) (XP σ.length) xg Ae W).bind λaAY=>(WE (ε (i:Int)) (ε 1)).bind λxK=>δ (Xv,[(.lbx (bg x)),xK],aAY))=δ (.normal,[.lbx (bg x),.ah ((i+1:Nat):Int)],tW σ (fJ e.key ⟨Ce d x e.key fC (xG d e) c,s.az,ι⟩ m1) (fJ e.key θ m2)):=by
  intro W fC hW;subst hW;simp only[kg,bS,show VU 0 2 (bJ e)=δ (.agg (aS e.key))from rfl,show VU 0 11 (bg x)=δ (.agg (bg x))from rfl,eH (at9 hd x hx e.key fC (xG d e) c _)];rw[show ZP (.op ids 0)=δ (.op ids 0)from rfl,bS,show WC 1 (.op ids 0)=δ (.op ids 1)from rfl,bS,show((χ (.op ids 1) (tW σ m1 (fJ e.key θ m2))).bind λsN=>Γ 0 sN)=δ (.ah s.az)from by simp only[χ,h1'];rfl,bS,aBh,bS,ago,bS,fT he Eg,bS]
 unfold yx;by_cases nG:(eF b e.key c).2=θ
 ·have hfo:=HW nG;rw[nG];cases FP:(eF b e.key c).1.ending
  case false=>
   simp only[gT,bS,Mf,FP,zY,Yx,qm,an6,jL];by_cases hto:(eF b e.key c).1.gJ.to=xG d e
   ·rw[show(xq d.setup.bn e.key e.value).1=xG d e from rfl,cL hto,dL,aP ⟨trivial,trivial,hto⟩];simp only[zo,bS];rw[ago,bS,fT he Eg,bS]
   ·rw[show(xq d.setup.bn e.key e.value).1=xG d e from rfl,cO hto,dD,aO (λq=>hto q.2.2),dL];simp only[zo,bS,ME hfo DF,cH,dr];have:=tail _ (wX (eF b e.key c).1 c) rfl;unfold Ki;rw[aP nG];exact this
  case true=>
   simp only[gT,xP,bS,Mf,FP,zY,Ur,qm,qM];rw[dD,aO (λq=>by cases q.2.1),dL];simp only[zo,bS,ME hfo DF,cH,dr];have:=tail _ (wX (eF b e.key c).1 c) rfl;unfold Ki;rw[aP nG];exact this
 ·have G9:(eF b e.key c).2=ι:=by simpa using nG
  rw[G9];simp only[xP,gU,bS,qM];rw[dD,aO (λq=>by cases q.1),dD];simp only[hd.nc,bS,g1,g2,show VU 0 2 (bJ e)=δ (.agg (aS e.key))from rfl,JU,Da,fV];by_cases hg:(gr d e.key).1=1
  ·rw[cO (λq=>q hg),dD];simp only[bS,cH,dr];have:=tail _ 0 rfl;unfold Ki;rw[aO nG,aO (λq=>q hg)];exact this
  ·rw[cL hg,dL];simp only[bS,aq8 (hd.lt _) (aq6 (h1' _) (h2' _)) hs ho,lV,ext1,cH,dr];have:=tail _ (sR d s.aH e.key t).out rfl;unfold Ki;rw[aO nG,aP hg];exact this
end
section
open HP
theorem MV{κ ν:Type}[DecidableEq κ]{k:κ}{v:ν}:∀{l:List (κ×ν)},(∀p∈l,p.1≠k)->fJ k v l=l++[(k,v)]
 |[],_=>rfl
 |(k',v')::r,h=>by rw[fJ,aO (λe=>h (k',v') (by simp) e.symm),MV λp hp=>h p (by simp [hp])];rfl
theorem Dr{κ ν:Type}[DecidableEq κ]{k:κ}{v:ν}:∀{l:List (κ×ν)},dQ k l=δ v->(k,v)∈l
 |[],h=>by cases h
 |(k',v')::r,h=>by
  rw[dQ]at h;by_cases e:k=k'
  ·rw[aP e]at h;injection h with h;subst h;subst e;simp
  ·rw[aO e]at h;exact tN _ (Dr h)
theorem ahy{κ ν:Type}[DecidableEq κ]{k:κ}{v:ν}:∀{l:List (κ×ν)},(l.map (·.1)).Nodup->(k,v)∈l->dQ k l=δ v
 |[],_,h=>by cases h
 |(k',v')::r,hn,h=>by
  rw[eP,pN]at hn;rw[dQ];rcases jP.1 h with e|h
  ·injection e with e1 e2;rw[aP e1,e2]
  ·rw[aO (λe=>hn.1 (by rw[<-e];exact gh.2 ⟨_,h,rfl⟩))];exact ahy hn.2 h
theorem ap6{seen:List bB}(h:nB seen){i:Nat}{e:bB}(he:seen[i]? =δ e):∀a∈seen.take i,a.key≠e.key:=by
 have hp:(seen.take (i+1)).Pairwise λa b=>gK a.key b.key=θ:=List.Pairwise.sublist (List.take_sublist _ _) h
 rw[TC,he]at hp;intro a ha q;have:=(aDK.1 hp).2.2 a ha e (by simp);rw[q,CZ]at this;cases this
theorem go_loop1{d:cr}{s:dH}{σ:Heap}{pd bp:AV}{ids bC g:Nat}{b:bz}{x:bA}{t:Int}(hd:wI pd d σ)(h1:σ[ids]? =δ (.box (bU (.os bC g 10 0 s.aH.length) s)))(h2:σ[bC]? =δ (.arr g 10 (s.aH.map aU)))(hb:b∈s.aH)(Cw:KB bp b σ)(hs:s.aH.length<=aZ)(ho:∀b∈s.aH,wu b t)(hp:fZ xk d.setup.bn)(hx:x.dF.length<=aZ){seen:List bB}(Eg:seen.length<=aZ)(yW:nB seen):Y7 (Lz pd (Yy ids 0) bp (ε t) (ε (eT b.aK t)) (σ.length+1) σ.length (ε (seen.length:Int)) (sl 5 bJ seen)) [.lbx (bg x),.ah 0] (tW σ [] [])=δ (.exit 0,[.lbx (bg x),.ah (seen.length:Int)],tW σ (seen.map (λe=>(e.key,yx d s b x t (eT b.aK t) e))) (seen.map (λe=>(e.key,θ)))):=by
 refine D6 (qt (Q:=λq=>q=(.exit 0,[.lbx (bg x),.ah (seen.length:Int)],tW σ (seen.map (λe=>(e.key,yx d s b x t (eT b.aK t) e))) (seen.map (λe=>(e.key,θ))))) (λz v w=>∃i:Nat,i<=seen.length/\v=[.lbx (bg x),.ah (i:Int)]/\w=tW σ ((seen.take i).map (λe=>(e.key,yx d s b x t (eT b.aK t) e))) ((seen.take i).map (λe=>(e.key,θ)))/\z=seen.length-i) ?_ (n:=seen.length) ⟨0,kW _,rfl,rfl,rfl⟩);rintro z v w ⟨i,hi,rfl,rfl,hz⟩;by_cases h:i<seen.length
 ·have he:seen[i]? =δ seen[i]:=cC h;have hk:=ap6 yW he;refine .inl ⟨seen.length-(i+1),_,_,by omega,go_step1 hd h1 h2 hb Cw hs ho hp hx Eg he _ _,i+1,h,rfl,?_,rfl⟩;rw[MV (λp hp=>by obtain⟨a,ha,rfl⟩:=gh.1 hp;exact hk a ha),MV (λp hp=>by obtain⟨a,ha,rfl⟩:=gh.1 hp;exact hk a ha),TC,he];simp only[Z6,aDy,eP,Vl]
 ·have:i=seen.length:=by omega
  subst this;refine .inr ⟨_,?_,by simp,rfl⟩;try unfold Lz
  simp only[cH,dr];rw[iQ,bS,dD,UN]
abbrev wP(σ:Heap)(m1:List (aC×dU))(m2:List (aC×Bool))(c l:List (AV×AV)):Heap:=σ++[.map (m1.map fG),.map (m2.map Fg),.it c l]
theorem agn(σ:Heap)(m1:List (aC×dU))(m2:List (aC×Bool))(c l:List (AV×AV)):(wP σ m1 m2 c l)[σ.length+2]? =δ (.it c l):=by rw[jq (by omega),show σ.length+2-σ.length=2 by omega];rfl
theorem asE(σ:Heap)(m1:List (aC×dU))(m2:List (aC×Bool))(c l c' l':List (AV×AV)):(wP σ m1 m2 c l).set (σ.length+2) (.it c' l')=wP σ m1 m2 c' l':=by rw[sy _ _ (by omega),show σ.length+2-σ.length=2 by omega];rfl
theorem auf(σ:Heap)(m1:List (aC×dU))(m2:List (aC×Bool))(c l:List (AV×AV))(k:aC)(r:dU):A.jX (.s [0,2]) (.om σ.length) (.agg (aS k)) (.agg (gI r)) (wP σ m1 m2 c l)=δ (wP σ (fJ k r m1) m2 c l):=by rw[C0 _ rfl (show(wP σ m1 m2 c l)[σ.length]? =δ (.map (m1.map fG)) by rw[jq (bN _),Yp];rfl),show A.upd (.s [0,2]) (.agg (aS k)) (.agg (gI r)) (m1.map fG)=δ ((fJ k r m1).map fG)from GS (eK:=λk=>Φ (aS k)) (eV:=λr=>Φ (gI r)) vq k r m1,cR,sy _ _ (bN _),Yp];rfl
theorem aue(σ:Heap)(m1:List (aC×dU))(m2:List (aC×Bool))(c l:List (AV×AV))(k:aC):Yt (.s [0,2]) (.om (σ.length+1)) (.agg (aS k)) (.bool ι) (wP σ m1 m2 c l)=δ (.bool ((dQ k m2).getD ι)):=by
 have h:(wP σ m1 m2 c l)[σ.length+1]? =δ (.map (m2.map Fg)):=by rw[jq (by omega),show σ.length+1-σ.length=1 by omega];rfl
 simp only[Yt,show A.lS (.s [0,2]) (.agg (aS k))=θ from rfl,cU,US,h,aJ,show Wh (.s [0,2]) (.agg (aS k)) (m2.map Fg)=δ ((dQ k m2).map Λ)from EV (eK:=λk=>Φ (aS k)) (eV:=λr=>Λ r) vq k m2,cR];cases dQ k m2<;>rfl
theorem arE(seen:List bB)(k:aC):(dQ k (seen.map (λe=>(e.key,θ)))).getD ι=(jo seen k).isSome:=by
 induction seen with
 |nil=>rfl
 |cons e l ih=>
  rw[eP,dQ];unfold jo at ih ⊢;rw[aDr];by_cases h:k=e.key
  ·rw[aP h,cL h.symm];rfl
  ·rw[aO h,cO (λq=>h q.symm)];exact ih
theorem aqZ(fC c:Int)(x:bA):((((Ψ (.ah fC)).bind λv=>δ [v]).bind λFb=>(ir 0 Fb [(ε 0),(ε 0),(ε 0),(ε 0),(ε 0),(ε 0),Zg]).bind λNv=>((Ψ (.ah c)).bind λv=>δ [v]).bind λNw=>(ir 2 Nw Nv).bind λNx=>((Ψ (.ah x.cB)).bind λv=>δ [v]).bind λaBC=>(ir 3 aBC Nx).bind λNy=>((Ψ (.ah x.down)).bind λv=>δ [v]).bind λaA6=>(ir 4 aA6 Ny).bind λNz=>(ψ 2 (.agg (lR x.fM))).bind λG4=>(ir 5 G4 Nz).bind λDz=>δ Dz).bind λcs=>δ (Φ cs))=δ (.agg (iK ⟨fC,0,c,x.cB,x.down,x.fM⟩)):=rfl
theorem acF(o:Option (List (aC×dU))):A.zC (qI (λx=>Φ (aS x)) (λx=>Φ (gI x)) o)=δ ((o.getD []).map fG):=by cases o<;>rfl
theorem MJ{W:Heap}{bC g ib o:Nat}{rows:List aq}{row row' new:aq}(h:W[bC]? =δ (.arr g 10 rows))(hr:rows[ib]? =δ row)(hs:ir o new row=δ row'):XZ (.oe bC g ib o) new W=δ (W.set bC (.arr g 10 (rows.set ib row'))):=by simp only[XZ,h,if_true,hr,aJ,hs,cR]
theorem adf{W:Heap}{n:Nat}{B:aW}:∀{τ:Heap}{i:Nat}{ex:Heap}{b:aW},τ[i]? =δ b->B≠b->A.zJ W n τ (τ.set i B++ex)=(A.Fh W n B).map (λB'=>τ.set i B')
 |[],i,ex,b,h,_=>by cases h
 |a::τ,0,ex,b,h,hn=>by
  injection h with h
  subst h;rw[aC5,oJ];simp only[A.zJ,aO hn]
  have key:∀τ:Heap,A.zJ W n τ (τ++ex)=δ τ:=by
   intro τ;induction τ with
   |nil=>simp [A.zJ]
   |cons y τ ih=>simp only[oJ,A.zJ,if_true,aJ,ih,cR]
  rw[key];cases A.Fh W n B<;>rfl
 |a::τ,i+1,ex,b,h,hn=>by rw[aC4,oJ];simp only[A.zJ,if_true,aJ];rw[adf (i:=i) (b:=b) h hn];cases A.Fh W n B<;>rfl
theorem aub{W:Heap}{n:Nat}{l:List (aC×dU)}(h:W[n]? =δ (.map (l.map fG)))(d:Nat):X4 W n (d+1) (.om n)=δ (.fm (l.map fG)):=by simp only[X4,aDH,if_false,h];rw[RG d (λp hp=>by obtain⟨q,_,rfl⟩:=gh.1 hp;exact⟨wq (AG _),wq (aer _)⟩)];rfl
theorem adg{W:Heap}{n d:Nat}{row' ahr:aq}(hrow:A.gP W n d row'=δ ahr):∀{l:List bz}{ib:Nat},A.lK W n d ((l.map aU).set ib row')=δ ((l.map aU).set ib ahr)
 |[],ib=>by simp [A.lK]
 |b::l,0=>by simp only[eP,aC5,A.lK,hrow,aJ,aph l W n d,cR]
 |b::l,ib+1=>by simp only[eP,aC4,A.lK,BP b W n d,aJ,adg hrow (l:=l),cR]
theorem VS{σ:Heap}{ex:Heap}{bC g ib:Nat}{l:List bz}{b b':bz}{m R:List (aC×dU)}(h2:σ[bC]? =δ (.arr g 10 (l.map aU)))(hb:l[ib]? =δ b)(hcan:∀b∈l,GW b.runs)(hR:b'.runs=δ (DA R))(hm:m.Perm R)(hnd:(m.map (·.1)).Nodup)(hex:ex[0]? =δ (.map (m.map fG))):
  A.DD σ (.aM []) ((σ++ex).set bC (.arr g 10 ((l.map aU).set ib [.ah b'.aK.shown,.ah b'.aK.since,.bool b'.aK.jV,.ah b'.az,.ah b'.kD,sl 11 bg b'.bH,.ah b'.cK,.ah b'.jc,.ah b'.eM,.om σ.length])))=δ (.aM [],σ.set bC (.arr g 10 ((l.set ib b').map aU))):=by
 have hl:=(bG.1 h2).1;have hib:=(bG.1 hb).1;obtain⟨row,hrow⟩:∃row:aq,row=[.ah b'.aK.shown,.ah b'.aK.since,.bool b'.aK.jV,.ah b'.az,.ah b'.kD,sl 11 bg b'.bH,.ah b'.cK,.ah b'.jc,.ah b'.eM,.om σ.length]:=⟨_,rfl⟩
 rw[<-hrow];rw[List.set_append_left _ _ hl];obtain⟨W,hW⟩:∃W,W=σ.set bC (.arr g 10 ((l.map aU).set ib row))++ex:=⟨_,rfl⟩
 have hWn:W[σ.length]? =δ (.map (m.map fG)):=by rw[hW,jq (by simp),aDd,Yp];exact hex
 have hne:aW.arr g 10 ((l.map aU).set ib row)≠.arr g 10 (l.map aU):=by
  intro q;injection q with _ _ q
  have q2:((l.map aU).set ib row)[ib]? =(l.map aU)[ib]? :=by rw[q]
  rw[nv (by simpa using hib),uz,hb,cR]at q2;injection q2 with q2
  rw[hrow]at q2;unfold aU at q2;simp only[aCW,and_true]at q2;have:=q2.2.2.2.2.2.2.2.2.2;revert this;cases b.runs<;>intro this<;>cases this
 have hfr:A.gP W σ.length 8 row=δ [.ah b'.aK.shown,.ah b'.aK.since,.bool b'.aK.jV,.ah b'.az,.ah b'.kD,sl 11 bg b'.bH,.ah b'.cK,.ah b'.jc,.ah b'.eM,.fm (m.map fG)]:=by rw[hrow];simp only[A.gP,eE _ _ W σ.length 8,BY _ W σ.length 8,sk JP _ W σ.length 8,aub hWn 7,aJ,cR]
 have hB:A.Fh W σ.length (.arr g 10 ((l.map aU).set ib row))=δ (.arr g 10 ((l.set ib b').map aU)):=by
  simp only[A.Fh,adg hfr,cR];congr 2;rw[List.map_set,List.map_set,YG];have e1:l.map ((λx=>x.map A.can)∘aU)=l.map aU:=Yq λb hb=>ao4 (hcan b hb)
  rw[e1];congr 1;unfold aU;rw[hR];simp only[eP,Vl,af7 hnd,acZ (hm.map fG),<-ad8];rfl
 unfold A.DD;rw[<-hW];conv=>lhs;arg 1;rw[hW]
 rw[adf h2 hne,<-hW,hB];simp only[cR,aJ];have:X4 W σ.length 8 (.aM [])=δ (.aM []):=by simp [X4,A.gP]
 rw[this];rfl
end
section
open HP
theorem auW{ro:Sh}{r:AV->AV->AV->AV->AV->Heap->aF}{x y z u p v v':AV}{σ σ':Heap}(e2:Y9 ro v=v')(e:r x y z u p σ=δ (v,σ')):Ω ι [] ro (A.HE r) [x,y,z,u,p] σ=δ (v',σ'):=by have:A.HE r [x,y,z,u,p] σ=δ (v,σ'):=e;simp only[Ω,U7,bQ,TQ,this,cR,e2]
abbrev Cq(c t:Int)(b:bz)(cK eM:Int)(rv:AV):aq:=[.ah c,.ah t,.bool ι,.ah b.az,.ah b.kD,sl 11 bg b.bH,.ah cK,.ah b.jc,.ah eM,rv]
theorem Q2{d:cr}{s:dH}{b:bz}{x:bA}{c:Int}{seen:List bB}:∀(l:List (aC×dU)),∀p∈l.filterMap (λp=>(wm d s b x c seen p.1).map (λr=>(p.1,r))),(jo seen p.1).isSome=ι/\p.1∈l.map (·.1):=by
 intro l p hp;obtain⟨q,hq,h⟩:=ZJ.1 hp;obtain⟨r,hr,rfl⟩:=fF.1 h;refine⟨?_,gh.2 ⟨q,hq,rfl⟩⟩;unfold wm at hr;split at hr
 ·cases hr
 ·rename_i h;simp only[not_or]at h;simpa using h.2.1
theorem aCA{d:cr}{s:dH}{b:bz}{x:bA}{c:Int}{seen:List bB}:∀{l:List (aC×dU)},(l.map (·.1)).Nodup->((l.filterMap (λp=>(wm d s b x c seen p.1).map (λr=>(p.1,r)))).map (·.1)).Nodup
 |[],_=>by simp
 |p::l,h=>by
  rw[eP,pN]at h;rw[V5];cases hs:wm d s b x c seen p.1 with
  |none=>simp only[Zc];exact aCA h.2
  |some r=>simp only[cR,eP,pN];refine⟨λq=>?_,aCA h.2⟩;obtain⟨z,hz,Ia⟩:=gh.1 q;have:=(Q2 l z hz).2;rw[Ia]at this;exact h.1 this
theorem adJ{seen:List bB}{k:aC}(h:(jo seen k).isSome=ι):∀e∈seen,e.key≠k:=by intro e he q;unfold jo at h;rw[Option.isSome_eq_false_iff,Option.isNone_iff_eq_none,T0]at h;exact h e he (by simpa using q)
theorem aox{seen:List bB}(h:nB seen):(seen.map (·.key)).Nodup:=by unfold nB at h;rw[List.nodup_iff_pairwise_ne,TO];exact h.imp λ{a b}q e=>by rw[e,CZ]at q;cases q
theorem go_nodup{d:cr}{s:dH}{b:bz}{x:bA}{t c:Int}{seen:List bB}(yW:nB seen){l:List (aC×dU)}(hl:(l.map (·.1)).Nodup):((seen.map (λe=>(e.key,yx d s b x t c e))++l.filterMap (λp=>(wm d s b x c seen p.1).map (λr=>(p.1,r)))).map (·.1)).Nodup:=by rw[Z6,YG,List.nodup_append];refine⟨aox yW,aCA hl,λa ha b' hb' q=>?_⟩;subst q;obtain⟨e,he,rfl⟩:=gh.1 ha;obtain⟨z,hz,Ia⟩:=gh.1 hb';exact adJ (Q2 l z hz).1 e he (by rw[Ia];rfl)
theorem agm{d:cr}{s:dH}{σ:Heap}{pd:AV}{ids bC g ib to:Nat}{b:bz}{x:bA}{t:Int}(hd:wI pd d σ)(h1:σ[ids]? =δ (.box (bU (.os bC g 10 0 s.aH.length) s)))(h2:σ[bC]? =δ (.arr g 10 (s.aH.map aU)))(hb:s.aH[ib]? =δ b)(hxc:b.bH[to]? =δ x)(hs:s.aH.length<=aZ)(ho:∀b∈s.aH,wu b t)(hp:fZ xk d.setup.bn)(FO:fZ zN b.bH)(yW:nB (rI b x))(Eg:(rI b x).length<=aZ)(hcan:∀b∈s.aH,GW b.runs):
  xW [pd,.op ids 0,.ah (ib:Int),.ah (to:Int),.ah t] σ=δ (.aM [],σ.set bC (.arr g 10 ((s.aH.set ib (lB d s b x to t)).map aU))):=by
 refine auW (jr _) ?_;have Al:b∈s.aH:=dm hb;have hxm:x∈b.bH:=dm hxc;have hox:=FO.2 x hxm;have hxi:aY x.az:=hox.1;have axI:x.dF.length<=aZ:=(aAi hox).1;have Cw:KB (.oe bC g ib 0) b σ:=bRd h2 hb;have hlb:=(bG.1 hb).1;have hlt:=(bG.1 h2).1;have hls:=(bG.1 h1).1;have FN:=ho b Al;have DF:=FN.uQ;have iI:b.bH.length<=aZ:=FO.1;have hto:=(bG.1 hxc).1
 have H6:((b.runs.getD []).map (·.1)).Nodup:=by
  cases hr:b.runs with
  |none=>simp
  |some l=>exact(hcan b Al l hr).1
 have HW:∀k,(eF b k (eT b.aK t)).2=θ->uj (eF b k (eT b.aK t)).1.gJ:=λk q=>C6 FN q
 have rd:∀o ex,χ (.oe bC g ib o) (σ++ex)=δ ((aU b).drop o):=λo ex=>by
  obtain⟨q,e1,e2⟩:=Cw.f o;have:q=.oe bC g ib o:=by simp [WC]at e1;exact e1.symm
  rw[<-this];exact e2 ex
 have Tc:∀o,χ (.oe bC g ib o) σ=δ ((aU b).drop o):=λo=>by have:=rd o [];rwa[VT]at this
 unfold Ue
 rw[show ZP (.op ids 0)=δ (.op ids 0)from rfl,bS,show WC 0 (.op ids 0)=δ (.op ids 0)from rfl,bS,show((χ (.op ids 0) σ).bind λc=>Γ 0 c)=δ (.os bC g 10 0 s.aH.length)from by simp only[χ,h1];rfl,bS,show Zo 10 (.os bC g 10 0 s.aH.length) (.ah (ib:Int))=δ (.oe bC g ib 0)from by
  have:((ib:Int)<(s.aH.length:Int)):=by omega
  simp [Zo,A.idx,this],bS]
 simp only[show ZP (.oe bC g ib 0)=δ (.oe bC g ib 0)from rfl,bS,show ∀o,WC o (.oe bC g ib 0)=δ (.oe bC g ib o)from λo=>by simp [WC],Tc];rw[show Γ 0 ((aU b).drop 5)=δ (sl 11 bg b.bH)from rfl,bS,gH hxc,bS,qG,bS,show VU 0 11 (bg x)=δ (.agg (bg x))from rfl,bS,JI,bS,C3 _ _ rfl,bS,show VU 0 3 ((aU b).drop 0)=δ (.agg (yq b.aK))from rfl,bS,MY,bS];simp only[Tc,bS];rw[show Γ 0 ((aU b).drop 5)=δ (sl 11 bg b.bH)from rfl,bS,Wp,bS,eH (arK FO hxi σ),bS,lV,bS,ext1,bS,show(AE b.bH x.az).1=rI b x from rfl,fu,bS];rw[show(σ++[Z0 []])++[Z0 []]=tW σ [] []from by rw[lp];rfl,show(σ++[Z0 []]).length=σ.length+1 from by simp];refine(congrArg (λz=>aDN z _) (go_loop1 hd h1 h2 Al Cw hs ho hp axI Eg yW)).trans ?_;rw[bS];simp only[qj,rd,bS];rw[show Γ 0 ((aU b).drop 9)=δ (qI (λx=>Φ (aS x)) (λx=>Φ (gI x)) b.runs)from Jb b (σ:=[]),bS,acF,bS];obtain⟨seen,Dk⟩:∃seen,seen=rI b x:=⟨_,rfl⟩
 obtain⟨c,hc⟩:∃c,c=eT b.aK t:=⟨_,rfl⟩
 have FQ:zA d s b x t=seen.map (λe=>(e.key,yx d s b x t c e))++(b.runs.getD []).filterMap (λp=>(wm d s b x c seen p.1).map (λr=>(p.1,r))):=by rw[Dk,hc];rfl
 rw[<-Dk]at yW Eg;rw[<-hc]at DF HW;rw[<-Dk,<-hc];obtain⟨es,qJ⟩:∃es,es=b.runs.getD []:=⟨_,rfl⟩
 rw[<-qJ]at H6 FQ;rw[<-qJ];obtain⟨m1,hm1⟩:∃m1,m1=seen.map (λe=>(e.key,yx d s b x t c e)):=⟨_,rfl⟩
 obtain⟨m2,hm2⟩:∃m2,m2=seen.map (λe=>(e.key,θ)):=⟨_,rfl⟩
 rw[<-hm1]at FQ;rw[<-hm1,<-hm2];have hWl:(tW σ m1 m2).length=σ.length+2:=by simp
 rw[hWl,show tW σ m1 m2++[aW.it [] (es.map fG)]=wP σ m1 m2 [] (es.map fG)from by rw[lp];rfl];obtain⟨st,hst⟩:∃st,st=λp:aC×dU=>(wm d s b x c seen p.1).map (λr=>(p.1,r)):=⟨_,rfl⟩
 rw[<-hst]at FQ;refine V9 (α:=aC×dU) (enc:=fG) (it:=σ.length+2) (es:=es) _ _ (λ_ _ _=>rfl) (λdn lf w W=>w=[.lbx (bg x)]/\∃cu,W=wP σ (m1++dn.filterMap st) m2 cu (lf.map fG)) ?_ ?_ ?_ ?_
 ·rintro dn lf w W ⟨rfl,cu,rfl⟩;exact⟨cu,agn _ _ _ _ _⟩
 ·rintro dn lf w W j p Dj ⟨rfl,cu,rfl⟩ hj;rw[asE]
  have hpk:∀q∈m1++dn.filterMap st,st p≠μ->q.1≠p.1:=by
   intro q hq hsp e
   have hpn:(jo seen p.1).isSome=ι:=by
    have:p.1∈[p].map (·.1):=by simp
    obtain⟨r,hr⟩:=aD8.1 hsp;rw[hst]at hr;have:=(Q2 (d:=d) (s:=s) (b:=b) (x:=x) (c:=c) (seen:=seen) [p] r (ZJ.2 ⟨p,by simp,hr⟩)).1;obtain⟨r',_,hr'⟩:=fF.1 hr;rw[<-hr']at this;exact this
   rcases jQ.1 hq with hq|hq
   ·rw[hm1]at hq;obtain⟨e',he',rfl⟩:=gh.1 hq;exact adJ hpn e' he' e
   ·rw[hst]at hq;have hk:=(Q2 dn q hq).2;rw[e]at hk;have hnd:((dn++lf).map (·.1)).Nodup:=(Dj.map (·.1)).nodup_iff.2 H6;rw[Z6,List.nodup_append]at hnd;exact hnd.2.2 p.1 hk p.1 (gh.2 ⟨p,dm hj,rfl⟩) rfl
  obtain⟨W,hW⟩:∃W,W=wP σ (m1++dn.filterMap st) m2 [fG p] ((lf.eraseIdx j).map fG):=⟨_,rfl⟩
  rw[<-hW]
  have NL:A.zz (.op (σ.length+2) 0) W=δ (.aM [.agg (aS p.1),.agg (gI p.2)]):=by rw[hW];simp only[A.zz,agn];rfl
  refine⟨[.lbx (bg x)],wP σ (m1++(dn++[p]).filterMap st) m2 [fG p] ((lf.eraseIdx j).map fG),λK=>?_,rfl,_,rfl⟩;rw[NL,bS,lV,bS,BV,bS,C4 _ _ rfl,bS,rB,bS];have aBY:∀k,wj [.oe bC g ib 0,.agg (aS k),.ah c] W=δ (.aM [.agg (gI (eF b k c).1),.bool (eF b k c).2],W):=λk=>by rw[hW];exact ar4 Cw k c _
  rw[aBY,bS];simp only[lV,ext1,bS,Ax,CW _ _ (show rJ.length=9 from rfl),zY];obtain⟨FV,pm,g1,g2⟩:=hd.f10;have g3:((χ FV W).bind λc=>Γ 0 c)=δ pm:=by rw[hW];exact(g2 _).1
  have g4:Yt (.s [0,2]) pm (.agg (aS p.1)) (.agg GU) W=δ (.agg (mh d p.1)):=by rw[hW];exact(g2 _).2 p.1
  have g5:Yt (.s [0,2]) (.om (σ.length+1)) (.agg (aS p.1)) (.bool ι) W=δ (.bool (jo seen p.1).isSome):=by rw[hW,aue,hm2,arE]
  have skip:st p=μ->K (.normal,[.lbx (bg x)],W)=K (.normal,[.lbx (bg x)],wP σ (m1++(dn++[p]).filterMap st) m2 [fG p] ((lf.eraseIdx j).map fG)):=by intro h;rw[hW,XY,V5,h,UJ,VT]
  by_cases nG:(eF b p.1 c).2=θ
  case neg=>
   have G9:(eF b p.1 c).2=ι:=by simpa using nG
   rw[G9];simp only[Yx,Cv,gU,bS,qm,cT,cH];exact skip (by rw[hst];simp only[wm,G9,true_or,if_true,Zc])
  rw[nG];simp only[Ur,gF,bS,qM,g5,rB];by_cases hwt:(jo seen p.1).isSome=θ
  ·rw[hwt];simp only[Cv,gU,bS,qm,cT,cH];exact skip (by rw[hst];simp only[wm,hwt,true_or,or_true,if_true,Zc])
  have ahX:(jo seen p.1).isSome=ι:=by simpa using hwt
  rw[ahX];simp only[gF,bS,qM,hd.nc,g1,g3,g4,rB,JU,Da,fV];by_cases Bp:(gr d p.1).1=1
  case neg=>
   rw[cL Bp];simp only[cT,cH];exact skip (by rw[hst];simp only[wm,Bp,not_false_eq_true,or_true,if_true,Zc])
  rw[cO (λq=>q Bp)];simp only[cF,Mf,bS,zY];have hfo:=HW p.1 nG
  have E1:¬((eF b p.1 c).2=ι\/(jo seen p.1).isSome=θ\/¬(gr d p.1).1=1):=by rw[nG,ahX,Bp];simp
  have last:∀r:dU,st p=δ (p.1,r)->((A.jX (.s [0,2]) (.om σ.length) (.agg (aS p.1)) (.agg (gI r)) W).bind λaCm=>K (.normal,[.lbx (bg x)],aCm))=K (.normal,[.lbx (bg x)],wP σ (m1++(dn++[p]).filterMap st) m2 [fG p] ((lf.eraseIdx j).map fG)):=by intro r hr;rw[hW,auf,bS,MV (λq hq=>hpk q hq (by rw[hr];simp)),XY,V5,hr,UJ,lp]
  cases FP:(eF b p.1 c).1.ending
  case true=>
   simp only[Ur,cF,bS,cH,dr,kg,rB,zo];exact last _ (by rw[hst];simp only[wm,aO E1,FP,if_true,cR])
  case false=>
   simp only[Yx,cT,bS,zo,eH (ME hfo DF W),cH,dr,kg,Wq,Wr,UQ];rw[aqZ,bS,Gu,bS,Ru _ _ rfl,bS,JD,bS,eH (XV _ W),bS]
   rw[show WC 1 (.op ids 0)=δ (.op ids 1)from rfl,bS,show((χ (.op ids 1) W).bind λNA=>Γ 0 NA)=δ (.ah s.az)from by
    rw[hW];simp only[χ,iS hls,h1];rfl,bS,aBh,bS,Ax,bS,CW _ _ rfl,bS,bS]
   simp only[cH,dr,kg,bS,rB,zo];exact last _ (by rw[hst];simp only[wm,aO E1,FP,cR];rfl)
 ·rintro dn w W Dj ⟨rfl,cu,rfl⟩;simp only[qj];obtain⟨m,hm⟩:∃m,m=m1++dn.filterMap st:=⟨_,rfl⟩
  rw[<-hm];obtain⟨ex,hex⟩:∃ex:Heap,ex=[.map (m.map fG),.map (m2.map Fg),.it cu (([]:List (aC×dU)).map fG)]:=⟨_,rfl⟩
  rw[show wP σ m m2 cu (([]:List (aC×dU)).map fG)=σ++ex from by rw[hex]]
  have hmp:m.Perm (zA d s b x t):=by rw[FQ,hm];exact(Dj.filterMap st).append_left m1
  have hnd:(m.map (·.1)).Nodup:=by rw[hm,hm1,hst];exact go_nodup yW ((Dj.map (·.1)).nodup_iff.2 H6)
  rw[show((((Ψ (ε c)).bind λv=>δ [v]).bind λG5=>(ir 0 G5 [(ε 0),(ε 0),aR]).bind λG6=>((Ψ (ε t)).bind λv=>δ [v]).bind λG7=>(ir 1 G7 G6).bind λNB=>((Ψ aR).bind λv=>δ [v]).bind λNC=>(ir 2 NC NB).bind λND=>δ ND).bind λcs=>δ (Φ cs))=δ (.agg [.ah c,.ah t,.bool ι])from rfl,bS];try simp only[show ZP (.oe bC g ib 0)=δ (.oe bC g ib 0)from rfl,bS,show ∀o,WC o (.oe bC g ib 0)=δ (.oe bC g ib o)from λo=>by simp [WC]]
  rw[show ψ 3 (.agg [.ah c,.ah t,.bool ι])=δ [.ah c,.ah t,.bool ι]from rfl,bS];have HY:(σ++ex)[bC]? =δ (.arr g 10 (s.aH.map aU)):=by rw[iS hlt];exact h2
  have hr0:(s.aH.map aU)[ib]? =δ (aU b):=by rw[uz,hb];rfl
  have hlm:ib<(s.aH.map aU).length:=by simpa using hlb
  have SX:bC<(σ++ex).length:=by simp;omega
  have chain:∀(o:Nat)(row row' new:aq),ir o new row=δ row'->XZ (.oe bC g ib o) new ((σ++ex).set bC (.arr g 10 ((s.aH.map aU).set ib row)))=δ ((σ++ex).set bC (.arr g 10 ((s.aH.map aU).set ib row'))):=by intro o row row' new hsp;rw[MJ (W:=(σ++ex).set bC (.arr g 10 ((s.aH.map aU).set ib row))) (rows:=(s.aH.map aU).set ib row) (nv SX) (nv hlm) hsp,Vp,Vp]
  obtain⟨rv,hrv⟩:∃rv,rv=qI (λx=>Φ (aS x)) (λx=>Φ (gI x)) b.runs:=⟨_,rfl⟩
  rw[MJ (row':=[.ah c,.ah t,.bool ι,.ah b.az,.ah b.kD,sl 11 bg b.bH,.ah b.cK,.ah b.jc,.ah b.eM,rv]) HY hr0 (by rw[hrv];rfl),bS];rw[uu,bS,chain 6 _ (Cq c t b to b.eM rv) _ rfl,bS];rw[show((Ψ (XP σ.length)).bind λv=>δ [v])=δ [.om σ.length]from rfl,bS,chain 9 _ (Cq c t b to b.eM (.om σ.length)) _ rfl,bS];rw[uu,bS,chain 8 _ (Cq c t b to (-1) (.om σ.length)) _ rfl,bS];simp only[cH,kg,bS,adC,vD];have fin:=λ(fo:Int)(hfo:(lB d s b x to t).eM=fo)=>VS (σ:=σ) (ex:=ex) (b':=lB d s b x to t) (m:=m) (R:=zA d s b x t) h2 hb hcan rfl hmp hnd (by rw[hex];rfl)
  have hrow:[ε (lB d s b x to t).aK.shown,.ah (lB d s b x to t).aK.since,.bool (lB d s b x to t).aK.jV,.ah (lB d s b x to t).az,.ah (lB d s b x to t).kD,sl 11 bg (lB d s b x to t).bH,.ah (lB d s b x to t).cK,.ah (lB d s b x to t).jc,.ah (lB d s b x to t).eM,.om σ.length]=Cq c t b to (lB d s b x to t).eM (.om σ.length):=by rw[hc];rfl
  have fin:=VS (σ:=σ) (ex:=ex) (b':=lB d s b x to t) (m:=m) (R:=zA d s b x t) h2 hb hcan rfl hmp hnd (by rw[hex];rfl);rw[hrow]at fin;have Fj:(lB d s b x to t).eM=if 0<=x.eM/\(to:Int)+1<(b.bH.length:Int)then ξ.wrap (c+x.eM)else -1:=by rw[hc];rfl
  by_cases KQ:0<=x.eM
  ·rw[cL KQ];simp only[gT,bS,show ZP (.oe bC g ib 0)=δ (.oe bC g ib 0)from rfl,show ∀o,WC o (.oe bC g ib 0)=δ (.oe bC g ib o)from λo=>by simp [WC]];rw[Kc (by unfold aZ at iI;omega),bS]
   rw[show((χ (.oe bC g ib 5) ((σ++ex).set bC (.arr g 10 ((s.aH.map aU).set ib (Cq c t b to (-1) (.om σ.length)))))).bind λYL=>Γ 0 YL)=δ (sl 11 bg b.bH)from by
    simp only[χ,nv SX,if_true,nv hlm,cR];rfl,bS,fu,bS,nw,bS,qm,bS]
   by_cases yU:(to:Int)+1<(b.bH.length:Int)
   ·rw[cL (by omega),dL];rw[aP ⟨KQ,yU⟩]at Fj;rw[Fj]at fin;rw[nQ,bS,uu,bS,chain 8 _ (Cq c t b to (ξ.wrap (c+x.eM)) (.om σ.length)) _ rfl,bS,bS];exact fin
   ·rw[cO (by omega),dD,bS];rw[aO (λq=>yU q.2)]at Fj;rw[Fj]at fin;exact fin
  ·rw[cO KQ];simp only[xP,gU,bS,qM,cF];rw[aO (λq=>KQ q.1)]at Fj;rw[Fj]at fin;exact fin
 ·refine⟨rfl,[],?_⟩;rw[UJ,VT]
end
section
open HP
def B8 (d:cr) (s:dH) (b:bz) (c lv:Int) (k:aC):Option dU:=
 if(eF b k c).2=ι\/¬(gr d k).1=1 then μ
 else δ ⟨wC ⟨wX (eF b k c).1 c,0,c,0,lv,⟨1,[]⟩⟩,s.az,θ⟩
def MI (d:cr) (s:dH) (b:bz) (a:iE):List (aC×dU):=(b.runs.getD []).filterMap (λp=>(B8 d s b (eT b.aK a.time) a.level p.1).map (λr=>(p.1,r)))
def xJ (d:cr) (s:dH) (b:bz) (a:iE):bz:={b with aK:=⟨eT b.aK a.time,a.time,ι⟩,cK:=-1,eM:=-1,runs:=δ (DA (MI d s b a))}
abbrev Ac(σ:Heap)(m:List (aC×dU))(c l:List (AV×AV)):Heap:=σ++[.map (m.map fG),.it c l]
theorem afO(σ:Heap)(m:List (aC×dU))(c l:List (AV×AV)):(Ac σ m c l)[σ.length+1]? =δ (.it c l):=by rw[jq (by omega),show σ.length+1-σ.length=1 by omega];rfl
theorem arj(σ:Heap)(m:List (aC×dU))(c l c' l':List (AV×AV)):(Ac σ m c l).set (σ.length+1) (.it c' l')=Ac σ m c' l':=by rw[sy _ _ (by omega),show σ.length+1-σ.length=1 by omega];rfl
theorem auH(σ:Heap)(m:List (aC×dU))(c l:List (AV×AV))(k:aC)(r:dU):A.jX (.s [0,2]) (.om σ.length) (.agg (aS k)) (.agg (gI r)) (Ac σ m c l)=δ (Ac σ (fJ k r m) c l):=by rw[C0 _ rfl (show(Ac σ m c l)[σ.length]? =δ (.map (m.map fG)) by rw[jq (bN _),Yp];rfl),show A.upd (.s [0,2]) (.agg (aS k)) (.agg (gI r)) (m.map fG)=δ ((fJ k r m).map fG)from GS (eK:=λk=>Φ (aS k)) (eV:=λr=>Φ (gI r)) vq k r m,cR,sy _ _ (bN _),Yp];rfl
theorem aeO{d:cr}{s:dH}{b:bz}{c lv:Int}:∀(l:List (aC×dU)),∀p∈l.filterMap (λp=>(B8 d s b c lv p.1).map (λr=>(p.1,r))),p.1∈l.map (·.1):=by intro l p hp;obtain⟨q,hq,h⟩:=ZJ.1 hp;obtain⟨r,hr,rfl⟩:=fF.1 h;exact gh.2 ⟨q,hq,rfl⟩
theorem Q1{d:cr}{s:dH}{b:bz}{c lv:Int}:∀{l:List (aC×dU)},(l.map (·.1)).Nodup->((l.filterMap (λp=>(B8 d s b c lv p.1).map (λr=>(p.1,r)))).map (·.1)).Nodup
 |[],_=>by simp
 |p::l,h=>by
  rw[eP,pN]at h;rw[V5];cases hs:B8 d s b c lv p.1 with
  |none=>simp only[Zc];exact Q1 h.2
  |some r=>simp only[cR,eP,pN];refine⟨λq=>?_,Q1 h.2⟩;obtain⟨z,hz,Ia⟩:=gh.1 q;have:=aeO l z hz;rw[Ia]at this;exact h.1 this
theorem aqY(fC c lv:Int):((((Ψ (.ah fC)).bind λv=>δ [v]).bind λsL=>(ir 0 sL [(ε 0),(ε 0),(ε 0),(ε 0),(ε 0),(ε 0),Zg]).bind λyN=>((Ψ (.ah c)).bind λv=>δ [v]).bind λDX=>(ir 2 DX yN).bind λyO=>((Ψ (.ah lv)).bind λv=>δ [v]).bind λFF=>(ir 4 FF yO).bind λtU=>(ψ 2 (.agg [.ah 1,.aA])).bind λyP=>(ir 5 yP tU).bind λnE=>δ nE).bind λcs=>δ (Φ cs))=δ (.agg [.ah fC,.ah 0,.ah c,.ah 0,.ah lv,.ah 1,.aA]):=rfl
theorem asc(fC c lv:Int)(σ:Heap):zf [.agg [.ah fC,.ah 0,.ah c,.ah 0,.ah lv,.ah 1,.aA]] σ=δ (.agg (iK (wC ⟨fC,0,c,0,lv,⟨1,[]⟩⟩)),σ):=by have h:=XV ⟨fC,0,c,0,lv,⟨1,[]⟩⟩ σ;rw[<-h];exact RU rfl rfl rfl
theorem apS{d:cr}{s:dH}{σ:Heap}{pd:AV}{ids bC g ib:Nat}{b:bz}{a:iE}(hd:wI pd d σ)(h1:σ[ids]? =δ (.box (bU (.os bC g 10 0 s.aH.length) s)))(h2:σ[bC]? =δ (.arr g 10 (s.aH.map aU)))(hb:s.aH[ib]? =δ b)(FN:wu b a.time)(hcan:∀b∈s.aH,GW b.runs):
  LA [pd,.op ids 0,.oe bC g ib 0,.agg (dR a)] σ=δ (.aM [],σ.set bC (.arr g 10 ((s.aH.set ib (xJ d s b a)).map aU))):=by
 have auV:∀{r:AV->AV->AV->AV->Heap->aF}{x y z u:AV}{σ σ':Heap},r x y z u σ=δ (.aM [],σ')->Ω ι [] .k (A.yM r) [x,y,z,u] σ=δ (.aM [],σ'):=by intro r x y z u σ σ' e;have:A.yM r [x,y,z,u] σ=δ (.aM [],σ'):=e;simp only[Ω,U7,bQ,TQ,this,cR,jr]
 refine auV ?_;have Al:b∈s.aH:=dm hb;have Cw:KB (.oe bC g ib 0) b σ:=bRd h2 hb;have hlb:=(bG.1 hb).1;have hlt:=(bG.1 h2).1;have hls:=(bG.1 h1).1;have DF:=FN.uQ
 have H6:((b.runs.getD []).map (·.1)).Nodup:=by
  cases hr:b.runs with
  |none=>simp
  |some l=>exact(hcan b Al l hr).1
 have HW:∀k,(eF b k (eT b.aK a.time)).2=θ->uj (eF b k (eT b.aK a.time)).1.gJ:=λk q=>C6 FN q
 have rd:∀o ex,χ (.oe bC g ib o) (σ++ex)=δ ((aU b).drop o):=λo ex=>by
  obtain⟨q,e1,e2⟩:=Cw.f o;have:q=.oe bC g ib o:=by simp [WC]at e1;exact e1.symm
  rw[<-this];exact e2 ex
 have Tc:∀o,χ (.oe bC g ib o) σ=δ ((aU b).drop o):=λo=>by have:=rd o [];rwa[VT]at this
 unfold TK;rw[show ψ 5 (.agg (dR a))=δ (dR a)from rfl,bS];simp only[show ZP (.oe bC g ib 0)=δ (.oe bC g ib 0)from rfl,bS,show ∀o,WC o (.oe bC g ib 0)=δ (.oe bC g ib o)from λo=>by simp [WC],Tc,rd];rw[show VU 0 3 ((aU b).drop 0)=δ (.agg (yq b.aK))from rfl,bS,show Γ 0 (dR a)=δ (.ah a.time)from rfl,bS,eH (MY _ _ σ),bS];rw[show Γ 0 ((aU b).drop 9)=δ (qI (λx=>Φ (aS x)) (λx=>Φ (gI x)) b.runs)from Jb b (σ:=[]),bS,acF,bS];obtain⟨c,hc⟩:∃c,c=eT b.aK a.time:=⟨_,rfl⟩
 have FQ:MI d s b a=(b.runs.getD []).filterMap (λp=>(B8 d s b c a.level p.1).map (λr=>(p.1,r))):=by rw[hc];rfl
 rw[<-hc]at DF HW;rw[<-hc];obtain⟨es,qJ⟩:∃es,es=b.runs.getD []:=⟨_,rfl⟩
 rw[<-qJ]at H6 FQ;rw[<-qJ];rw[show(σ++[Z0 []]).length=σ.length+1 from by simp,show(σ++[Z0 []])++[aW.it [] (es.map fG)]=Ac σ [] [] (es.map fG)from by rw[lp];rfl];obtain⟨st,hst⟩:∃st,st=λp:aC×dU=>(B8 d s b c a.level p.1).map (λr=>(p.1,r)):=⟨_,rfl⟩
 rw[<-hst]at FQ;refine V9 (α:=aC×dU) (enc:=fG) (it:=σ.length+1) (es:=es) _ _ (λ_ _ _=>rfl) (λdn lf w W=>w=[.lbx (dR a)]/\∃cu,W=Ac σ (dn.filterMap st) cu (lf.map fG)) ?_ ?_ ?_ ?_
 ·rintro dn lf w W ⟨rfl,cu,rfl⟩;exact⟨cu,afO _ _ _ _⟩
 ·rintro dn lf w W j p Dj ⟨rfl,cu,rfl⟩ hj;rw[arj]
  have hpk:∀q∈dn.filterMap st,q.1≠p.1:=by intro q hq e;rw[hst]at hq;have hk:=aeO dn q hq;rw[e]at hk;have hnd:((dn++lf).map (·.1)).Nodup:=(Dj.map (·.1)).nodup_iff.2 H6;rw[Z6,List.nodup_append]at hnd;exact hnd.2.2 p.1 hk p.1 (gh.2 ⟨p,dm hj,rfl⟩) rfl
  obtain⟨W,hW⟩:∃W,W=Ac σ (dn.filterMap st) [fG p] ((lf.eraseIdx j).map fG):=⟨_,rfl⟩
  rw[<-hW]
  have NL:A.zz (.op (σ.length+1) 0) W=δ (.aM [.agg (aS p.1),.agg (gI p.2)]):=by rw[hW];simp only[A.zz,afO];rfl
  refine⟨[.lbx (dR a)],Ac σ ((dn++[p]).filterMap st) [fG p] ((lf.eraseIdx j).map fG),λK=>?_,rfl,_,rfl⟩;rw[NL,bS,lV,bS,BV,bS,C4 _ _ rfl,bS,rB,bS];have aBY:∀k,wj [.oe bC g ib 0,.agg (aS k),.ah c] W=δ (.aM [.agg (gI (eF b k c).1),.bool (eF b k c).2],W):=λk=>by rw[hW];exact ar4 Cw k c _
  rw[aBY,bS];simp only[lV,ext1,bS,Ax,CW _ _ (show rJ.length=9 from rfl),zY];obtain⟨FV,pm,g1,g2⟩:=hd.f10;have g3:((χ FV W).bind λc=>Γ 0 c)=δ pm:=by rw[hW];exact(g2 _).1
  have g4:Yt (.s [0,2]) pm (.agg (aS p.1)) (.agg GU) W=δ (.agg (mh d p.1)):=by rw[hW];exact(g2 _).2 p.1
  have skip:st p=μ->K (.normal,[.lbx (dR a)],W)=K (.normal,[.lbx (dR a)],Ac σ ((dn++[p]).filterMap st) [fG p] ((lf.eraseIdx j).map fG)):=by intro h;rw[hW,XY,V5,h,UJ,VT]
  by_cases nG:(eF b p.1 c).2=θ
  case neg=>
   have G9:(eF b p.1 c).2=ι:=by simpa using nG
   rw[G9];simp only[Yx,Cv,gU,bS,qm,cT,cH];exact skip (by rw[hst];simp only[B8,G9,true_or,if_true,Zc])
  rw[nG];simp only[Ur,gF,bS,qM,hd.nc,g1,g3,g4,rB,JU,Da,fV];by_cases Bp:(gr d p.1).1=1
  case neg=>
   rw[cL Bp];simp only[cT,cH];exact skip (by rw[hst];simp only[B8,Bp,not_false_eq_true,or_true,if_true,Zc])
  rw[cO (λq=>q Bp)];simp only[cF,bS,zo,eH (ME (HW p.1 nG) DF W),cH,kg,show Γ 4 (dR a)=δ (.ah a.level)from rfl]
  have E1:¬((eF b p.1 c).2=ι\/¬(gr d p.1).1=1):=by rw[nG,Bp];simp
  rw[show((((Ψ (ε 1)).bind λv=>δ [v]).bind λlX=>(ir 0 lX [(ε 0),Zg]).bind λDW=>δ DW).bind λcs=>δ (Φ cs))=δ (.agg [.ah 1,.aA])from rfl,bS,aqY,bS,eH (asc _ _ _ W),bS]
  rw[show ZP (.op ids 0)=δ (.op ids 0)from rfl,bS,show WC 1 (.op ids 0)=δ (.op ids 1)from rfl,bS,show((χ (.op ids 1) W).bind λNA=>Γ 0 NA)=δ (.ah s.az)from by
    rw[hW];simp only[χ,iS hls,h1];rfl,bS,aBh,bS]
  have hr:st p=δ (p.1,⟨wC ⟨wX (eF b p.1 c).1 c,0,c,0,a.level,⟨1,[]⟩⟩,s.az,θ⟩):=by rw[hst];simp only[B8,aO E1,cR]
  rw[hW,auH,bS,MV hpk,XY,V5,hr,UJ]
 ·rintro dn w W Dj ⟨rfl,cu,rfl⟩;simp only[qj];obtain⟨m,hm⟩:∃m,m=dn.filterMap st:=⟨_,rfl⟩
  rw[<-hm];obtain⟨ex,hex⟩:∃ex:Heap,ex=[.map (m.map fG),.it cu (([]:List (aC×dU)).map fG)]:=⟨_,rfl⟩
  rw[show Ac σ m cu (([]:List (aC×dU)).map fG)=σ++ex from by rw[hex]]
  have hmp:m.Perm (MI d s b a):=by rw[FQ,hm];exact Dj.filterMap st
  have hnd:(m.map (·.1)).Nodup:=by rw[hm,hst];exact Q1 ((Dj.map (·.1)).nodup_iff.2 H6)
  simp only[cH,kg,bS,show Γ 0 (dR a)=δ (.ah a.time)from rfl];rw[show((((Ψ (ε c)).bind λv=>δ [v]).bind λG5=>(ir 0 G5 [(ε 0),(ε 0),aR]).bind λG6=>((Ψ (ε a.time)).bind λv=>δ [v]).bind λG7=>(ir 1 G7 G6).bind λNB=>((Ψ aR).bind λv=>δ [v]).bind λNC=>(ir 2 NC NB).bind λND=>δ ND).bind λcs=>δ (Φ cs))=δ (.agg [.ah c,.ah a.time,.bool ι])from rfl,bS];rw[show ψ 3 (.agg [.ah c,.ah a.time,.bool ι])=δ [.ah c,.ah a.time,.bool ι]from rfl,bS];have HY:(σ++ex)[bC]? =δ (.arr g 10 (s.aH.map aU)):=by rw[iS hlt];exact h2
  have hr0:(s.aH.map aU)[ib]? =δ (aU b):=by rw[uz,hb];rfl
  have hlm:ib<(s.aH.map aU).length:=by simpa using hlb
  have SX:bC<(σ++ex).length:=by simp;omega
  have chain:∀(o:Nat)(row row' new:aq),ir o new row=δ row'->XZ (.oe bC g ib o) new ((σ++ex).set bC (.arr g 10 ((s.aH.map aU).set ib row)))=δ ((σ++ex).set bC (.arr g 10 ((s.aH.map aU).set ib row'))):=by intro o row row' new hsp;rw[MJ (W:=(σ++ex).set bC (.arr g 10 ((s.aH.map aU).set ib row))) (rows:=(s.aH.map aU).set ib row) (nv SX) (nv hlm) hsp,Vp,Vp]
  obtain⟨rv,hrv⟩:∃rv,rv=qI (λx=>Φ (aS x)) (λx=>Φ (gI x)) b.runs:=⟨_,rfl⟩
  rw[MJ (row':=[.ah c,.ah a.time,.bool ι,.ah b.az,.ah b.kD,sl 11 bg b.bH,.ah b.cK,.ah b.jc,.ah b.eM,rv]) HY hr0 (by rw[hrv];rfl),bS];rw[uu,bS,chain 6 _ (Cq c a.time b (-1) b.eM rv) _ rfl,bS];rw[bS,chain 8 _ (Cq c a.time b (-1) (-1) rv) _ rfl,bS];rw[show((Ψ (XP σ.length)).bind λv=>δ [v])=δ [.om σ.length]from rfl,bS,chain 9 _ (Cq c a.time b (-1) (-1) (.om σ.length)) _ rfl,bS];have hrow:[ε (xJ d s b a).aK.shown,.ah (xJ d s b a).aK.since,.bool (xJ d s b a).aK.jV,.ah (xJ d s b a).az,.ah (xJ d s b a).kD,sl 11 bg (xJ d s b a).bH,.ah (xJ d s b a).cK,.ah (xJ d s b a).jc,.ah (xJ d s b a).eM,.om σ.length]=Cq c a.time b (-1) (-1) (.om σ.length):=by rw[hc];rfl
  have fin:=VS (σ:=σ) (ex:=ex) (b':=xJ d s b a) (m:=m) (R:=MI d s b a) h2 hb hcan rfl hmp hnd (by rw[hex];rfl);rw[hrow]at fin;exact fin
 ·refine⟨rfl,[],?_⟩;rw[UJ]
end
section
open HP
structure agR (x : bA) : Prop where
 d:0<=x.cB/\x.cB<=36000000
 u:0<=x.up/\x.up<=36000000
 n:0<=x.down/\x.down<=36000000
 o:0<=x.other/\x.other<=36000000
 f:-1<=x.eM/\x.eM<=36000000
 c:pK x.fM=0
 m:∀m∈x.dF,(0<=m.cB/\m.cB<=36000000)/\(0<=m.time/\m.time<=36000000)
 k:∀m∈x.dF,0<=m.key.unit/\m.key.unit<=1000000
theorem tK{n lo hi:Int}(h:aT n lo hi=θ):lo<=n/\n<=hi:=by unfold aT at h;simpa using h
theorem aeo{l:List bA}(h:pL l=0){x:bA}(hx:x∈l):agR x:=by
 unfold pL at h;split at h
 ·cases h
 by_cases h2:jR (vE l) l 0=0;case neg=>rw[aP h2]at h;exact absurd h h2
 obtain⟨i,hi,e⟩:=Vb hx;have hc:=(zi l 0).1 h2 i x (by rw[<-e];exact cC hi);unfold vE at hc;split at hc
 ·cases hc
 split at hc
 ·cases hc
 split at hc
 ·cases hc
 split at hc
 ·cases hc
 rename_i h4;split at hc
 ·rename_i h5;exact absurd hc h5
 rename_i h5;split at hc
 ·cases hc
 simp only[Bool.or_eq_true,UK,not_or,aDb]at h4;obtain⟨⟨⟨⟨a1,a2⟩,a3⟩,a4⟩,a5⟩:=h4;refine⟨tK a1,tK a2,tK a3,tK a4,tK a5,Vj.1 h5,λm hm=>?_,λm hm=>?_⟩;all_goals obtain⟨j,hj,e⟩:=Vb hm
 case refine_2=>
  unfold B7 at hc;have oV:=(zi x.dF 0).1 hc j m (by rw[<-e];exact cC hj);unfold Cf at oV;split at oV
  ·cases oV
  ·rename_i q;simp only[UK,aDb]at q;have:=tK q;omega
 unfold B7 at hc;have oV:=(zi x.dF 0).1 hc j m (by rw[<-e];exact cC hj);unfold Cf at oV;split at oV
 ·cases oV
 split at oV
 ·cases oV
 split at oV
 ·cases oV
 split at oV
 ·cases oV
 split at oV
 ·cases oV
 split at oV
 ·cases oV
 rename_i h6;simp only[Bool.or_eq_true,UK,not_or,aDb]at h6;exact⟨tK h6.1,tK h6.2⟩
theorem ab0{P:aC->Prop}:∀{l:List bA}{st:List bB},(∀c∈l,∀m∈c.dF,P m.key)->(∀e∈st,P e.key)->∀e∈l.foldl AJ st,P e.key
 |[],st,_,h=>h
 |c::l,st,hl,h=>by
  refine ab0 (l:=l) (λc' sO=>hl c' (tN _ sO)) ?_
  have key:∀(ms:List gf)(st:List bB),(∀m∈ms,P m.key)->(∀e∈st,P e.key)->∀e∈ms.foldl (vw c.az) st,P e.key:=by
   intro ms;induction ms with
   |nil=>intro st _ h;exact h
   |cons m ms ih=>
    intro st hm h;refine ih _ (λm' hm'=>hm m' (tN _ hm')) ?_
    have h1:∀e∈(if wD st m.key=θ then st.eraseIdx (kS st m.key)else st),P e.key:=by
     intro e he;split at he
     ·exact h e (List.mem_of_mem_eraseIdx he)
     ·exact h e he
    intro e he;unfold vw at he;simp only at he;split at he
    ·exact h1 e he
    ·rcases jQ.1 he with he|he
     ·rcases jQ.1 he with he|he
      ·exact h1 e (sA he)
      ·rw[TV.1 he];exact hm m (by simp)
     ·exact h1 e (List.mem_of_mem_drop he)
  exact key c.dF st (hl c (by simp)) h
def Dl(l:List bA):List aC:=l.flatMap λc=>c.dF.map (·.key)
theorem acn{l:List bA}(h:pL l=0){k:aC}(hk:k∈Dl l):0<=k.unit/\k.unit<=1000000:=by obtain⟨c,hc,hm⟩:=aDl.1 hk;obtain⟨m,hm',rfl⟩:=gh.1 hm;exact(aeo h hc).k m hm'
theorem art{b:bz}{x:bA}{e:bB}(he:e∈rI b x):e.key∈Dl b.bH:=by
 unfold rI AE at he;split at he
 ·simp at he
 split at he
 ·simp at he
 exact ab0 (P:=λk=>k∈Dl b.bH) (λc hc m hm=>aDl.2 ⟨c,sA hc,gh.2 ⟨m,hm,rfl⟩⟩) (by simp) e he
theorem Ro(b:bz)(x:bA):nB (rI b x)/\(rI b x).length<=600000000:=by
 unfold rI AE;split
 ·exact⟨VY,by simp⟩
 rename_i hz;split
 ·exact⟨VY,by simp⟩
 have hg:=MC (Vj.1 hz);have hlen:=hg.len;exact aa2 (l:=b.bH.take (mE b.bH x.az+1)) (by simp;omega) (λc hc=>(hg.mv c (sA hc)).1)
structure uA (N : Int) (b : bz) : Prop where
 sS:fZ zN b.bH
 fC:pL b.bH=0
 can:GW b.runs
 runs:∀k r,(k,r)∈b.runs.getD []->uj r.gJ/\k∈Dl b.bH
 jc:0<=b.jc/\b.jc<=65535
 uQ:0<=b.aK.shown/\b.aK.shown<=b.aK.since/\b.aK.since<=N
 cK:-1<=b.cK/\b.cK<(b.bH.length:Int)
 FK:b.eM<0\/(b.cK+1<(b.bH.length:Int)/\eT b.aK N<=b.eM/\b.eM<=72000000)
structure lq (N : Int) (s : dH) : Prop where
 n:0<=N/\N<=36000000
 len:s.aH.length<=40
 bs:∀b∈s.aH,uA N b
 oG:0<=s.oG/\s.oG<=65535
structure vC (d : cr) : Prop where
 pre:fZ xk d.setup.bn
 lev:∀k v,0<=(xq d.setup.bn k v).1/\(xq d.setup.bn k v).1<=65535
 par:∀k,0<=(gr d k).2.1/\(gr d k).2.1<=65535
theorem GH{N t:Int}{b:bz}(h:0<=b.aK.shown/\b.aK.shown<=b.aK.since/\b.aK.since<=N)(h1:N<=t)(h2:t<=36000000):eT b.aK t=(if b.aK.jV=θ then b.aK.shown else b.aK.shown+t-b.aK.since)/\0<=eT b.aK t/\eT b.aK t<=t:=by
 obtain⟨a1,a2,a3⟩:=h;unfold eT;split
 ·exact⟨rfl,a1,by omega⟩
 ·rw[show ξ.wrap (b.aK.shown+t)=b.aK.shown+t from cq (by unfold aY;omega),cq (by unfold aY;omega)];exact⟨rfl,by omega,by omega⟩
theorem uA.ok{N t:Int}{b:bz}(h:uA N b)(h1:N<=t)(h2:t<=36000000):wu b t:=
 ⟨λk r hr=>(h.runs k r (Dr hr)).1,h.jc,(GH h.uQ h1 h2).2.1⟩
theorem az5{N:Int}{b:bz}(h:uA N b)(hN:N<=36000000):iC b=if b.eM<0\/b.aK.jV=θ then -1 else b.aK.since+b.eM-b.aK.shown:=by
 obtain⟨a1,a2,a3⟩:=h.uQ;unfold iC;split
 ·rfl
 ·rename_i q;rcases h.FK with h3|⟨h3,h4,h5⟩
  ·exact absurd (.inl h3) q
  ·have:=(GH h.uQ (ZC N) hN).2;rw[show ξ.wrap (b.aK.since+b.eM)=b.aK.since+b.eM from cq (by unfold aY;omega),cq (by unfold aY;omega)]
theorem uA.mono{N N':Int}{b:bz}(h:uA N b)(h1:N<=N')(h2:N'<=36000000)(hd:iC b<0\/N'<=iC b):uA N' b:=by
 obtain⟨a1,a2,a3⟩:=h.uQ;refine⟨h.sS,h.fC,h.can,h.runs,h.jc,⟨a1,a2,by omega⟩,h.cK,?_⟩;rcases h.FK with h3|⟨h3,h4,h5⟩
 ·exact .inl h3
 ·by_cases hf:b.eM<0
  ·exact .inl hf
  refine .inr ⟨h3,?_,h5⟩;have e1:=(GH h.uQ (ZC N) (by omega)).1;have e2:=(GH (t:=N') h.uQ h1 h2).1;have e3:=az5 h (by omega);rw[e2];rw[e1]at h4;by_cases hs:b.aK.jV=θ
  ·rw[aP hs]at h4 ⊢;exact h4
  ·rw[aO hs]at h4 ⊢;rw[aO (λq=>q.elim hf hs)]at e3;omega
theorem RE{f:jI}(ha:0<=f.fC/\f.fC<=65535)(hb:0<=f.to/\f.to<=65535)(hs:0<=f.start/\f.start<=36000000)(hd:0<=f.cB/\f.cB<=36000000)(ht:0<=f.time/\f.time<=36000000)(hc:pK f.fM=0):uj (wC f):=by
 have e1:mn f.start 36000000=f.start:=by unfold mn;rw[aO (by omega)]
 have e2:ξ.wrap (36000000-f.start)=36000000-f.start:=cq (by unfold aY;omega);have e3:0<=mn f.cB (36000000-f.start)/\mn f.cB (36000000-f.start)<=36000000-f.start:=by unfold mn;split<;>omega
 have e4:ξ.wrap (36000000-f.start-mn f.cB (36000000-f.start))=36000000-f.start-mn f.cB (36000000-f.start):=cq (by unfold aY;omega);have e5:0<=mn f.time (36000000-f.start-mn f.cB (36000000-f.start))/\mn f.time (36000000-f.start-mn f.cB (36000000-f.start))<=36000000-f.start-mn f.cB (36000000-f.start):=by unfold mn;split<;>omega
 unfold wC;rw[e1,e2,e4];exact⟨ha,hb,hs,⟨e3.1,by show mn f.cB _<=_;omega⟩,⟨e5.1,by show mn f.time _<=_;omega⟩,by show f.start+mn f.cB _+mn f.time _<=_;omega,hc⟩
theorem aqI{d:cr}{x:bA}(hx:agR x)(k:aC){fC to c:Int}(ha:0<=fC/\fC<=65535)(hb:0<=to/\to<=65535)(hc:0<=c/\c<=36000000):uj (Ce d x k fC to c):=by
 unfold Ce
 have h0:0<=(JW (gr d k).1 x fC to c).time/\(JW (gr d k).1 x fC to c).time<=36000000:=by
  unfold JW;simp only;split
  ·split
   ·exact hx.n
   ·exact hx.u
  ·exact hx.o
 have h1:∃dl tm,MM x k (JW (gr d k).1 x fC to c)=⟨fC,to,c,dl,tm,x.fM⟩/\(0<=dl/\dl<=36000000)/\0<=tm/\tm<=36000000:=by
  unfold MM;split
  ·exact⟨_,_,rfl,hx.d,h0⟩
  ·rename_i m hm;split
   ·have:=hx.m m (xD hm);exact⟨_,_,rfl,this.1,this.2⟩
   ·exact⟨_,_,rfl,hx.d,h0⟩
 obtain⟨dl,tm,e,hd,ht⟩:=h1;rw[e];unfold GI;split
 ·exact RE ha hb hc hd (by simp) hx.c
 ·exact RE ha hb hc hd ht hx.c
theorem as2{g:Int}{b:bz}{r:dU}(hr:uj r.gJ)(hf:0<=b.jc/\b.jc<=65535)(c:Int):0<=Ft g b r c/\Ft g b r c<=65535:=by
 unfold Ft;split
 ·exact auL (J4 hr c) hf
 ·exact J4 hr c
theorem agu{d:cr}(hd:vC d){k:aC}{t:Int}:∀{bs:List bz},(∀b∈bs,wu b t)->0<=(sR d bs k t).out/\(sR d bs k t).out<=65535:=by
 intro bs hb;unfold sR
 have key:∀(l:List bz)(m:HD),(∀b∈l,wu b t)->(0<=m.out/\m.out<=65535)->0<=(l.foldl (uo (gr d k).1 k t) m).out/\(l.foldl (uo (gr d k).1 k t) m).out<=65535:=by
  intro l;induction l with
  |nil=>intro m _ h;exact h
  |cons b l ih=>
   intro m hl h;rw[V4];refine ih _ (λb hb=>hl b (by simp [hb])) ?_;have KO:=hl b (by simp);unfold uo;split
   ·exact h
   ·rename_i hq;split
    ·have nG:(eF b k (eT b.aK t)).2=θ:=by
      cases h:(eF b k (eT b.aK t)).2
      ·exact absurd (.inl h) hq
      ·rfl
     exact as2 (C6 KO nG) KO.jc _
    ·exact h
 exact key bs _ hb (hd.par k)
theorem ad9{l:List (aC×dU)}(h:(l.map (·.1)).Nodup):GW (δ (DA l)):=by
 intro l' e;injection e with e
 subst e;exact⟨((Js l).map (·.1)).nodup_iff.2 h,aql l⟩
theorem Mb{N:Int}{b:bz}(h:uA N b):((b.runs.getD []).map (·.1)).Nodup:=by
 cases hr:b.runs with
 |none=>simp
 |some l=>exact(h.can l hr).1
theorem afm{d:cr}(hd:vC d){s:dH}{N t:Int}(hs:lq N s)(h1:N<=t)(h2:t<=36000000){b:bz}(hb:b∈s.aH){to:Nat}{x:bA}(hx:b.bH[to]? =δ x):uA t (lB d s b x (to:Int) t):=by
 have hB:=hs.bs b hb;have hN:=hs.n;have hto:=(bG.1 hx).1;have OR:=aeo hB.fC (dm hx);obtain⟨c0,c1,c2⟩:=GH hB.uQ h1 h2;have OJ:∀b∈s.aH,wu b t:=λb hb=>(hs.bs b hb).ok h1 h2
 have KO:=OJ b hb;refine⟨hB.sS,hB.fC,ad9 (go_nodup (Ro b x).1 (Mb hB)),λk r hkr=>?_,hB.jc,⟨c1,c2,ZC _⟩,⟨by show -1<=(to:Int);omega,by show(to:Int)<_;exact_mod_cast hto⟩,?_⟩
 ·have hm:(k,r)∈zA d s b x t:=(Js _).mem_iff.1 hkr;unfold zA at hm;rcases jQ.1 hm with hm|hm
  ·obtain⟨e,he,q⟩:=gh.1 hm;injection q with q1 q2
   subst q2;refine⟨?_,by rw[<-q1];exact art he⟩;unfold yx;split
   ·rename_i hq;exact C6 KO hq.1
   ·refine aqI OR _ ?_ (hd.lev _ _) ⟨c1,by omega⟩;unfold Ki;split
    ·rename_i hq;exact J4 (C6 KO hq) _
    ·split
     ·exact agu hd OJ
     ·simp
  ·obtain⟨p,hp,q⟩:=ZJ.1 hm;obtain⟨r',hr',q⟩:=fF.1 q;injection q with q1 q2
   subst q2;refine⟨?_,by rw[<-q1];exact(hB.runs p.1 p.2 hp).2⟩;unfold wm at hr';split at hr'
   ·cases hr'
   ·rename_i hq;injection hr' with hr'
    subst hr'
    have nG:(eF b p.1 (eT b.aK t)).2=θ:=by
     cases h:(eF b p.1 (eT b.aK t)).2
     ·exact absurd (.inl h) hq
     ·rfl
    have hfo:=C6 KO nG;split
    ·exact hfo
    ·exact RE (J4 hfo _) (by simp) ⟨c1,by show eT b.aK t<=_;omega⟩ OR.d OR.n OR.c
 ·show(lB d s b x (to:Int) t).eM<0\/_;by_cases hf:0<=x.eM/\(to:Int)+1<(b.bH.length:Int)
  ·have hxf:=OR.f
   have e:(lB d s b x (to:Int) t).eM=eT b.aK t+x.eM:=by show(if 0<=x.eM/\(to:Int)+1<(b.bH.length:Int)then ξ.wrap (eT b.aK t+x.eM)else -1)=_;rw[aP hf,cq (by unfold aY;omega)]
   refine .inr ⟨hf.2,?_,by rw[e];omega⟩;rw[e]
   have:eT (lB d s b x (to:Int) t).aK t=eT b.aK t:=by show eT ⟨eT b.aK t,t,ι⟩ t=_;generalize eT b.aK t=c at c1 c2;show ξ.wrap (ξ.wrap (c+t) -t)=_;rw[show ξ.wrap (c+t)=c+t from cq (by unfold aY;omega),cq (by unfold aY;omega)];omega
   rw[this];omega
  ·refine .inl ?_;show(if 0<=x.eM/\(to:Int)+1<(b.bH.length:Int)then ξ.wrap (eT b.aK t+x.eM)else -1)<0;rw[aO hf];decide
def CX(t:Int)(i:Nat)(b:bz)(st:Int×Int):Int×Int:=if 0<=iC b/\iC b<=t/\(st.1<0\/iC b<st.2)then((i:Int),iC b)else st
def vF(t:Int):List bz->Nat->Int×Int->Int×Int
 |[],_,st=>st
 |b::r,i,st=>vF t r (i+1) (CX t i b st)
def MW(t:Int)(pre:List bz)(st:Int×Int):Prop:=(st.1<0/\∀b∈pre,¬(0<=iC b/\iC b<=t))\/∃(j:Nat)(b:bz),pre[j]? =δ b/\st=((j:Int),iC b)/\0<=iC b/\iC b<=t/\∀b'∈pre,0<=iC b'->iC b'<=t->iC b<=iC b'
theorem anK{t:Int}{pre:List bz}{b:bz}{st:Int×Int}(h:MW t pre st):MW t (pre++[b]) (CX t pre.length b st):=by
 unfold CX;by_cases hc:0<=iC b/\iC b<=t/\(st.1<0\/iC b<st.2)
 ·rw[aP hc];refine .inr ⟨pre.length,b,by simp,rfl,hc.1,hc.2.1,λb' hb' q1 q2=>?_⟩;rcases jQ.1 hb' with hb'|hb'
  ·rcases h with⟨_,k⟩|⟨j,b0,k1,k2,k3,k4,k5⟩
   ·exact absurd ⟨q1,q2⟩ (k b' hb')
   ·rcases hc.2.2 with q|q
    ·rw[k2]at q;simp only at q;omega
    ·rw[k2]at q;simp only at q;have:=k5 b' hb' q1 q2;omega
  ·simp only[TV]at hb';subst hb';exact ZC _
 ·rw[aO hc];rcases h with⟨k0,k⟩|⟨j,b0,k1,k2,k3,k4,k5⟩
  ·refine .inl ⟨k0,λb' hb' q=>?_⟩;rcases jQ.1 hb' with hb'|hb'
   ·exact k b' hb' q
   ·simp only[TV]at hb';subst hb';exact hc ⟨q.1,q.2,.inl k0⟩
  ·refine .inr ⟨j,b0,?_,k2,k3,k4,λb' hb' q1 q2=>?_⟩
   ·rw[iS (bG.1 k1).1];exact k1
   ·rcases jQ.1 hb' with hb'|hb'
    ·exact k5 b' hb' q1 q2
    ·simp only[TV]at hb';subst hb';by_cases q:iC b'<iC b0
     ·exact absurd ⟨q1,q2,.inr (by rw[k2];exact q)⟩ hc
     ·omega
theorem afb{t:Int}:∀{l pre:List bz}{st:Int×Int},MW t pre st->MW t (pre++l) (vF t l pre.length st)
 |[],pre,st,h=>by rw[VT];exact h
 |b::l,pre,st,h=>by have:=afb (l:=l) (anK (b:=b) h);rw[lp,ZY]at this;exact this
def zL (d:cr) (t:Int) (s:dH):Option dH:=
 if(vF t s.aH 0 (-1,0)).1<0 then μ
 else(s.aH[(vF t s.aH 0 (-1,0)).1.toNat]?).bind λb=>(b.bH[(b.cK+1).toNat]?).map λx=>
  {s with az:=ξ.wrap (s.az+1),aH:=s.aH.set (vF t s.aH 0 (-1,0)).1.toNat (lB d {s with az:=ξ.wrap (s.az+1)} b x (b.cK+1) (vF t s.aH 0 (-1,0)).2)}
def tv (d:cr) (t:Int):Nat->dH->dH
 |0,s=>s
 |n+1,s=>match zL d t s with
  |none=>s
  |some s'=>tv d t n s'
def Sj(b:bz):Nat:=((b.bH.length:Int) -b.cK).toNat
def zK(l:List bz):Nat:=(l.map Sj).sum
def kM (d:cr) (s:dH) (t:Int):dH:=tv d t (zK s.aH) s
theorem aps{l:List bz}{i:Nat}{b b':bz}(h:l[i]? =δ b)(hl:Sj b'<Sj b):zK (l.set i b')<zK l:=by
 unfold zK;induction l generalizing i with
 |nil=>cases h
 |cons y l ih=>
  cases i with
  |zero=>
   injection h with h
   subst h;simp only[aC5,eP,List.sum_cons];omega
  |succ i=>have:=ih (i:=i) h;simp only[aC4,eP,List.sum_cons];omega
theorem aB2{N:Int}{s:dH}(h:lq N s)(n:Int):lq N {s with az:=n}:=⟨h.n,h.len,h.bs,h.oG⟩
theorem adU{N N':Int}{s:dH}(h:lq N s)(h1:N<=N')(h2:N'<=36000000)(hd:∀b∈s.aH,iC b<0\/N'<=iC b):lq N' s:=
 ⟨⟨by have:=h.n;omega,h2⟩,h.len,λb hb=>(h.bs b hb).mono h1 h2 (hd b hb),h.oG⟩
theorem Rr{N:Int}{s:dH}(h:lq N s)(i:Nat){b:bz}(hb:uA N b)(n:Int):lq N {s with az:=n,aH:=s.aH.set i b}:=
 ⟨h.n,by show(s.aH.set i b).length<=40;rw[aDd];exact h.len,λb' hb'=>by
  rcases List.mem_or_eq_of_mem_set hb' with q|q
  ·exact h.bs b' q
  ·rw[q];exact hb,h.oG⟩
theorem RJ{d:cr}(hd:vC d){s:dH}{N t:Int}(hs:lq N s)(h1:N<=t)(h2:t<=36000000):
  ((vF t s.aH 0 (-1,0)).1<0/\zL d t s=μ/\lq t s)\/
  ∃(f:Nat)(b:bz)(x:bA)(to:Nat)(tm:Int),vF t s.aH 0 (-1,0)=((f:Int),tm)/\s.aH[f]? =δ b/\b.cK+1=(to:Int)/\b.bH[to]? =δ x/\N<=tm/\tm<=t/\(∀b∈s.aH,uA tm b)/\lq tm {s with az:=ξ.wrap (s.az+1)}/\
   zL d t s=δ {s with az:=ξ.wrap (s.az+1),aH:=s.aH.set f (lB d {s with az:=ξ.wrap (s.az+1)} b x (to:Int) tm)}/\
   lq tm {s with az:=ξ.wrap (s.az+1),aH:=s.aH.set f (lB d {s with az:=ξ.wrap (s.az+1)} b x (to:Int) tm)}/\
   zK (s.aH.set f (lB d {s with az:=ξ.wrap (s.az+1)} b x (to:Int) tm))<zK s.aH:=by
 have hD:MW t s.aH (vF t s.aH 0 (-1,0)):=by have:=afb (t:=t) (l:=s.aH) (pre:=[]) (st:=(-1,0)) (.inl ⟨by decide,by simp⟩);simpa using this
 have hmin:∀b∈s.aH,iC b<0\/N<=iC b:=by
  intro b hb;have hB:=hs.bs b hb;rw[az5 hB hs.n.2];split
  ·exact .inl (by decide)
  ·rename_i q;right;rcases hB.FK with h3|⟨h3,h4,h5⟩
   ·exact absurd (.inl h3) q
   ·rw[(GH hB.uQ (ZC N) hs.n.2).1,aO (λz=>q (.inr z))]at h4;omega
 rcases hD with⟨k0,k⟩|⟨f,b,k1,k2,k3,k4,k5⟩
 ·refine .inl ⟨k0,?_,adU hs h1 h2 λb hb=>?_⟩
  ·unfold zL;rw[aP k0]
  ·have:=k b hb;omega
 ·have Al:=dm k1;have hB:=hs.bs b Al;have hN:=hs.n;have pP:N<=iC b:=by rcases hmin b Al with q|q<;>omega
  have Fj:¬(b.eM<0\/b.aK.jV=θ):=by intro q;have e:=az5 hB hN.2;rw[aP q]at e;omega
  have FO:b.cK+1<(b.bH.length:Int):=by
   rcases hB.FK with h3|⟨h3,_⟩
   ·exact absurd (.inl h3) Fj
   ·exact h3
  have hc1:=hB.cK;have hto:(b.cK+1).toNat<b.bH.length:=by omega
  have hx:b.bH[(b.cK+1).toNat]? =δ b.bH[(b.cK+1).toNat]:=cC hto
  have hmono:lq (iC b) {s with az:=ξ.wrap (s.az+1)}:=aB2 (adU hs pP (by omega) λb' hb'=>by
   rcases hmin b' hb' with q|q
   ·exact .inl q
   ·by_cases q2:iC b'<=t
    ·exact .inr (k5 b' hb' (by omega) q2)
    ·exact .inr (by omega)) _
  have hci:((b.cK+1).toNat:Int)=b.cK+1:=by omega
  refine .inr ⟨f,b,b.bH[(b.cK+1).toNat],(b.cK+1).toNat,iC b,k2,k1,hci.symm,hx,pP,k4,hmono.bs,hmono,?_,?_,aps k1 ?_⟩
  ·unfold zL;rw[k2];simp only;rw[aO (by omega),TS,k1,aJ,hx,cR,hci]
  ·exact Rr (s:={s with az:=ξ.wrap (s.az+1)}) hmono f (afm hd hmono (ZC _) (by omega) Al hx) _
  ·unfold Sj;show((b.bH.length:Int) -(((b.cK+1).toNat:Nat):Int)).toNat<_;omega
theorem abX{d:cr}(hd:vC d){t:Int}(h2:t<=36000000):∀(n:Nat){s:dH}{N:Int},lq N s->N<=t->zK s.aH<=n->lq t (tv d t n s)
 |0,s,N,hs,h1,hn=>by
  rcases RJ hd hs h1 h2 with⟨_,_,h⟩|⟨f,b,x,to,tm,_,_,_,_,_,_,_,_,_,_,hl⟩
  ·exact h
  ·omega
 |n+1,s,N,hs,h1,hn=>by
  unfold tv;rcases RJ hd hs h1 h2 with⟨_,e,h⟩|⟨f,b,x,to,tm,_,_,_,_,_,k,_,_,e,h,hl⟩
  ·rw[e];exact h
  ·rw[e];exact abX hd h2 n h k (by show zK (s.aH.set f _)<=n;omega)
theorem QS{d:cr}(hd:vC d){s:dH}{N t:Int}(hs:lq N s)(h1:N<=t)(h2:t<=36000000):lq t (kM d s t):=abX hd h2 _ hs h1 (bN _)
end
section
open HP
theorem aq5{W:Heap}{bC g i:Nat}{l:List bz}{b:bz}(h:W[bC]? =δ (.arr g 10 (l.map aU)))(hb:l[i]? =δ b)(sh:Sh):Lt W sh (.oe bC g i 0) (.rp (aU b)):=by
 refine⟨⟨.rp (aU b),?_,rfl,rfl⟩,rfl,λh=>by cases h⟩;have e:(l.map aU)[i]? =δ (aU b):=by rw[uz,hb];rfl
 have q:=BP b W 0 7;simp only[X4,aCX,if_false,h,if_true,e,Zz,MB,q,cR]
theorem ave{W:Heap}{bC g i:Nat}{l:List bz}{b:bz}(h:W[bC]? =δ (.arr g 10 (l.map aU)))(hb:l[i]? =δ b):Ez [.oe bC g i 0] W=δ (.ah (iC b),W):=
 Bb (eD:=[.oe bC g i 0]) (ts:=[.rp (aU b)]) ⟨aq5 h hb _,trivial⟩ (λσ=>ahb b σ) rfl
theorem aAq{bC g n i:Nat}(h:i<n):Zo 10 (.os bC g 10 0 n) (.ah (i:Int))=δ (.oe bC g i 0):=by
 have:((i:Int)<(n:Int)):=by omega
 simp [Zo,A.idx,this]
theorem aqD{W:Heap}{L bC g:Nat}{s:dH}{t:Int}(h1:W[L]? =δ (.box (bU (.os bC g 10 0 s.aH.length) s)))(h2:W[bC]? =δ (.arr g 10 (s.aH.map aU))){i:Nat}{b:bz}(hb:s.aH[i]? =δ b)(hs:s.aH.length<=aZ)(u:AV)(st:Int×Int):(Lx (ε t) L (ε (s.aH.length:Int))) [u,.ah st.1,.ah st.2,.ah (i:Int)] W=δ (.normal,[u,.ah (CX t i b st).1,.ah (CX t i b st).2,.ah ((i+1:Nat):Int)],W):=by
 have hi:=(bG.1 hb).1;try unfold Lx
 simp only[cH,dr];rw[iR hb,bS,dL,show WC 0 (.op L 0)=δ (.op L 0)from rfl,bS,show((χ (.op L 0) W).bind λc=>Γ 0 c)=δ (.os bC g 10 0 s.aH.length)from by simp only[χ,h1];rfl,bS,aAq hi,bS,ave h2 hb,bS,vD,bS];unfold CX;by_cases c1:0<=iC b
 case neg=>
  rw[cO c1,aO (λq=>c1 q.1)];simp only[xP,gU,bS,qM,cF,cH,dr];rw[fT hb hs,bS]
 rw[cL c1];simp only[gT,bS,Ss,qm];by_cases c2:iC b<=t
 case neg=>
  rw[cO c2,aO (λq=>c2 q.2.1)];simp only[xP,gU,bS,qM,cF,cH,dr];rw[fT hb hs,bS]
 rw[cL c2];simp only[gT,bS,nw,qm];by_cases c3:st.1<0
 ·rw[cL c3,aP ⟨c1,c2,.inl c3⟩];simp only[Cv,gU,bS,qm,cT,cH,dr];rw[fT hb hs,bS]
 rw[cO c3];simp only[gF,bS,nw,qM];by_cases c4:iC b<st.2
 ·rw[cL c4,aP ⟨c1,c2,.inr c4⟩];simp only[cT,bS,cH,dr];rw[fT hb hs,bS]
 ·rw[cO c4,aO (λq=>q.2.2.elim c3 c4)];simp only[cF,bS,cH,dr];rw[fT hb hs,bS]
theorem aqC{W:Heap}{L bC g:Nat}{s:dH}{t:Int}(h1:W[L]? =δ (.box (bU (.os bC g 10 0 s.aH.length) s)))(h2:W[bC]? =δ (.arr g 10 (s.aH.map aU)))(hs:s.aH.length<=aZ)(u:AV):Y7 (Lx (ε t) L (ε (s.aH.length:Int))) [u,.ah (-1),.ah 0,.ah 0] W=δ (.exit 2,[u,.ah (vF t s.aH 0 (-1,0)).1,.ah (vF t s.aH 0 (-1,0)).2,.ah (s.aH.length:Int)],W):=by
 refine D6 (qt (Q:=λq=>q=(.exit 2,[u,.ah (vF t s.aH 0 (-1,0)).1,.ah (vF t s.aH 0 (-1,0)).2,.ah (s.aH.length:Int)],W)) (λz v w=>∃(i:Nat)(st:Int×Int),i<=s.aH.length/\v=[u,.ah st.1,.ah st.2,.ah (i:Int)]/\w=W/\z=s.aH.length-i/\vF t (s.aH.drop i) i st=vF t s.aH 0 (-1,0)) ?_ (n:=s.aH.length) ⟨0,(-1,0),kW _,rfl,rfl,rfl,rfl⟩);rintro z v w ⟨i,st,hi,rfl,rfl,hz,hT⟩;by_cases h:i<s.aH.length
 ·have hb:s.aH[i]? =δ s.aH[i]:=cC h;refine .inl ⟨s.aH.length-(i+1),_,_,by omega,aqD h1 h2 hb hs u st,i+1,CX t i s.aH[i] st,h,rfl,rfl,rfl,?_⟩;rw[UG h]at hT;exact hT
 ·have:i=s.aH.length:=by omega
  subst this;rw[aDp]at hT;rw[<-hT];refine .inr ⟨_,?_,by simp,rfl⟩;try unfold Lx
  simp only[cH,dr];rw[iQ,bS,dD];rfl
abbrev uK(σ:Heap)(g:Nat)(s:dH):Heap:=σ++[.box (bU (.os (σ.length+1) g 10 0 s.aH.length) s),.arr g 10 (s.aH.map aU)]
theorem ag6(σ:Heap)(g:Nat)(s:dH):(uK σ g s)[σ.length]? =δ (.box (bU (.os (σ.length+1) g 10 0 s.aH.length) s)):=by rw[jq (bN _),Yp];rfl
theorem MX(σ:Heap)(g:Nat)(s:dH):(uK σ g s)[σ.length+1]? =δ (.arr g 10 (s.aH.map aU)):=by rw[jq (by omega),show σ.length+1-σ.length=1 by omega];rfl
theorem af2(σ:Heap)(b0 b1 b:aW):(σ++[b0,b1]).set σ.length b=σ++[b,b1]:=by rw[sy _ _ (bN _),Yp];rfl
theorem atW(σ:Heap)(b0 b1 b:aW):(σ++[b0,b1]).set (σ.length+1) b=σ++[b0,b]:=by rw[sy _ _ (by omega),show σ.length+1-σ.length=1 by omega];rfl
theorem wI.ext{p:AV}{d:cr}{σ:Heap}(h:wI p d σ)(ex:Heap):wI p d (σ++ex):=by obtain⟨q1,q2,f1,f2,f3⟩:=h.f2;obtain⟨FV,pm,g1,g2⟩:=h.f10;exact⟨h.nc,⟨q1,q2,f1,f2,λex'=>by rw[lp];exact f3 _⟩,⟨FV,pm,g1,λex'=>by rw[lp];exact g2 _⟩,λex'=>by rw[lp];exact h.lt _⟩
def Yk(W:Heap)(v:AV)(l:List bz):Prop:=(l=[]/\(v=.aA\/v=.ez))\/∃id g,v=.os id g 10 0 l.length/\W[id]? =δ (.arr g 10 (l.map aU))
abbrev xL:aq:=[Zg,(ε 0),(ε 0),aR]
theorem anw{d:cr}(hI:vC d){σ:Heap}{pd:AV}(hd:wI pd d σ){t:Int}(h2:t<=36000000){s:dH}{N:Int}(hs:lq N s)(h1:N<=t)(g:Nat):Y7 (Lw pd (ε t) σ.length) [.lbx xL] (uK σ g s)=δ (.ret,[.lbx (bU (.os (σ.length+1) g 10 0 (kM d s t).aH.length) (kM d s t))],uK σ g (kM d s t)):=by
 obtain⟨fs,hfs⟩:∃fs,fs=kM d s t:=⟨_,rfl⟩
 rw[<-hfs];refine D6 (qt (Q:=λq=>q=(.ret,[.lbx (bU (.os (σ.length+1) g 10 0 fs.aH.length) fs)],uK σ g fs)) (λz v w=>∃(s:dH)(N:Int),lq N s/\N<=t/\v=[.lbx xL]/\w=uK σ g s/\zK s.aH<=z/\tv d t z s=fs) ?_ (n:=zK s.aH) ⟨s,N,hs,h1,rfl,rfl,bN _,hfs.symm⟩);rintro z v w ⟨s,N,hs,h1,rfl,rfl,hz,hF⟩;have mV:s.aH.length<=aZ:=by have:=hs.len;unfold aZ;omega
 have A1:=ag6 σ g s;have A2:=MX σ g s;have rdS:((χ (.op σ.length 0) (uK σ g s)).bind λc=>Γ 0 c)=δ (.os (σ.length+1) g 10 0 s.aH.length):=by simp only[χ,A1];rfl
 have O0:((χ (.op σ.length 0) (uK σ g s)).bind λc=>VU 0 4 c)=δ (.agg (bU (.os (σ.length+1) g 10 0 s.aH.length) s)):=by simp only[χ,A1];rfl
 have CH:((χ (.op σ.length 1) (uK σ g s)).bind λc=>Γ 0 c)=δ (.ah s.az):=by simp only[χ,A1];rfl
 have L1:=aqC (t:=t) A1 A2 mV (.lbx xL);rcases RJ hI hs h1 h2 with⟨k0,k1,k2⟩|⟨f,b,x,to,tm,e1,e2,e3,e4,e5,e6,e7,e8,e9,iV,e11⟩
 ·have A7:s=fs:=by
   cases z with
   |zero=>exact hF
   |succ z=>unfold tv at hF;rw[k1]at hF;exact hF
  refine .inr ⟨_,?_,by simp,rfl⟩;unfold Lw;rw[<-A7];rw[show WC 0 (.op σ.length 0)=δ (.op σ.length 0)from rfl,bS,rdS,bS,show UY (.os (σ.length+1) g 10 0 s.aH.length)=δ (.ah (s.aH.length:Int))from rfl,bS];refine(congrArg (λz=>aDN z _) L1).trans ?_;rw[bS];simp only[qj,cH,dr];rw[nw,bS,cL k0,dL,O0,bS,kg,bS];rfl
 ·have gQ:0<z:=by omega
  obtain⟨z',rfl⟩:∃z',z=z'+1:=⟨z-1,by omega⟩
  unfold tv at hF;rw[e9]at hF;refine .inl ⟨z',_,_,by omega,?_,_,tm,iV,e6,rfl,rfl,?_,hF⟩
  ·unfold Lw;rw[show WC 0 (.op σ.length 0)=δ (.op σ.length 0)from rfl,bS,rdS,bS,show UY (.os (σ.length+1) g 10 0 s.aH.length)=δ (.ah (s.aH.length:Int))from rfl,bS];refine(congrArg (λz=>aDN z _) L1).trans ?_;rw[bS,e1];simp only[qj,cH,dr];rw[nw,bS,cO (by omega),dD,show WC 1 (.op σ.length 0)=δ (.op σ.length 1)from rfl,bS,CH,bS,nQ,bS];simp only[bS,uu]
   have hst:XZ (.op σ.length 1) [.ah (ξ.wrap (s.az+1))] (uK σ g s)=δ (uK σ g {s with az:=ξ.wrap (s.az+1)}):=by simp only[XZ,A1];rw[show ir 1 [.ah (ξ.wrap (s.az+1))] (bU (.os (σ.length+1) g 10 0 s.aH.length) s)=δ (bU (.os (σ.length+1) g 10 0 s.aH.length) {s with az:=ξ.wrap (s.az+1)})from rfl,cR,af2]
   rw[hst,bS];obtain⟨s1,hs1⟩:∃s1:dH,s1={s with az:=ξ.wrap (s.az+1)}:=⟨_,rfl⟩
   have Kq:s1.aH=s.aH:=by rw[hs1]
   rw[<-hs1]at e8 iV ⊢;have B1:=ag6 σ g s1;have B2:=MX σ g s1;have hfl:=(bG.1 e2).1;rw[show((χ (.op σ.length 0) (uK σ g s1)).bind λc=>Γ 0 c)=δ (.os (σ.length+1) g 10 0 s1.aH.length)from by simp only[χ,B1];rfl,bS,aAq (by rw[Kq];exact hfl),bS,show WC 6 (.oe (σ.length+1) g f 0)=δ (.oe (σ.length+1) g f 6)from by simp [WC],bS]
   rw[show((χ (.oe (σ.length+1) g f 6) (uK σ g s1)).bind λc=>Γ 0 c)=δ (.ah b.cK)from by
    simp only[χ,B2,if_true,uz,Kq,e2,cR];rfl,bS,nQ,bS]
   have hB:=e7 b (dm e2);have iI:=(bG.1 e4).1;have OE:b.bH.length<=aZ:=hB.sS.1;rw[show ξ.wrap (b.cK+1)=(to:Int)from by rw[e3];exact cq (by unfold aY;unfold aZ at OE;omega)];have yW:=Ro b x;have hgo:=agm (d:=d) (s:=s1) (σ:=uK σ g s1) (pd:=pd) (ids:=σ.length) (bC:=σ.length+1) (g:=g) (ib:=f) (to:=to) (b:=b) (x:=x) (t:=tm) (hd.ext _) B1 B2 (by rw[Kq];exact e2) e4 (by rw[Kq];exact mV) (by rw[Kq];exact λb hb=>(e7 b hb).ok (ZC _) (by omega)) hI.pre hB.sS yW.1 (by have:=yW.2;unfold aZ;omega) (by rw[Kq];exact λb hb=>(e7 b hb).can);rw[hgo,bS,atW];simp only[hs1,uK,bU,aDd]
  ·exact Nat.le_of_lt_succ (xB e11 hz)
def J7(σ:Heap)(s:dH)(v:AV)(H:Heap):Prop:=(s.aH=[]/\v=.ez/\H=σ++[.box (bU v s)])\/∃g,v=.os (σ.length+1) g 10 0 s.aH.length/\H=uK σ g s
theorem J7.ex{σ H:Heap}{s:dH}{v:AV}(h:J7 σ s v H):(∃ex,H=σ++ex)/\Yk H v s.aH:=by
 rcases h with⟨h1,h2,h3⟩|⟨g,h1,h2⟩
 ·exact⟨⟨_,h3⟩,.inl ⟨h1,.inr h2⟩⟩
 ·exact⟨⟨_,h2⟩,.inr ⟨_,g,h1,by rw[h2];exact MX σ g s⟩⟩
theorem W7{d:cr}(hI:vC d){σ:Heap}{pd v0:AV}(hd:wI pd d σ){t:Int}(h2:t<=36000000){N:Int}(hs:lq N d.state)(h1:N<=t)(h0:∃q,WC 0 pd=δ q/\((χ q σ).bind λc=>VU 0 4 c)=δ (.agg (bU v0 d.state))) (hv:Yk σ v0 d.state.aH):
  ∃v H,Ey [pd,.ah t] σ=δ (.agg (bU v (kM d d.state t)),H)/\J7 σ (kM d d.state t) v H:=by
 have auU:∀{r:AV->AV->Heap->aF}{x y v:AV}{σ σ':Heap},r x y σ=δ (v,σ')->Ω ι [] .k (Xw r) [x,y] σ=δ (v,σ'):=by intro r x y v σ σ' e;have:Xw r [x,y] σ=δ (v,σ'):=e;simp only[Ω,U7,bQ,TQ,this,cR,jr]
 suffices h:∃v H,PZ pd (.ah t) σ=δ (.agg (bU v (kM d d.state t)),H)/\J7 σ (kM d d.state t) v H by obtain⟨v,H,e,h⟩:=h;exact⟨v,H,auU e,h⟩
 obtain⟨s,hst⟩:∃s,s=d.state:=⟨_,rfl⟩
 rw[<-hst]at hs h0 hv ⊢;obtain⟨q,f1,f2⟩:=h0;unfold PZ;rw[hd.nc,bS,f1,bS,f2,bS,show ψ 4 (.agg (bU v0 s))=δ (bU v0 s)from rfl,bS];have G0:(σ++[Vs xL])[σ.length]? =δ (.box xL):=by rw[jq (bN _),Yp];rfl
 have S0:XZ (.op σ.length 0) (bU v0 s) (σ++[Vs xL])=δ (σ++[Vs (bU v0 s)]):=by simp only[XZ,G0];rw[show ir 0 (bU v0 s) xL=δ (bU v0 s)from rfl,cR,sy _ _ (bN _),Yp];rfl
 rw[S0,bS,show WC 0 (.op σ.length 0)=δ (.op σ.length 0)from rfl,bS];have hcell:Ψ v0=δ v0:=by rcases hv with⟨_,h|h⟩|⟨id,g,h,_⟩<;>rw[h]<;>rfl
 have G1:(σ++[Vs (bU v0 s)])[σ.length]? =δ (.box (bU v0 s)):=by rw[jq (bN _),Yp];rfl
 rw[show((χ (.op σ.length 0) (σ++[Vs (bU v0 s)])).bind λc=>Γ 0 c)=δ v0 from by simp only[χ,G1,Zz,aJ,Γ,bU,List.getElem?_cons_zero,hcell],bS];by_cases hb:s.aH=[]
 ·have hz:Iz [v0] (σ++[Vs (bU v0 s)])=δ (.ez,σ++[Vs (bU v0 s)]):=by
   rcases hv with⟨_,h|h⟩|⟨id,g,h,_⟩
   ·rw[h];rfl
   ·rw[h];rfl
   ·rw[h,hb];rfl
  rw[hz,bS];simp only[bS]
  have S1:XZ (.op σ.length 0) [.ez] (σ++[Vs (bU v0 s)])=δ (σ++[Vs (bU .ez s)]):=by simp only[XZ,G1];rw[show ir 0 [.ez] (bU v0 s)=δ (bU .ez s)from rfl,cR,sy _ _ (bN _),Yp];rfl
  rw[show((Ψ AV.ez).bind λv=>δ [v])=δ [.ez]from rfl,bS,S1,bS]
  have hF:kM d s t=s:=by unfold kM;rw[hb];rfl
  have G2:(σ++[Vs (bU .ez s)])[σ.length]? =δ (.box (bU .ez s)):=by rw[jq (bN _),Yp];rfl
  refine⟨.ez,σ++[Vs (bU .ez s)],?_,.inl ⟨by rw[hF];exact hb,rfl,by rw[hF]⟩⟩;rw[hF];refine D6 (EW (qt (Q:=λq=>q=(.ret,[.lbx (bU .ez s)],σ++[Vs (bU .ez s)])) (λz v w=>v=[.lbx xL]/\w=σ++[Vs (bU .ez s)]) ?_ (n:=0) ⟨rfl,rfl⟩) ?_)
  ·rintro z v w ⟨rfl,rfl⟩;refine .inr ⟨_,?_,by simp,rfl⟩;unfold Lw;rw[show WC 0 (.op σ.length 0)=δ (.op σ.length 0)from rfl,bS,show((χ (.op σ.length 0) (σ++[Vs (bU .ez s)])).bind λc=>Γ 0 c)=δ .ez from by simp only[χ,G2];rfl,bS,show UY .ez=δ (.ah 0)from rfl,bS];refine D6 (EW (qt (Q:=λq=>q=(.exit 2,[.lbx xL,.ah (-1),.ah 0,.ah 0],σ++[Vs (bU .ez s)])) (λz v w=>v=[.lbx xL,.ah (-1),.ah 0,.ah 0]/\w=σ++[Vs (bU .ez s)]) ?_ (n:=0) ⟨rfl,rfl⟩) ?_)
   ·rintro z v w ⟨rfl,rfl⟩;exact .inr ⟨_,rfl,by simp,rfl⟩
   ·rintro q rfl;simp only[qj,cH,dr];rw[nw,bS,cL (by decide),dL,show((χ (.op σ.length 0) (σ++[Vs (bU .ez s)])).bind λc=>VU 0 4 c)=δ (.agg (bU .ez s))from by simp only[χ,G2];rfl,bS,kg,bS];exact⟨_,rfl,rfl⟩
  ·rintro q rfl;exact⟨_,rfl,rfl⟩
 ·rcases hv with⟨h,_⟩|⟨id,g,hv,hg⟩
  ·exact absurd h hb
  obtain⟨n,hn⟩:∃n,s.aH.length=n+1:=by
   cases h:s.aH with
   |nil=>exact absurd h hb
   |cons b l=>exact⟨l.length,rfl⟩
  have ahK:=(bG.1 hg).1;have hlen:=hs.len;have G2:(σ++[Vs (bU v0 s)])[id]? =δ (.arr g 10 (s.aH.map aU)):=by rw[iS ahK];exact hg
  have hz:Iz [v0] (σ++[Vs (bU v0 s)])=δ (.os (σ.length+1) s.aH.length 10 0 s.aH.length,(σ++[Vs (bU v0 s)])++[.arr s.aH.length 10 (s.aH.map aU)]):=by
   have e0:Iz [v0] (σ++[Vs (bU v0 s)])=Ω ι [] .k (YR IB) [v0] (σ++[Vs (bU v0 s)]):=by rw[hv,hn];rfl
   rw[e0]
   have e1:YR IB [v0] (σ++[Vs (bU v0 s)])=δ (.os (σ.length+1) s.aH.length 10 0 s.aH.length,(σ++[Vs (bU v0 s)])++[.arr s.aH.length 10 (s.aH.map aU)]):=by
    show IB v0 (σ++[Vs (bU v0 s)])=_;unfold IB;rw[show A.wO v0 .aA=δ (.bool ι)from by rw[hv];rfl,bS,dD]
    have hel:VB 10 v0 (σ++[Vs (bU v0 s)])=δ (s.aH.map aU):=by rw[hv]at G2 ⊢;simp only[VB];rw[G2];simp [n9]
    have hne:s.aH.map aU≠[]:=by simpa using hb
    have hap:WK 10 (140737488355328 / 96) .ez v0 (σ++[Vs (bU v0 s)])=δ (.os (σ.length+1) s.aH.length 10 0 s.aH.length,(σ++[Vs (bU v0 s)])++[.arr s.aH.length 10 (s.aH.map aU)]):=by unfold WK;rw[hel,bS];simp only[A.p6,aO hne,X1,ZY,YZ,UB];rw[aP (by omega)]
    rw[hap,bS]
   simp only[Ω,U7,bQ,TQ,e1,cR,jr]
  rw[hz,bS];simp only[bS];rw[show((Ψ (AV.os (σ.length+1) s.aH.length 10 0 s.aH.length)).bind λv=>δ [v])=δ [.os (σ.length+1) s.aH.length 10 0 s.aH.length]from rfl,bS]
  have S1:XZ (.op σ.length 0) [.os (σ.length+1) s.aH.length 10 0 s.aH.length] ((σ++[Vs (bU v0 s)])++[.arr s.aH.length 10 (s.aH.map aU)])=δ (uK σ s.aH.length s):=by rw[lp];simp only[XZ];rw[jq (bN _),Yp];show(Option.map (λcs=>(σ++[Vs (bU v0 s),aW.arr s.aH.length 10 (s.aH.map aU)]).set σ.length (.box cs)) (ir 0 [.os (σ.length+1) s.aH.length 10 0 s.aH.length] (bU v0 s)))=_;rw[show ir 0 [.os (σ.length+1) s.aH.length 10 0 s.aH.length] (bU v0 s)=δ (bU (.os (σ.length+1) s.aH.length 10 0 s.aH.length) s)from rfl,cR,af2]
  rw[S1,bS];refine⟨_,_,?_,.inr ⟨s.aH.length,rfl,rfl⟩⟩;refine(congrArg (λz=>aDN z _) (anw hI hd h2 hs h1 s.aH.length)).trans ?_;rw[bS];rfl
end
section
open HP
theorem aaa(dyn:Nat->aq->Heap->aF)(l:List bz)(hl:l.length<=aZ)(n:Nat)(caps:aq)(p:bz->Bool)(σ:Heap)(hd:∀x∈l,dyn n ((.agg (aU x):AV)::caps) σ=δ (.bool (p x),σ)):Ev dyn [sl 10 aU l,.fn n caps] σ=δ (.ah (iT p l),σ):=by
 refine wrap_eq rfl ?_ rfl;show Pv dyn (sl 10 aU l) (.fn n caps) σ=_;unfold Pv;simp only[aI,reduceCtorEq]
 refine(oz (S:=Unit) (R:=Int) l (λpre x _=>if p x=θ then .out (pre.length:Int)else .go ())
  (λpre _=>[.ah 0,.ah (pre.length:Int)]) (λ_ _=>σ) (λ_=>(.exit 0,[.ah 0,.ah (l.length:Int)],σ)) (λpre _ r=>(.ret,[.ah (pre.length:Int),.ah (pre.length:Int)],σ))
  (λ_ _=>True) () (λ_=>δ (ε (-1),σ)) (λr=>δ (ε r,σ)) ?_ ?_ trivial (λ_ _ _ _ _ _ _ _=>trivial) ?_ ?_).trans ?_
 ·intro pre x rest u hl' _;have hx:=oC hl';have hlt:=qv hl';have hi1:ξ.wrap ((pre.length:Int)+1)=(pre.length:Int)+1:=cq (by unfold aY;unfold aZ at hl;omega);have hlt':(pre.length:Int)<(l.length:Int):=by omega
  have jy:=lG 10 aU l hx;have sP:=hd x (by rw[hl'];simp);simp only[aI,reduceCtorEq,aA2,hlt',jy,A.l8,oJ,V7,sP,hi1];cases p x<;>simp [aI,reduceCtorEq]
 ·intro u _;simp only[aI,reduceCtorEq,Xz]
 ·intro u _;simp only[aI,reduceCtorEq]
 ·intro pre x rest s q hl' _ hb
  have:q=(pre.length:Int):=by
   cases hpx:p x
   ·rw[hpx]at hb;cases hb
   ·rw[hpx]at hb;simp at hb;exact hb.symm
  simp only[aI,reduceCtorEq,this]
 ·rw[CU p _ _ l [] (by simp)];simp only[V7];split
  ·rename_i h;rw[h]
  ·rfl
def vP (d:cr) (s:dH) (i:Nat) (b:bz) (to t:Int):dH×Int:=match b.bH[to.toNat]? with
 |none=>(s,0)
 |some x=>({s with az:=ξ.wrap (s.az+1),aH:=s.aH.set i (lB d {s with az:=ξ.wrap (s.az+1)} b x to t)},0)
def Kt(s:dH)(i:Nat)(b:bz):dH:={s with az:=ξ.wrap (s.az+1),aH:=s.aH.set i b}
def ax9 (d:cr) (s:dH) (i:Nat) (b:bz) (a:iE):dH:={s with az:=ξ.wrap (s.az+1),aH:=s.aH.set i (xJ d {s with az:=ξ.wrap (s.az+1)} b a)}
def Dw (d:cr) (s:dH) (a:iE) (i:Nat) (b:bz):dH×Int:=
 if a.kind=1 then(if b.cK+1=(b.bH.length:Int)then(s,8)else vP d s i b (b.cK+1) a.time)
 else if a.kind=2 then(if b.cK-1<0 then(s,8)else vP d s i b (b.cK-1) a.time)
 else if a.kind=3 then(if iT (λc:bA=>decide (c.az=a.cK)) b.bH<0 then(s,8)else vP d s i b (iT (λc:bA=>decide (c.az=a.cK)) b.bH) a.time)
 else if a.kind=4 then(if b.aK.jV=θ\/b.cK<0 then(s,10)else(Kt s i {b with aK:=⟨eT b.aK a.time,a.time,θ⟩},0))
 else if a.kind=5 then(if b.aK.jV=ι then(s,10)else(Kt s i {b with aK:=⟨b.aK.shown,a.time,ι⟩},0))
 else if a.kind=6 then(if b.cK<0 then(s,10)else(ax9 d s i b a,0))
 else(Kt s i {b with jc:=a.level},0)
def lu (d:cr) (s:dH) (a:iE):dH×Int:=
 if a.kind=8 then({s with az:=ξ.wrap (s.az+1),oG:=a.level},0)
 else if a.kind=9 then({s with az:=ξ.wrap (s.az+1),black:=decide (a.level=1)},0)
 else match s.aH[(iT (λb:bz=>decide (b.az=a.kZ)) s.aH).toNat]? with
  |none=>(s,0)
  |some b=>Dw d s a (iT (λb:bz=>decide (b.az=a.kZ)) s.aH).toNat b
structure SA (σ W : Heap) (ids bC g : Nat) (s : dH) : Prop where
 b1:W[ids]? =δ (.box (bU (.os bC g 10 0 s.aH.length) s))
 b2:W[bC]? =δ (.arr g 10 (s.aH.map aU))
 ex:∃ex,W=σ++ex
 i1:σ.length<=ids
 i2:σ.length<=bC
section
variable {σ W : Heap} {ids bC g : Nat} {s : dH}
theorem SA.ne(h:SA σ W ids bC g s):ids≠bC:=by intro e;have h1:=h.b1;have h2:=h.b2;rw[e,h2]at h1;cases h1
theorem XG{σ W:Heap}(h:∃ex,W=σ++ex){i:Nat}(hi:σ.length<=i)(b:aW):∃ex,W.set i b=σ++ex:=by obtain⟨ex,rfl⟩:=h;exact⟨_,sy _ _ hi⟩
theorem SA.fO(h:SA σ W ids bC g s)(i:Nat)(b':bz):SA σ (W.set bC (.arr g 10 ((s.aH.set i b').map aU))) ids bC g {s with aH:=s.aH.set i b'}:=by
 refine⟨?_,?_,XG h.ex h.i2 _,h.i1,h.i2⟩
 ·rw[XX (λe=>h.ne e.symm)];show _=δ (Vs (bU (.os bC g 10 0 (s.aH.set i b').length) _));rw[aDd];exact h.b1
 ·exact nv (bG.1 h.b2).1
theorem SA.ayg(h:SA σ W ids bC g s)(s':dH)(hs:s'.aH=s.aH):SA σ (W.set ids (.box (bU (.os bC g 10 0 s'.aH.length) s'))) ids bC g s':=by refine⟨nv (bG.1 h.b1).1,?_,XG h.ex h.i1 _,h.i1,h.i2⟩;rw[XX h.ne,hs];exact h.b2
theorem SA.num(h:SA σ W ids bC g s)(n:Int):∃W',XZ (.op ids 1) [.ah n] W=δ W'/\SA σ W' ids bC g {s with az:=n}:=by refine⟨_,?_,h.ayg {s with az:=n} rfl⟩;simp only[XZ,h.b1];rfl
theorem SA.put(h:SA σ W ids bC g s){i o:Nat}{b b':bz}{new:aq}(hb:s.aH[i]? =δ b)(hs:ir o new (aU b)=δ (aU b')):∃W',XZ (.oe bC g i o) new W=δ W'/\SA σ W' ids bC g {s with aH:=s.aH.set i b'}:=by refine⟨_,?_,h.fO i b'⟩;rw[MJ h.b2 (by rw[uz,hb];rfl) hs,List.map_set]
theorem SA.rdB(h:SA σ W ids bC g s){i:Nat}{b:bz}(hb:s.aH[i]? =δ b)(o:Nat):χ (.oe bC g i o) W=δ ((aU b).drop o):=by simp only[χ,h.b2,if_true,uz,hb,cR]
theorem SA.CH(h:SA σ W ids bC g s):((χ (.op ids 1) W).bind λc=>Γ 0 c)=δ (.ah s.az):=by simp only[χ,h.b1];rfl
theorem SA.rdV(h:SA σ W ids bC g s):((χ (.op ids 0) W).bind λc=>Γ 0 c)=δ (.os bC g 10 0 s.aH.length):=by simp only[χ,h.b1];rfl
theorem SA.go{d:cr}{pd:AV}(hI:vC d)(hd:wI pd d σ)(h:SA σ W ids bC g s){N t:Int}(hs:lq N s)(hN:N<=t)(ht:t<=36000000){i to:Nat}{b:bz}{x:bA}(hb:s.aH[i]? =δ b)(hx:b.bH[to]? =δ x):
  ∃W',xW [pd,.op ids 0,.ah (i:Int),.ah (to:Int),.ah t] W=δ (.aM [],W')/\SA σ W' ids bC g {s with aH:=s.aH.set i (lB d s b x (to:Int) t)}:=by
 obtain⟨ex,e⟩:=h.ex;have hB:=hs.bs b (dm hb);have yW:=Ro b x;refine⟨_,agm (by rw[e];exact hd.ext ex) h.b1 h.b2 hb hx (by have:=hs.len;unfold aZ;omega) (λb hb=>(hs.bs b hb).ok hN ht) hI.pre hB.sS yW.1 (by have:=yW.2;unfold aZ;omega) (λb hb=>(hs.bs b hb).can),h.fO i _⟩
theorem SA.rel{d:cr}{pd:AV}(hd:wI pd d σ)(h:SA σ W ids bC g s){a:iE}{N:Int}(hs:lq N s)(hN:N<=a.time)(ht:a.time<=36000000){i:Nat}{b:bz}(hb:s.aH[i]? =δ b):
  ∃W',LA [pd,.op ids 0,.oe bC g i 0,.agg (dR a)] W=δ (.aM [],W')/\SA σ W' ids bC g {s with aH:=s.aH.set i (xJ d s b a)}:=by
 obtain⟨ex,e⟩:=h.ex;have hB:=hs.bs b (dm hb);exact⟨_,apS (by rw[e];exact hd.ext ex) h.b1 h.b2 hb (hB.ok hN ht) (λb hb=>(hs.bs b hb).can),h.fO i _⟩
end
theorem bex{β:Type}{X:aF}{v:AV×Heap}{f:AV×Heap->Option β}{Q:Heap->Prop}(e:X=δ v){r:Heap->Option β}(k:∃W',f v=r W'/\Q W'):∃W',X.bind f=r W'/\Q W':=by rw[e];exact k
theorem aoT(b:bz)(a:iE)(σ:Heap):Ew [.agg (aU b),.rp (dR a)] σ=δ (.bool (decide (b.az=a.kZ)),σ):=by refine GA (z:=.aA) (by unfold aU;cases b.runs<;>rfl) (dO (nT (by unfold aU;cases b.runs<;>rfl)) rfl) (jr _) ?_;unfold aau;rw[QT,bS,abO,bS,mS,bS,qG,bS,show Γ 0 ((dR a).drop 2)=δ (.ah a.kZ)from rfl,bS,jL,bS];exact bD _ _
theorem aoU(c:bA)(a:iE)(σ:Heap):Ex [.agg (bg c),.rp (dR a)] σ=δ (.bool (decide (c.az=a.cK)),σ):=by refine GA (z:=.aA) rfl (dO (nT rfl) rfl) (jr _) ?_;unfold aav;rw[JI,bS,Wp,bS,mS,bS,qG,bS,show Γ 0 ((dR a).drop 3)=δ (.ah a.cK)from rfl,bS,jL,bS];exact bD _ _
theorem apv{W:Heap}{bC g:Nat}{l:List bz}(h:W[bC]? =δ (.arr g 10 (l.map aU))):Lt W (.s 10) (.os bC g 10 0 l.length) (sl 10 aU l):=
 ⟨⟨sl 10 aU l,R3 BP h (by omega) 7,rfl,rfl⟩,rfl,λh=>by cases h⟩
abbrev RV : Nat -> aq -> Heap -> aF := Zw (fun _ _ => μ) [(352, Ew), (354, Ex)]
theorem anR{W:Heap}{bC g:Nat}{l:List bz}(h:W[bC]? =δ (.arr g 10 (l.map aU)))(hl:l.length<=aZ)(a:iE):Ev RV [.os bC g 10 0 l.length,.fn 352 [.rp (dR a)]] W=δ (.ah (iT (λb:bz=>decide (b.az=a.kZ)) l),W):=
 Bb (eD:=[.os bC g 10 0 l.length,.fn 352 [.rp (dR a)]]) (ts:=[sl 10 aU l,.fn 352 [.rp (dR a)]]) ⟨apv h,E5 (ahd (cE (ahe (ach a)) pJ)) rfl,trivial⟩ (λσ=>aaa RV l hl _ _ _ σ (λb _=>aoT b a σ)) rfl
theorem afs(c t:Int)(q:Bool):((((Ψ (.ah c)).bind λv=>δ [v]).bind λYC=>(ir 0 YC [(ε 0),(ε 0),aR]).bind λNs=>((Ψ (.ah t)).bind λv=>δ [v]).bind λNt=>(ir 1 Nt Ns).bind λNu=>((Ψ (Λ q)).bind λv=>δ [v]).bind λYD=>(ir 2 YD Nu).bind λG3=>δ G3).bind λcs=>δ (Φ cs))=δ (.agg (yq ⟨c,t,q⟩)):=rfl
theorem agL(b:bz)(c:C5):ir 0 (yq c) (aU b)=δ (aU {b with aK:=c}):=rfl
theorem arw(b:bz)(n:Int):ir 7 [.ah n] (aU b)=δ (aU {b with jc:=n}):=rfl
theorem au5{d:cr}{pd:AV}(hI:vC d){σ W:Heap}(hd:wI pd d σ){ids bC g:Nat}{s:dH}(h:SA σ W ids bC g s){a:iE}(hs:lq a.time s)(hk:1<=a.kind/\a.kind<=7)(hp:∃b∈s.aH,b.az=a.kZ):
  ∃W',LH [pd,.op ids 0,.agg (dR a)] W=δ (.ah (lu d s a).2,W')/\SA σ W' ids bC g (lu d s a).1:=by
 have atK:∀{r:AV->AV->AV->Heap->aF}{x y z v:AV}{σ σ':Heap},r x y z σ=δ (v,σ')->Ω ι [] .k (X5 r) [x,y,z] σ=δ (v,σ'):=by intro r x y z v σ σ' e;exact MU (jr _) e
 suffices h:∃W',IS pd (.op ids 0) (.agg (dR a)) W=δ (.ah (lu d s a).2,W')/\SA σ W' ids bC g (lu d s a).1 by obtain⟨W',e,h⟩:=h;exact⟨W',atK e,h⟩
 have SU:s.aH.length<=aZ:=by have:=hs.len;unfold aZ;omega
 have ht:=hs.n.2;have O0:∀(k:Nat)(W:Heap),χ (.rp ((dR a).drop k)) W=δ ((dR a).drop k):=λk W=>rfl
 unfold IS lu;rw[aO (by omega),aO (by omega)];rw[show((ψ 5 (.agg (dR a))).bind λcs=>δ (ZN cs))=δ (.rp (dR a))from rfl,bS];simp only[mS,bS,O0,show Γ 0 ((dR a).drop 1)=δ (.ah a.kind)from rfl,show Γ 0 ((dR a).drop 0)=δ (.ah a.time)from rfl,show Γ 0 ((dR a).drop 4)=δ (.ah a.level)from rfl,jL,qG,acz];rw[cO (show ¬a.kind=8 by omega),dD,cO (show ¬a.kind=9 by omega),dD];simp only[show ZP (.op ids 0)=δ (.op ids 0)from rfl,bS,show ∀o,WC o (.op ids 0)=δ (.op ids o)from λo=>by simp [WC],h.rdV];refine bex (anR h.b2 SU a) ?_;simp only[h.rdV,bS]
 obtain⟨i,b,e1,e2,e3⟩:∃(i:Nat)(b:bz),s.aH[i]? =δ b/\iT (λb:bz=>decide (b.az=a.kZ)) s.aH=(i:Int)/\b∈s.aH:=by
  rcases td (λb:bz=>decide (b.az=a.kZ)) s.aH with⟨_,q,_⟩|⟨i,b,q1,_,q2,_,_⟩
  ·obtain⟨b,hb,uR⟩:=hp;have:=q b hb;rw[cL uR]at this;cases this
  ·exact⟨i,b,q1,q2,dm q1⟩
 have hi:=(bG.1 e1).1;rw[e2];simp only[TS];rw[e1];simp only;rw[aAq hi,bS];have hB:=hs.bs b e3;have hc:=hB.cK;have OE:b.bH.length<=aZ:=hB.sS.1;have fo:∀o,WC o (.oe bC g i 0)=δ (.oe bC g i o):=λo=>by simp [WC]
 have fo2:∀o,WC 0 (.oe bC g i o)=δ (.oe bC g i o):=λo=>by simp [WC]
 have fo3:∀o,WC o (.oe bC g i 0)=δ (.oe bC g i o):=λo=>by simp [WC]
 have c6:Γ 0 ((aU b).drop 6)=δ (.ah b.cK):=rfl;have c5:Γ 0 ((aU b).drop 5)=δ (sl 11 bg b.bH):=rfl;have c2:Γ 0 ((aU b).drop 2)=δ (.bool b.aK.jV):=rfl;have c0:Γ 0 ((aU b).drop 0)=δ (.ah b.aK.shown):=rfl;have c03:VU 0 3 ((aU b).drop 0)=δ (.agg (yq b.aK)):=rfl;simp only[show ZP (.oe bC g i 0)=δ (.oe bC g i 0)from rfl,bS,fo,h.rdB e1,c6,c5,c2,c0,c03,fu];obtain⟨W1,n1,n2⟩:=h.num (ξ.wrap (s.az+1));have hs1:lq a.time {s with az:=ξ.wrap (s.az+1)}:=aB2 hs _
 have go:∀(to:Nat)(x:bA),b.bH[to]? =δ x->∃W',xW [pd,.op ids 0,.ah (i:Int),.ah (to:Int),.ah a.time] W1=δ (.aM [],W')/\SA σ W' ids bC g (vP d s i b (to:Int) a.time).1/\(vP d s i b (to:Int) a.time).2=0:=by
  intro to x hx;obtain⟨W',q1,q2⟩:=n2.go hI hd hs1 (ZC _) ht e1 hx;refine⟨W',q1,?_,?_⟩
  ·unfold vP;rw[TS,hx];exact q2
  ·unfold vP;rw[TS,hx]
 have no:((Ψ (ε (ξ.wrap (s.az+1)))).bind λv=>δ [v])=δ [.ah (ξ.wrap (s.az+1))]:=rfl;unfold Dw;by_cases k1:a.kind=1
 ·rw[aP k1,cL k1,dL,nQ,bS,show ξ.wrap (b.cK+1)=b.cK+1 from cq (by unfold aY;unfold aZ at OE;omega),jL,bS];by_cases hz:b.cK+1=(b.bH.length:Int)
  ·rw[cL hz,dL,aP hz];exact⟨W,rfl,h⟩
  ·rw[cO hz,dD,aO hz,h.CH,bS,nQ,bS,no,bS,n1,bS,vD,bS,cL (by omega),dL];obtain⟨to,hto⟩:∃to:Nat,b.cK+1=(to:Int):=⟨(b.cK+1).toNat,by omega⟩
   obtain⟨W',q1,q2,q3⟩:=go to _ (cC (show to<b.bH.length by omega));rw[hto];simp only[q1,bS,q3];exact⟨W',rfl,q2⟩
 rw[aO k1,cO k1,dD];by_cases k2:a.kind=2
 ·rw[aP k2,cL k2,dL,tP,bS,show ξ.wrap (b.cK-1)=b.cK-1 from cq (by unfold aY;unfold aZ at OE;omega),nw,bS];by_cases hz:b.cK-1<0
  ·rw[cL hz,dL,aP hz];exact⟨W,rfl,h⟩
  ·rw[cO hz,dD,aO hz,h.CH,bS,nQ,bS,no,bS,n1,bS,vD,bS,cL (by omega),dL];obtain⟨to,hto⟩:∃to:Nat,b.cK-1=(to:Int):=⟨(b.cK-1).toNat,by omega⟩
   obtain⟨W',q1,q2,q3⟩:=go to _ (cC (show to<b.bH.length by omega));rw[hto];simp only[q1,bS,q3];exact⟨W',rfl,q2⟩
 rw[aO k2,cO k2,dD];by_cases k3:a.kind=3
 ·rw[aP k3,cL k3,dL];have Ec:Lj RV [sl 11 bg b.bH,.fn 354 [.rp (dR a)]] W=δ (.ah (iT (λc:bA=>decide (c.az=a.cK)) b.bH),W):=aiC RV b.bH OE _ _ _ W (λc _=>aoU c a W);refine bex Ec ?_;simp only;rw[nw,bS];rcases td (λc:bA=>decide (c.az=a.cK)) b.bH with⟨q,_,_⟩|⟨to,x,q1,_,q2,_,_⟩
  ·rw[q,cL (by decide),dL,aP (by decide)];exact⟨W,rfl,h⟩
  ·rw[q2,cO (by omega),dD,aO (by omega),h.CH,bS,nQ,bS,no,bS,n1,bS,vD,bS,cL (by omega),dL];obtain⟨W',g1,g2,g3⟩:=go to _ q1;simp only[g1,bS,g3];exact⟨W',rfl,g2⟩
 rw[aO k3,cO k3,dD]
 have Zj:∀(o:Nat)(new:aq)(b':bz),ir o new (aU b)=δ (aU b')->∃W1 W2,XZ (.oe bC g i o) new W=δ W1/\((χ (.op ids 1) W1).bind λc=>Γ 0 c)=δ (.ah s.az)/\XZ (.op ids 1) [.ah (ξ.wrap (s.az+1))] W1=δ W2/\SA σ W2 ids bC g (Kt s i b'):=by intro o new b' hsp;obtain⟨W1,w1,w2⟩:=h.put e1 hsp;obtain⟨W2,w3,w4⟩:=w2.num (ξ.wrap (s.az+1));exact⟨W1,W2,w1,w2.CH,w3,w4⟩
 by_cases k4:a.kind=4
 ·rw[aP k4,cL k4,dL];by_cases hst:b.aK.jV=θ
  ·rw[hst,aP (.inl rfl)];simp only[Cv,gU,bS,qm,cT];exact⟨W,rfl,h⟩
  have NT:b.aK.jV=ι:=by simpa using hst
  rw[NT];simp only[gF,bS,show ZP (.oe bC g i 0)=δ (.oe bC g i 0)from rfl,fo,h.rdB e1,c6,qM,nw];by_cases hz:b.cK<0
  ·rw[cL hz,dL,aP (.inr hz)];exact⟨W,rfl,h⟩
  ·rw[cO hz,dD,aO (λq=>q.elim (λq=>by cases q) hz),eH (MY _ _ W),bS,afs,bS,aAS,bS];obtain⟨W1',Oh,w1,w2,w3,w4⟩:=Zj 0 _ _ (agL b ⟨eT b.aK a.time,a.time,θ⟩);rw[w1,bS,w2,bS,nQ,bS,no,bS,w3,bS,vD,bS,cO (by decide),dD,bS];exact⟨Oh,rfl,w4⟩
 rw[aO k4,cO k4,dD];by_cases k5:a.kind=5
 ·rw[aP k5,cL k5,dL,zY,bS];by_cases hst:b.aK.jV=θ
  case neg=>
   have NT:b.aK.jV=ι:=by simpa using hst
   rw[NT,aP rfl];exact⟨W,rfl,h⟩
  ·rw[hst,aO (by simp),show(!θ)=ι from rfl,dD,afs,bS,aAS,bS];obtain⟨W1',Oh,w1,w2,w3,w4⟩:=Zj 0 _ _ (agL b ⟨b.aK.shown,a.time,ι⟩);rw[w1,bS,w2,bS,nQ,bS,no,bS,w3,bS,vD,bS,cO (by decide),dD,bS];exact⟨Oh,rfl,w4⟩
 rw[aO k5,cO k5,dD];by_cases k6:a.kind=6
 ·rw[aP k6,cL k6,dL,nw,bS];by_cases hz:b.cK<0
  ·rw[cL hz,dL,aP hz];exact⟨W,rfl,h⟩
  ·rw[cO hz,dD,aO hz,h.CH,bS,nQ,bS,no,bS,n1,bS];obtain⟨W',q1,q2⟩:=n2.rel hd hs1 (ZC _) ht e1;rw[q1,bS];exact⟨W',rfl,q2⟩
 rw[aO k6,cO k6,dD,cL (show a.kind=7 by omega),dL];obtain⟨W1',Oh,w1,w2,w3,w4⟩:=Zj 7 _ _ (arw b a.level);rw[uu,bS,w1,bS,bS];simp only;rw[w2,bS,nQ,bS,no,bS,w3,bS,vD,bS,cO (by decide),dD,bS];exact⟨Oh,rfl,w4⟩
end
end
end Go.Proofs.YtooknfkholjpbaaGreat
