/- Parts of the proof of StampReachStands, in order. -/
import Derived.WalkSpells
import Derived.ProofKit
import Derived.OpenShut
import Derived.Lib.Hide
import Derived.Lib.SmallJoins
import Derived.Deep.QuietTactic
import Derived.BigQuiet
import Derived.Deep.RegionHeld3
import Derived.Deep.Slices
import Derived.Test.YtmjgmpmhipenjaaGreatKStampReachStands5
namespace Go.Proofs.YtmjgmpmhipenjaaGreat
set_option linter.unusedVariables false
set_option linter.unusedSimpArgs false
set_option linter.unusedSectionVars false
set_option maxRecDepth 1000000
noncomputable section
open A renaming az->Φ,loop->p7,append->Uv,cond->Γ,geq->ZC,deref->χ,quiet->wh,nn->Wo,bQ->UM,bH->Wr,fD->UC,cell->Θ,gtr->Tt,wrap->Ω,eql->Wn,elems->T9,sub->T6,add->Z8,ak->φ,lss->Sq,aN->p5,aF->l7,cells->ψ,ext->TH,bound->Xn,tab->ZG,fin->l6,cU->UZ,storeAt->l8,bW->UT
open List renaming map_map->Zc,range'_succ->aCC,take_add_one->S2,getElem?_set_ne->ZN,replicate->Z5,length_replicate->UU,any_eq_true->Tg,take_append_drop->Wb,range_eq_range'->V3,length_cons->R7,length->VN,all_cons->aCh,nil_append->Tp,find?_some->aCW,map_set->aC3,drop_length->WU,set_cons_zero->aCg,map_append->V8,take_length->Uo,append_nil->TU,drop_eq_getElem_cons->Xo,mem_filter->TR,mem_map_of_mem->Vb,length_append->Ve,getElem_mem->UO,drop_zero->Tq,range'->Tz,flatten_append->aCy,map->V4,getElem_of_mem->Yj,mem_singleton->Un,pairwise_iff_getElem->T4,length_map->Z7,getD_eq_getElem?_getD->aCN,flatMap_cons->Vi,getD->YA
open AV renaming aA->i6,ah->ε,rp->Sf,op->S7,agg->Λ,bool->i7,sl->SQ,aM->XF,int->Z6
open Bool renaming false_eq_true->UP,eq_false_iff->aB0,false_and->Uu,not_true->Xk,not_false->U6,false->ι,true->η,noConfusion->U2
open Nat renaming zero_add->WW,sub_self->Wz,le_trans->X8,le_succ_of_le->Zf,not_lt_zero->aBP
open AX renaming normal->l9,exit->Ψ
open Go.DataW renaming trod_struct->X0
open Option renaming none->ξ,some->δ,getD_some->SG,toList_some->Zh
open aT renaming box->Sd
open Int renaming lt_irrefl->WG,toNat_natCast->Tl
open IntKind renaming i64->θ
open Go.IntKind renaming i64->θ
open Go.World renaming cell?->XV
section
def Qt(b:bk):Int:=if 0<=b.bw then((b.bg[b.bw.toNat]?).map (·.au)).getD 0 else 0
def No(b:bk):Int×Int×Bool:=(Qt b,b.eF,b.aJ.gQ)
def Gb(b:bk):Int×List bl:=(b.au,b.bg)
def ah6(s:ct)(p:iC):Int×List bl:=(p.au,(pH s.bZ p.list).1.bg)
def Rl(b:bk):Prop:=b.aJ.gQ=η->0<=b.bw
structure mJ (s : ct) (bs : List bk) : Prop where
 Zy:bs.map Gb=s.aS.map (ah6 s)
 st:∀b∈bs,Rl b
theorem map_set_same{α β:Type}{f:α->β}{l:List α}{i:Nat}{b b':α}(h:l[i]? =δ b)(e:f b'=f b):(l.set i b').map f=l.map f:=by
 rw[aC3];refine List.ext_getElem? λj=>?_
 rw[jm];split
 ·rename_i q;have hl:=(bD.1 h).1;rw[aO (by simpa [<-q]using hl),qo,<-q,h,cq,e]
 ·rfl
theorem mJ.set{s:ct}{bs:List bk}(h:mJ s bs){i:Nat}{b b':bk}(hb:bs[i]? =δ b)(e:Gb b'=Gb b)(q:Rl b'):mJ s (bs.set i b'):=
 ⟨(map_set_same hb e).trans h.Zy,λx hx=>by
  rcases List.mem_or_eq_of_mem_set hx with k|k
  ·exact h.st x k
  ·rw[k];exact q⟩
theorem asi{u:ct}{d:bB}{t:Int}{s s':dA}(h:xh d t s=δ s')(k:mJ u s.aD):mJ u s'.aD:=by
 unfold xh at h;split at h
 ·cases h
 obtain⟨b,hb,h⟩:=bX.1 h;obtain⟨x,hx,rfl⟩:=eP.1 h;exact k.set hb rfl (λq=>U2 (show ι=η from q))
theorem adn{u:ct}{d:bB}{t:Int}:∀(n:Nat)(s:dA),mJ u s.aD->mJ u (yq d t n s).aD
 |0,s,k=>k
 |n+1,s,k=>by
  unfold yq;cases h:xh d t s with
  |none=>exact k
  |some s'=>exact adn n s' (asi h k)
theorem ael{u:ct}{d:bB}{t:Int}{s:dA}(k:mJ u s.aD):mJ u (jB d s t).aD:=adn _ s k
theorem azi{u:ct}{d:bB}{s:dA}{i:Nat}{b:bk}(k:mJ u s.aD)(hb:s.aD[i]? =δ b)(to t:Int):mJ u (uS d s i b to t).1.aD:=by
 unfold uS;split
 ·exact k
 ·exact k.set hb rfl (λq=>U2 (show ι=η from q))
theorem atQ{u:ct}{d:bB}{s:dA}(k:mJ u s.aD)(a:cW):mJ u (iR d s a).1.aD:=by
 unfold iR;split
 ·exact k
 split
 ·exact k
 split
 ·exact k
 rename_i b hb;unfold Bd;split
 ·split
  ·exact k
  ·exact azi k hb _ _
 split
 ·split
  ·exact k
  ·exact azi k hb _ _
 split
 ·split
  ·exact k
  ·exact azi k hb _ _
 split
 ·split
  ·exact k
  ·rename_i q;exact k.set hb rfl (λ_=>Int.not_lt.1 λz=>q (.inr z))
 split
 ·split
  ·exact k
  ·exact k.set hb rfl (λq=>U2 (show ι=η from q))
 split
 ·split
  ·exact k
  ·exact k.set hb rfl (λq=>U2 (show ι=η from q))
 ·exact k.set hb rfl (k.st b (cE hb))
theorem avc{u:ct}{d:bB}(k:mJ u d.state.aD)(a:cW):mJ u (lB d a).1.state.aD:=by
 unfold lB;split
 ·exact k
 split
 ·exact k
 ·exact atQ (ael k) a
theorem atS{u:ct}{d:bB}(k:mJ u d.state.aD)(l:List cW):mJ u (Bo d l).state.aD:=by
 unfold Bo;induction l generalizing d with
 |nil=>exact k
 |cons a l ih=>rw[List.foldl_cons];exact ih (avc k a)
theorem agi(s:ct):mJ s (jq s).state.aD:=by
 refine⟨?_,λb hb=>?_⟩
 ·show(s.aS.map (mz s)).map Gb=_;rw[Zc];rfl
 ·obtain⟨p,_,rfl⟩:=fL.1 hb;exact λq=>U2 (show ι=η from q)
theorem ary{l:List bl}(h:qi l=0){x:bl}(hx:x∈l):1<=x.au:=by
 unfold qi at h;split at h
 ·cases h
 by_cases h2:iW (xx l) l 0=0;case neg=>rw[aO h2]at h;exact absurd h h2
 obtain⟨i,hi,e⟩:=Yj hx;have hc:=(wM l 0).1 h2 i x (by rw[<-e];exact bU hi);unfold xx at hc;split at hc
 ·cases hc
 ·rename_i q;exact(rq (by simpa using q)).1
theorem apf{s:ct}(h:wV s=0):(s.aS.map (·.au)).Nodup:=by
 have hc:iW (IX s) s.aS 0=0:=by
  unfold wV at h;by_cases h0:tE s.bh s.cG=0;case neg=>rw[aO h0]at h;exact absurd h h0
  by_cases h1:30<(s.bZ.length:Int)
  ·simp [h0,h1]at h
  by_cases h2:iW (DQ s) s.bZ 0=0;case neg=>simp [h0,h1,h2]at h
  by_cases h3:40<(s.aS.length:Int)
  ·simp [h0,h1,h2,h3]at h
  simpa only[h0,h1,h2,h3,not_true_eq_false,if_false]using h
 have step:∀(i:Nat)(x y:iC),s.aS[i]? =δ x->s.aS[i+1]? =δ y->x.au<y.au:=by
  intro i x y hx hy;have h4:=(wM _ _).1 hc (i+1) y hy;rw[WW]at h4;unfold IX at h4;split at h4
  ·cases h4
  split at h4
  ·cases h4
  rename_i q
  have e:pv s.aS (i+1)=x:=by unfold pv;rw[aO (by omega),Nat.add_sub_cancel,aCN,hx];rfl
  rw[e]at q;simp only[je,decide_eq_true_eq,not_and]at q;have:=q (by omega);omega
 have lt:∀(j i:Nat)(x y:iC),i<j->s.aS[i]? =δ x->s.aS[j]? =δ y->x.au<y.au:=by
  intro j;induction j with
  |zero=>intro i x y hij;omega
  |succ j ih=>
   intro i x y hij hx hy;by_cases q:i=j
   ·subst q;exact step i x y hx hy
   ·have hj:=(bD.1 hy).1
    have hz:s.aS[j]? =δ (s.aS[j]'(by omega)):=bU (by omega)
    have h1:=ih i x _ (by omega) hx hz;have h2:=step j _ y hz hy;omega
 rw[List.nodup_iff_pairwise_ne,List.pairwise_map,T4];intro i j hi hj hij;have:=lt j i _ _ hij (bU hi) (bU hj);intro e;omega
theorem aet{α β:Type}{f:α->β}{l:List α}(h:(l.map f).Nodup){i j:Nat}{x y:α}(hx:l[i]? =δ x)(hy:l[j]? =δ y)(e:f x=f y):i=j:=by
 have h1:=bD.1 hx;have h2:=bD.1 hy;rcases Nat.lt_trichotomy i j with q|q|q
 ·have:=(T4.1 h) i j (by rw[Z7];exact h1.1) (by rw[Z7];exact h2.1) q;simp only[List.getElem_map,h1.2,h2.2]at this;exact absurd e this
 ·exact q
 ·have:=(T4.1 h) j i (by rw[Z7];exact h2.1) (by rw[Z7];exact h1.1) q;simp only[List.getElem_map,h1.2,h2.2]at this;exact absurd e.symm this
theorem aqx{α β:Type}{f:α->β}{l:List α}(h:(l.map f).Nodup){x y:α}(hx:x∈l)(hy:y∈l)(e:f x=f y):x=y:=by obtain⟨i,hi⟩:=pK.1 hx;obtain⟨j,hj⟩:=pK.1 hy;have:=aet h hi hj e;subst this;rw[hi]at hj;injection hj
theorem afb{s:ct}(nd:(s.aS.map (·.au)).Nodup){bs:List bk}(k:mJ s bs){b:bk}(hb:b∈bs){p:iC}(hp:p∈s.aS)(e:b.au=p.au):b.bg=(pH s.bZ p.list).1.bg:=by
 have hm:Gb b∈s.aS.map (ah6 s):=by rw[<-k.Zy];exact Vb hb
 obtain⟨p',hp',e'⟩:=fL.1 hm;injection e' with e1 e2
 have:p'=p:=aqx nd hp' hp (e1.trans e);rw[<-this];exact e2.symm
theorem afc{s:ct}{bs:List bk}(k:mJ s bs):bs.map (·.au)=s.aS.map (·.au):=by have:=congrArg (V4 Prod.fst) k.Zy;rw[Zc,Zc]at this;exact this
theorem PZ{s:ct}{bs:List bk}(k:mJ s bs){p:iC}(hp:p∈s.aS):∃(i:Nat)(b:bk),bs[i]? =δ b/\b.au=p.au/\jM (λb:bk=>decide (b.au=p.au)) bs=(i:Int):=by
 rcases wL (λb:bk=>decide (b.au=p.au)) bs with⟨_,q,_⟩|⟨i,b,hb,q,hi,_⟩
 ·have hm:p.au∈bs.map (·.au):=by rw[afc k];exact Vb hp
  obtain⟨b,hb,e⟩:=fL.1 hm;have:=q b hb;simp only[decide_eq_false_iff_not]at this;exact absurd e this
 ·exact⟨i,b,hb,by simpa using q,hi⟩
theorem adM{s:ct}(nd:(s.aS.map (·.au)).Nodup){d:bB}(hK:mI d)(k:mJ s d.state.aD){t:Int}(ht:rX d.bP t=0){p:iC}(hp:p∈s.aS):
  ∃b∈(jB d d.state t).aD,b.au=p.au/\b.bg=(pH s.bZ p.list).1.bg/\uE t b/\Rl b/\eS d p.au t=(RX p.au b t,0):=by
 obtain⟨i,y,hy,hn,hi⟩:=PZ k hp;have kA:=ael (d:=d) (t:=t) k;have hl:=congrArg VN (Fe d d.state t);rw[Z7,Z7]at hl;have hi':=(bD.1 hy).1
 have hx:(jB d d.state t).aD[i]? =δ ((jB d d.state t).aD[i]'(by omega)):=bU _
 have e:mu d p.au t=((jB d d.state t).aD[i]'(by omega),0):=by
  unfold mu Gd;rw[aL (λq=>q ht),hi,aL (by omega),Tl,aCN,hx];rfl
 have h0:(mu d p.au t).2=0:=by rw[e]
 have hB:=afW hK h0;rw[e]at hB
 have aAR:((jB d d.state t).aD[i]'(by omega)).au=p.au:=by
  have:=congrArg (λl=>l[i]?) (Fe d d.state t);simp only[qo,hx,hy,cq]at this;injection this with this
  rw[this,hn]
 refine⟨_,hB.2,aAR,afb nd kA hB.2 hp aAR,hB.1,kA.st _ hB.2,?_⟩;unfold eS;rw[aL (λq=>q h0),e]
structure nS (s : ct) (f : Int -> Int × Int × Bool) (e : bB) : Prop where
 k:mI e
 set:e.setup=s
 ks:mJ s e.state.aD
 tm:∀a∈e.bP,a.time=0
 sO:∀b∈e.state.aD,b.cM<0
 v:∀b∈e.state.aD,No b=f b.au
theorem nS.time{s:ct}{f:Int->Int×Int×Bool}{e:bB}(h:nS s f e):nA e.bP=0:=by
 unfold nA;cases q:e.bP.getLast? with
 |none=>rfl
 |some a=>exact h.tm a (List.mem_of_getLast? q)
theorem aeV{t:Int}:∀{l:List bk}{i:Nat}{st:Int×Int},(∀b∈l,b.cM<0)->rZ t l i st=st
 |[],_,_,_=>rfl
 |b::l,i,st,h=>by
  have hd:gq b=-1:=by unfold gq;rw[aO (.inl (h b (by simp)))]
  have:BU t i b st=st:=by unfold BU;rw[aL (by rw[hd];omega)]
  unfold rZ;rw[this];exact aeV λb hb=>h b (by simp [hb])
theorem aA2{e:bB}{st:dA}{t:Int}(h:∀b∈st.aD,b.cM<0):jB e st t=st:=by
 have hn:xh e t st=ξ:=by unfold xh;rw[aeV h,aO (by decide)]
 unfold jB;generalize zS st.aD=n;cases n with
 |zero=>rfl
 |succ n=>unfold yq;rw[hn]
def Al(f:Int->Int×Int×Bool)(n:Int)(v:Int×Int×Bool):Int->Int×Int×Bool:=λq=>if q=n then v else f q
theorem ag3{e:bB}{a:cW}(hl:e.bP.length<4000)(h1:qQ a=0)(ht:a.time=0)(hT:nA e.bP=0)(h2:sB e.setup a=0){st:dA}(ha:iR e (jB e e.state 0) a=(st,0)):lB e a=({e with state:=st,bP:=e.bP++[a]},0):=by
 have hE:CY e a=0:=by unfold CY;rw[h1,h2,ht,hT];rw[cm (show ¬((e.bP.length:Int)=5000) by omega)];rfl
 unfold lB;rw[aL (λq=>q hE),ht,ha];rfl
theorem nS.step{s:ct}(nd:(s.aS.map (·.au)).Nodup){f:Int->Int×Int×Bool}{e:bB}(h:nS s f e)(hl:e.bP.length<4000){a:cW}(h1:qQ a=0)(ht:a.time=0)(h2:sB s a=0){i:Nat}{b b':bk}{n:Int}(hb:e.state.aD[i]? =δ b)
  (ha:iR e e.state a=({e.state with au:=n,aD:=e.state.aD.set i b'},0)) (kb:Gb b'=Gb b) (sb:Rl b') (fb:b'.cM<0):
  (lB e a).2=0/\nS s (Al f b.au (No b')) (lB e a).1/\(lB e a).1.bP.length=e.bP.length+1:=by
 have hd:=ag3 (e:=e) (a:=a) hl h1 ht h.time (by rw[h.set];exact h2) (by rw[aA2 h.sO];exact ha);have hk:=Ll h.k a;rw[hd]at hk ⊢;have nb:b'.au=b.au:=congrArg Prod.fst kb;refine⟨rfl,⟨hk,h.set,h.ks.set hb kb sb,λx hx=>?_,λx hx=>?_,λx hx=>?_⟩,by simp⟩
 ·rcases jJ.1 hx with q|q
  ·exact h.tm x q
  ·rw[Un.1 q];exact ht
 ·rcases List.mem_or_eq_of_mem_set hx with q|q
  ·exact h.sO x q
  ·rw[q];exact fb
 ·obtain⟨j,hj⟩:=pK.1 hx;have hj:(e.state.aD.set i b')[j]? =δ x:=hj;unfold Al;by_cases q:i=j
  ·subst q;rw[oF (bD.1 hb).1]at hj;injection hj with hj
   rw[<-hj,aO nb]
  ·rw[ZN q]at hj
   have hne:x.au≠b.au:=by
    have hnd:(e.state.aD.map (·.au)).Nodup:=by rw[afc h.ks];exact nd
    intro e';exact q (aet hnd hj hb e').symm
   rw[aL hne];exact h.v x (cE hj)
theorem Ij:∀{l m:List cW}{d e g:bB},vI d l e->vI e m g->vI d (l++m) g
 |[],m,d,e,g,h,h2=>by have h:d=e:=h;subst h;exact h2
 |a::l,m,d,e,g,h,h2=>⟨h.1,Ij h.2 h2⟩
theorem pass{s:ct}{act:iC->List cW}{u v:iC->Int×Int×Bool}
  (hs:∀p∈s.aS,∀e f,nS s f e->f p.au=u p->e.bP.length<4000->∃e',vI e (act p) e'/\nS s (Al f p.au (v p)) e'/\e'.bP.length<=e.bP.length+1):
  ∀(ps:List iC),(∀p∈ps,p∈s.aS)->(ps.map (·.au)).Nodup->∀e f,nS s f e->(∀p∈ps,f p.au=u p)->e.bP.length+ps.length<4000->
   ∃e' f',vI e (ps.flatMap act) e'/\nS s f' e'/\(∀p∈ps,f' p.au=v p)/\(∀q,q∉ps.map (·.au)->f' q=f q)/\e'.bP.length<=e.bP.length+ps.length
 |[],_,_,e,f,hE,_,_=>⟨e,f,rfl,hE,by simp,λ_ _=>rfl,by simp⟩
 |p::ps,hm,hn,e,f,hE,hf,hl=>by
  rw[eo,rB]at hn;rw[R7]at hl;obtain⟨e1,r1,E1,l1⟩:=hs p (hm p (by simp)) e f hE (hf p (by simp)) (by omega)
  obtain⟨e2,f2,r2,E2,v2,o2,l2⟩:=pass hs ps (λq hq=>hm q (by simp [hq])) hn.2 e1 _ E1 (λq hq=>by
   unfold Al;rw[aL (λz=>hn.1 (by rw[<-z];exact Vb hq))]
   exact hf q (by simp [hq])) (by omega)
  refine⟨e2,f2,by rw[Vi];exact Ij r1 r2,E2,λq hq=>?_,λq hq=>?_,by rw[R7];omega⟩
  ·rcases iV.1 hq with rfl|hq
   ·rw[o2 _ hn.1];unfold Al;rw[aO rfl]
   ·exact v2 q hq
  ·rw[eo,iV,not_or]at hq;rw[o2 q hq.2];unfold Al;rw[aL hq.1]
theorem aAC{s:ct}{f:Int->Int×Int×Bool}{e:bB}(h:nS s f e){n:Int}{v:Int×Int×Bool}(q:f n=v):nS s (Al f n v) e:=
 ⟨h.k,h.set,h.ks,h.tm,h.sO,λb hb=>by
  unfold Al;split
  ·rename_i z;rw[<-q,<-z];exact h.v b hb
  ·exact h.v b hb⟩
theorem Wd{s:ct}(hp:s.aS.length<=aZ){a:cW}(h:∃p∈s.aS,p.au=a.gD)(hk:a.kind≠6/\a.kind≠9)(hl:0<=a.level/\a.level<=65535):sB s a=0:=by
 have Xx:(s.aS.any λx=>decide (x.au=a.gD))=η:=by obtain⟨p,hp,e⟩:=h;exact Tg.2 ⟨p,hp,by simpa using e⟩
 have hw:aX a.level 0 65535=η:=by unfold aX;simp [hl.1,hl.2]
 unfold sB BI;rw[qg hp,Xx];rw[show(if(!((decide (a.kind=8))||(decide (a.kind=9))))=η then δ η else δ default:Option Bool)=δ (if(!((decide (a.kind=8))||(decide (a.kind=9))))=η then η else default) by split<;>rfl,aP]
 have e:((!((decide (a.kind=8))||(decide (a.kind=9))))&&!(if(!((decide (a.kind=8))||(decide (a.kind=9))))=η then η else default))=ι:=by cases(decide (a.kind=8))||(decide (a.kind=9))<;>rfl
 rw[e];simp [hk.1,hk.2,hw]
theorem aoP{s:ct}(hO:Cc s)(nd:(s.aS.map (·.au)).Nodup)(hq:DV s=η){p:iC}(hp:p∈s.aS){e:bB}{f:Int->Int×Int×Bool}(h:nS s f e)(hl:e.bP.length<4000){c:Int}(hc:∃x∈(pH s.bZ p.list).1.bg,x.au=c){v:Int×Int×Bool}(hv:v=(c,(f p.au).2.1,ι)):
  ∃e',vI e [⟨0,3,p.au,c,0⟩] e'/\nS s (Al f p.au v) e'/\e'.bP.length<=e.bP.length+1:=by
 obtain⟨i,b,hb,hn,hi⟩:=PZ h.ks hp;have hbc:=afb nd h.ks (cE hb) hp hn
 obtain⟨k,x,hx,RF,hk⟩:∃(k:Nat)(x:bl),b.bg[k]? =δ x/\x.au=c/\jM (λy:bl=>decide (y.au=c)) b.bg=(k:Int):=by
  rcases wL (λy:bl=>decide (y.au=c)) b.bg with⟨_,q,_⟩|⟨k,x,hx,q,hk,_⟩
  ·obtain⟨x,hx,e1⟩:=hc;have:=q x (by rw[hbc];exact hx);simp only[decide_eq_false_iff_not]at this;exact absurd e1 this
  ·exact⟨k,x,hx,by simpa using q,hk⟩
 have hxf:x.cM<0:=apg hq _ (ack (hO.fnd p hp)) x (by rw[<-hbc];exact cE hx)
 have ha:iR e e.state ⟨0,3,p.au,c,0⟩=({e.state with au:=θ.wrap (e.state.au+1),aD:=e.state.aD.set i (lM e {e.state with au:=θ.wrap (e.state.au+1)} b x (k:Int) 0)},0):=by unfold iR;rw[aL (show ¬(3:Int)=8 by decide),aL (show ¬(3:Int)=9 by decide)];simp only[hi,Tl,hb];unfold Bd;rw[aL (show ¬(3:Int)=1 by decide),aL (show ¬(3:Int)=2 by decide),aO rfl];simp only[hk];rw[aL (by omega)];unfold uS;rw[Tl,hx]
 have hfo:(lM e {e.state with au:=θ.wrap (e.state.au+1)} b x (k:Int) 0).cM<0:=by show(if 0<=x.cM/\(k:Int)+1<(b.bg.length:Int)then θ.wrap (dU b.aJ 0+x.cM)else -1)<0;rw[aL (by omega)];decide
 obtain⟨d1,d2,d3⟩:=h.step nd hl (a:=⟨0,3,p.au,c,0⟩) (by unfold qQ zo;simp [aX]) rfl (Wd hO.ok.2.2.2.1 ⟨p,hp,rfl⟩ ⟨by show(3:Int)≠6;decide,by show(3:Int)≠9;decide⟩ ⟨by show(0:Int)<=0;decide,by show(0:Int)<=65535;decide⟩) hb ha rfl (λq=>U2 (show ι=η from q)) hfo;refine⟨_,⟨d1,rfl⟩,?_,by omega⟩
 have e1:No (lM e {e.state with au:=θ.wrap (e.state.au+1)} b x (k:Int) 0)=v:=by
  rw[hv,<-hn,<-h.v b (cE hb)];show((if 0<=(k:Int)then((b.bg[(k:Int).toNat]?).map (·.au)).getD 0 else 0),b.eF,ι)=(c,b.eF,ι)
  rw[aO (by omega),Tl,hx,cq,SG,RF]
 rw[<-e1,<-hn];rw[<-hn]at d2;exact d2
theorem ana{s:ct}(hO:Cc s)(nd:(s.aS.map (·.au)).Nodup){p:iC}(hp:p∈s.aS){e:bB}{f:Int->Int×Int×Bool}(h:nS s f e)(hl:e.bP.length<4000){c:Int}(hc:0<=c/\c<=65535){v:Int×Int×Bool}(hv:v=((f p.au).1,c,(f p.au).2.2)):
  ∃e',vI e [⟨0,7,p.au,0,c⟩] e'/\nS s (Al f p.au v) e'/\e'.bP.length<=e.bP.length+1:=by
 obtain⟨i,b,hb,hn,hi⟩:=PZ h.ks hp
 have ha:iR e e.state ⟨0,7,p.au,0,c⟩=({e.state with au:=θ.wrap (e.state.au+1),aD:=e.state.aD.set i {b with eF:=c}},0):=by unfold iR;rw[aL (show ¬(7:Int)=8 by decide),aL (show ¬(7:Int)=9 by decide)];simp only[hi,Tl,hb];unfold Bd;rw[aL (show ¬(7:Int)=1 by decide),aL (show ¬(7:Int)=2 by decide),aL (show ¬(7:Int)=3 by decide),aL (show ¬(7:Int)=4 by decide),aL (show ¬(7:Int)=5 by decide),aL (show ¬(7:Int)=6 by decide)];rfl
 obtain⟨d1,d2,d3⟩:=h.step nd hl (a:=⟨0,7,p.au,0,c⟩) (by unfold qQ zo;simp [aX]) rfl (Wd hO.ok.2.2.2.1 ⟨p,hp,rfl⟩ ⟨by show(7:Int)≠6;decide,by show(7:Int)≠9;decide⟩ hc) hb ha rfl (h.ks.st b (cE hb)) (h.sO b (cE hb));refine⟨_,⟨d1,rfl⟩,?_,by omega⟩
 have e1:No {b with eF:=c}=v:=by rw[hv,<-hn,<-h.v b (cE hb)];rfl
 rw[<-e1,<-hn];rw[<-hn]at d2;exact d2
theorem anL{s:ct}(hO:Cc s)(nd:(s.aS.map (·.au)).Nodup){p:iC}(hp:p∈s.aS){e:bB}{f:Int->Int×Int×Bool}(h:nS s f e)(hl:e.bP.length<4000)(hc:0<(f p.au).1)(hs:(f p.au).2.2=ι){v:Int×Int×Bool}(hv:v=((f p.au).1,(f p.au).2.1,η)):
  ∃e',vI e [⟨0,4,p.au,0,0⟩] e'/\nS s (Al f p.au v) e'/\e'.bP.length<=e.bP.length+1:=by
 obtain⟨i,b,hb,hn,hi⟩:=PZ h.ks hp;have RE:=h.v b (cE hb);rw[<-hn,<-RE]at hc hs
 have ahD:0<=b.bw:=by
  refine Int.not_lt.1 λq=>?_
  have hc:0<Qt b:=hc;unfold Qt at hc;rw[aL (by omega)]at hc;omega
 have hst:b.aJ.gQ=ι:=hs
 have ha:iR e e.state ⟨0,4,p.au,0,0⟩=({e.state with au:=θ.wrap (e.state.au+1),aD:=e.state.aD.set i {b with aJ:=⟨dU b.aJ 0,0,η⟩}},0):=by unfold iR;rw[aL (show ¬(4:Int)=8 by decide),aL (show ¬(4:Int)=9 by decide)];simp only[hi,Tl,hb];unfold Bd;rw[aL (show ¬(4:Int)=1 by decide),aL (show ¬(4:Int)=2 by decide),aL (show ¬(4:Int)=3 by decide),aO rfl,aL (by rw[hst];simp;omega)];rfl
 obtain⟨d1,d2,d3⟩:=h.step nd hl (a:=⟨0,4,p.au,0,0⟩) (by unfold qQ zo;simp [aX]) rfl (Wd hO.ok.2.2.2.1 ⟨p,hp,rfl⟩ ⟨by show(4:Int)≠6;decide,by show(4:Int)≠9;decide⟩ ⟨by show(0:Int)<=0;decide,by show(0:Int)<=65535;decide⟩) hb ha rfl (λ_=>ahD) (h.sO b (cE hb));refine⟨_,⟨d1,rfl⟩,?_,by omega⟩
 have e1:No {b with aJ:=⟨dU b.aJ 0,0,η⟩}=v:=by rw[hv,<-hn,<-RE];rfl
 rw[<-e1,<-hn];rw[<-hn]at d2;exact d2
theorem aoc{s:ct}{e:bB}{f:Int->Int×Int×Bool}(h:nS s f e)(hl:e.bP.length<4000){a:cW}(hk:a.kind=8\/a.kind=9)(h1:qQ a=0)(ht:a.time=0)(h2:sB s a=0):∃e',vI e [a] e'/\nS s f e'/\e'.bP.length<=e.bP.length+1:=by
 obtain⟨st,ha,hb⟩:∃st,iR e e.state a=(st,0)/\st.aD=e.state.aD:=by
  unfold iR;by_cases q:a.kind=8
  ·rw[aO q];exact⟨_,rfl,rfl⟩
  ·rw[aL q,aO (hk.resolve_left q)];exact⟨_,rfl,rfl⟩
 have hd:=ag3 (e:=e) (a:=a) hl h1 ht h.time (by rw[h.set];exact h2) (by rw[aA2 h.sO];exact ha);have hk:=Ll h.k a;refine⟨(lB e a).1,⟨by rw[hd],rfl⟩,?_⟩;rw[hd]at hk ⊢;refine⟨⟨hk,h.set,by show mJ s st.aD;rw[hb];exact h.ks,λx hx=>?_,by show ∀b∈st.aD,_;rw[hb];exact h.sO,by show ∀b∈st.aD,_;rw[hb];exact h.v⟩,by simp⟩;rcases jJ.1 hx with q|q
 ·exact h.tm x q
 ·rw[Un.1 q];exact ht
def mo (d:bB) (t:Int) (p:iC):List cW:=if 0<(eS d p.au t).1.bw then[⟨0,3,p.au,(eS d p.au t).1.bw,0⟩]else[]
def lR (d:bB) (t:Int) (p:iC):List cW:=if ¬(eS d p.au t).1.eF=65535 then[⟨0,7,p.au,0,(eS d p.au t).1.eF⟩]else[]
def mH (d:bB) (t:Int) (p:iC):List cW:=if(eS d p.au t).1.wU=η then[⟨0,4,p.au,0,0⟩]else[]
theorem auk{s:ct}(hO:Cc s)(nd:(s.aS.map (·.au)).Nodup)(hq:DV s=η){d:bB}(hK:mI d)(k:mJ s d.state.aD){t:Int}(ht:rX d.bP t=0){ga gb:List cW}
  (hga:ga.length<=1/\∀a∈ga,(a.kind=8\/a.kind=9)/\qQ a=0/\a.time=0/\sB s a=0) (xJ:gb.length<=1/\∀a∈gb,(a.kind=8\/a.kind=9)/\qQ a=0/\a.time=0/\sB s a=0):
  ∃e,vI (jq s) (s.aS.flatMap (mo d t)++s.aS.flatMap (lR d t)++s.aS.flatMap (mH d t)++ga++gb) e/\mI e/\∀p∈s.aS,(eS d p.au t).2=0/\(eS e p.au 0).2=0/\(eS d p.au t).1.bw=(eS e p.au 0).1.bw/\(eS d p.au t).1.eF=(eS e p.au 0).1.eF/\(eS d p.au t).1.wU=(eS e p.au 0).1.wU:=by
 have hpl:=hO.pl
 have hst:∀p∈s.aS,(eS d p.au t).2=0/\(0<=(eS d p.au t).1.eF/\(eS d p.au t).1.eF<=65535)/\(((eS d p.au t).1.bw=0/\(eS d p.au t).1.wU=ι)\/(0<(eS d p.au t).1.bw/\∃x∈(pH s.bZ p.list).1.bg,x.au=(eS d p.au t).1.bw)):=by
  intro p hp;obtain⟨b,hb,hn,hc,hB,hS,e⟩:=adM nd hK k ht hp;rw[e];refine⟨rfl,hB.eF,?_⟩;show((if 0<=b.bw then((b.bg[b.bw.toNat]?).map (·.au)).getD 0 else 0)=0/\b.aJ.gQ=ι)\/(0<(if 0<=b.bw then((b.bg[b.bw.toNat]?).map (·.au)).getD 0 else 0)/\∃x∈(pH s.bZ p.list).1.bg,x.au=if 0<=b.bw then((b.bg[b.bw.toNat]?).map (·.au)).getD 0 else 0)
  by_cases q:0<=b.bw
  ·right;have hlt:=hB.bw.2
   have hx:b.bg[b.bw.toNat]? =δ (b.bg[b.bw.toNat]'(by omega)):=bU _
   rw[aO q,hx,cq,SG]
   have hm:b.bg[b.bw.toNat]'(by omega)∈b.bg:=UO _
   have:=ary hB.eD hm;exact⟨by omega,_,by rw[<-hc];exact hm,rfl⟩
  ·left;rw[aL q];refine⟨rfl,?_⟩;cases z:b.aJ.gQ
   ·rfl
   ·exact absurd (hS z) q
 -- the new desk
 have E0:nS s (λ_=>(0,65535,ι)) (jq s):=by
  refine⟨KV hO,rfl,agi s,λa ha=>by simp [jq]at ha,λb hb=>?_,λb hb=>?_⟩;all_goals obtain⟨p,_,rfl⟩:=fL.1 hb
  ·show(-1:Int)<0;decide
  ·rfl
 have hm:∀p∈s.aS,p∈s.aS:=λ_ h=>h
 have hl0:(jq s).bP.length=0:=rfl
 obtain⟨e1,f1,r1,E1,v1,_,l1⟩:=pass (s:=s) (act:=mo d t) (u:=λ_=>(0,65535,ι)) (v:=λp=>((eS d p.au t).1.bw,65535,ι)) (λp hp e f hE hf hl=>by
  obtain⟨_,_,hc⟩:=hst p hp;unfold mo;rcases hc with⟨c0,_⟩|⟨c0,c1⟩
  ·rw[aL (by omega)];exact⟨e,rfl,aAC hE (by rw[hf,c0]),by omega⟩
  ·rw[aO c0]
   exact aoP hO nd hq hp hE hl c1 (by rw[hf])) s.aS hm nd (jq s) _ E0 (λ_ _=>rfl) (by omega)
 obtain⟨e2,f2,r2,E2,v2,_,l2⟩:=pass (s:=s) (act:=lR d t) (u:=λp=>((eS d p.au t).1.bw,65535,ι)) (v:=λp=>((eS d p.au t).1.bw,(eS d p.au t).1.eF,ι)) (λp hp e f hE hf hl=>by
  obtain⟨_,hc,_⟩:=hst p hp;unfold lR;by_cases q:(eS d p.au t).1.eF=65535
  ·rw[aL (λz=>z q)];exact⟨e,rfl,aAC hE (by rw[hf,q]),by omega⟩
  ·rw[aO q]
   exact ana hO nd hp hE hl hc (by rw[hf])) s.aS hm nd e1 _ E1 v1 (by omega)
 obtain⟨e3,f3,r3,E3,v3,_,l3⟩:=pass (s:=s) (act:=mH d t) (u:=λp=>((eS d p.au t).1.bw,(eS d p.au t).1.eF,ι)) (v:=λp=>((eS d p.au t).1.bw,(eS d p.au t).1.eF,(eS d p.au t).1.wU)) (λp hp e f hE hf hl=>by
  obtain⟨_,_,hc⟩:=hst p hp;unfold mH;by_cases q:(eS d p.au t).1.wU=η
  ·rw[aO q]
   have pS:0<(eS d p.au t).1.bw:=by
    rcases hc with⟨_,c1⟩|⟨c0,_⟩
    ·rw[c1]at q;cases q
    ·exact c0
   exact anL hO nd hp hE hl (by rw[hf];exact pS) (by rw[hf]) (by rw[hf,q])
  ·rw[aL q]
   exact⟨e,rfl,aAC hE (by rw[hf,aB0.2 q]),by omega⟩) s.aS hm nd e2 _ E2 v2 (by omega)
 have one:∀(g:List cW)(e:bB),g.length<=1->(∀a∈g,(a.kind=8\/a.kind=9)/\qQ a=0/\a.time=0/\sB s a=0)->nS s f3 e->e.bP.length<4000->∃e',vI e g e'/\nS s f3 e'/\e'.bP.length<=e.bP.length+1:=by
  intro g e hg hgm hE hl
  match g,hg with
  |[],_=>exact⟨e,rfl,hE,by omega⟩
  |[a],_=>obtain⟨q1,q2,q3,q4⟩:=hgm a (by simp);exact aoc hE hl q1 q2 q3 q4
 obtain⟨e4,r4,E4,l4⟩:=one ga e3 hga.1 hga.2 E3 (by omega);obtain⟨e5,r5,E5,l5⟩:=one gb e4 xJ.1 xJ.2 E4 (by omega);refine⟨e5,Ij (Ij (Ij (Ij r1 r2) r3) r4) r5,E5.k,λp hp=>?_⟩;have ht0:rX e5.bP 0=0:=by unfold rX;rw[E5.time];rfl
 obtain⟨b,hb,hn,hc,hB,hS,e⟩:=adM nd E5.k E5.ks ht0 hp;rw[aA2 E5.sO]at hb;have hv:=E5.v b hb;rw[hn,v3 p hp]at hv;have q1:Qt b=(eS d p.au t).1.bw:=congrArg Prod.fst hv;have q2:b.eF=(eS d p.au t).1.eF:=congrArg (λx=>x.2.1) hv;have q3:b.aJ.gQ=(eS d p.au t).1.wU:=congrArg (λx=>x.2.2) hv;rw[e];exact⟨(hst p hp).1,rfl,q1.symm,q2.symm,q3.symm⟩
end
theorem aiv(dyn:Nat->an->Heap->aC)(l:List cV)(hl:l.length<=aZ)(n:Nat)(caps:an)(p:cV->Bool)(σ:Heap)(hd:∀x∈l,dyn n ((.agg (dW x):AV)::caps) σ=δ (.bool (p x),σ)):NU dyn [sl 6 dW l,.fn n caps] σ=δ (.ah (jM p l),σ):=by
 refine wrap_eq rfl ?_ rfl;show NV dyn (sl 6 dW l) (.fn n caps) σ=_;unfold NV;simp only[aW,reduceCtorEq]
 refine(qP (S:=Unit) (R:=Int) l (λpre x _=>if p x=η then .out (pre.length:Int)else .go ())
  (λpre _=>[.ah 0,.ah (pre.length:Int)]) (λ_ _=>σ) (λ_=>(.exit 0,[.ah 0,.ah (l.length:Int)],σ)) (λpre _ r=>(.ret,[.ah (pre.length:Int),.ah (pre.length:Int)],σ))
  (λ_ _=>True) () (λ_=>δ (ε (-1),σ)) (λr=>δ (ε r,σ)) ?_ ?_ trivial (λ_ _ _ _ _ _ _ _=>trivial) ?_ ?_).trans ?_
 ·intro pre x rest u hl' _;have hx:=qT hl';have hlt:=tK hl';have hi1:θ.wrap ((pre.length:Int)+1)=(pre.length:Int)+1:=cO (by unfold aU;unfold aZ at hl;omega);have hlt':(pre.length:Int)<(l.length:Int):=by omega
  have kI:=mR 6 dW l hx;have oT:=hd x (by rw[hl'];simp);simp only[aW,reduceCtorEq,amh,ami,amj,amk,aml,amm,aj9,apa,aor,U5,hlt',kI,A.jC,mq,Tp,oT,hi1];cases p x<;>simp [aW,reduceCtorEq]
 ·intro u _;simp only[aW,reduceCtorEq,WG]
 ·intro u _;simp only[aW,reduceCtorEq]
 ·intro pre x rest s q hl' _ hb
  have:q=(pre.length:Int):=by
   cases hpx:p x
   ·rw[hpx]at hb;cases hb
   ·rw[hpx]at hb;simp at hb;exact hb.symm
  simp only[aW,reduceCtorEq,this]
 ·rw[DA p _ _ l [] (by simp)];simp only[Tp];split
  ·rename_i h;rw[h]
  ·rfl
theorem aio(dyn:Nat->an->Heap->aC)(l:List cV)(hl:l.length<=aZ)(n:Nat)(caps:an)(p:cV->Bool)(σ:Heap)(hd:∀x∈l,dyn n ((.agg (dW x):AV)::caps) σ=δ (.bool (p x),σ)):JT dyn [sl 6 dW l,.fn n caps] σ=δ (.bool (l.any p),σ):=by refine wrap_eq rfl ?_ rfl;show NN dyn (sl 6 dW l) (.fn n caps) σ=_;unfold NN;simp only[aW,reduceCtorEq,aiv dyn l hl n caps p σ hd];refine congrArg δ (congrArg (λb=>(i7 b,σ)) ?_);exact Vm p l
section
open HP
def Re (r a:Int) (x:cV):Int:=θ.wrap (0+Cy r (θ.wrap (x.ep-a)))
def zY (r a:Int) (x:cV):cW:={x.action with time:=Re r a x}
def QD (r a:Int) (x:cV):Bool:=!(aX (Re r a x) 0 36000000)
def qu (s:ct) (r:Int) (l:List cV) (a b:Int):Int:=
 if ¬((jY s r l a b).2=0)then(jY s r l a b).2 else if(jY s r l a b).1.any (QD r a)=η then 1 else 0
def runK (s:ct) (r:Int) (l:List cV) (a b:Int):bB:=Bo (jq s) ((jY s r l a b).1.map (zY r a))
theorem azP{s:ct}{r:Int}{l:List cV}{a b:Int}(h:(jY s r l a b).2=0):WN s r l/\0<=a/\a<=b/\b<=oI r/\jY s r l a b=(Yd a b l,0):=by
 unfold jY at h ⊢;by_cases h0:DC s r l=0;case neg=>rw[aO h0]at h;exact absurd h h0
 rw[aL (λq=>q h0)]at h ⊢;by_cases h1:0<=a/\a<=b/\b<=oI r
 ·rw[aO h1];exact⟨ahB h0,h1.1,h1.2.1,h1.2.2,rfl⟩
 ·rw[aL h1]at h;cases h
theorem Wk{ro:Bool}{eX:List Sh}{r:AV->AV->AV->AV->AV->Heap->aC}{x y z w u v v':AV}{fE:Sh}{σ σ':Heap}(h:[x,y,z,w,u].any A.own=ι)(e1:UZ eX [x,y,z,w,u]=[x,y,z,w,u])(hv:Wo fE v=v')(e:r x y z w u σ=δ (v,σ')):Ω ro eX fE (A.wj r) [x,y,z,w,u] σ=δ (v',σ'):=by refine wrap_eq h ?_ hv;rw[e1];exact e
theorem agF{ro:Bool}{eX:List Sh}{r:AV->AV->AV->AV->AV->AV->Heap->aC}{x y z w u t v v':AV}{fE:Sh}{σ σ':Heap}(h:[x,y,z,w,u,t].any A.own=ι)(e1:UZ eX [x,y,z,w,u,t]=[x,y,z,w,u,t])(hv:Wo fE v=v')(e:r x y z w u t σ=δ (v,σ')):Ω ro eX fE (A.Br r) [x,y,z,w,u,t] σ=δ (v',σ'):=by refine wrap_eq h ?_ hv;rw[e1];exact e
theorem arT{σ:Heap}{id:Nat}{cs:an}(h:σ[id]? =δ (.box cs))(hc:iY cs)(d:Nat):Wr σ 0 (d+1) (.op id 0)=δ (.rp cs):=by simp only[Wr,h,aBP,if_false,Tq,Fw,hc σ 0 d,cq]
abbrev WD : Nat -> an -> Heap -> aC := ZG (fun _ _ => ξ) [(501, wJ)]
abbrev WE : Nat -> an -> Heap -> aC := ZG (fun _ _ => ξ) [(501, wJ), (503, E6 WD)]
theorem auN{r:Int}(hm:vN r=0)(a:Int)(x:cV)(σ:Heap):E6 WD [.agg (dW x),.rp [.fn 501 []],.rp [.int θ 0],.rp [.int θ r],.rp [.int θ a]] σ=δ (.bool (QD r a x),σ):=by refine Wk rfl rfl (iI _) ?_;unfold S6;rw[show ψ 6 (.agg (dW x))=δ (dW x)from rfl,bS,show((χ (.rp [.fn 501 []]) σ).bind λc=>φ 0 c)=δ (.fn 501 [])from rfl,bS,show((χ (.rp [.int θ 0]) σ).bind λc=>φ 0 c)=δ (.int θ 0)from rfl,bS,show((χ (.rp [.int θ r]) σ).bind λc=>φ 0 c)=δ (.int θ r)from rfl,bS,show φ 0 (dW x)=δ (.int θ x.ep)from rfl,bS,show((χ (.rp [.int θ a]) σ).bind λc=>φ 0 c)=δ (.int θ a)from rfl,bS,mV,bS,dL (On (QG hm _)),bS,lU,bS];rw[show A.jC WD (.fn 501 []) [.int θ (θ.wrap (0+Cy r (θ.wrap (x.ep-a))))] σ=wJ [.int θ (Re r a x)] σ from rfl,dL (aaL (r:=aX (Re r a x) 0 36000000) rfl),bS,vX,bS];exact bL _ _
section
variable {aH σ : Heap} {R : HP}
theorem aud(x:cV):Φ 0 (dW x) [fB,fB,fB,fB,fB,fB]=δ (dW x):=rfl
theorem arK{r a:Int}(hm:vN r=0){pd:AV}{l:List cV}(hl:l.length<=aZ){d:bB}(hK:mI d)(H:Hs bN aH σ (iU pd d*R)):∃W,p7 (λDg sU=>
       (Sq (aj Dg 0) (Z6 θ (l.length:Int))).bind λeY=>
       Γ eY (
        (UM 6 (sl 6 dW l) (aj Dg 0)).bind λx38=>
        ((χ x38 sU).bind λmY=>l7 0 6 mY).bind λfH=>
        (ψ 6 fH).bind λuM=>
        (Φ 0 uM [fB,fB,fB,fB,fB,fB]).bind λkO=>
        ((χ (.rp [.int θ 0]) sU).bind λsG=>φ 0 sG).bind λjx=>
        ((χ (.rp [.int θ r]) sU).bind λuN=>φ 0 uN).bind λjG=>
        (φ 0 kO).bind λjP=>
        ((χ (.rp [.int θ a]) sU).bind λsH=>φ 0 sH).bind λgB=>
        (T6 jP gB).bind λnM=>
        (wh (BK [jG,nM] sU) sU).bind λiT=>
        (Z8 jx iT).bind λfS=>
        ((Θ fS).bind λv=>δ [v]).bind λuP=>
        (Φ 1 uP kO).bind λrE=>
        (l7 1 5 rE).bind λlD=>
        (E8 [pd,lD] sU).bind λEL=>
        (Z8 (aj Dg 0) (Z6 θ 1)).bind λmE=>
        δ (l9,[mE],EL.2)) (
        δ (Ψ 0,[(aj Dg 0)],sU))) [fB] σ=δ (.exit 0,[.int θ (l.length:Int)],W)/\Hs bN aH W (iU pd (Bo d (l.map (zY r a)))*R):=by
 suffices h:∃q,p7 _ [fB] σ=δ q/\∃W,q=(.exit 0,[.int θ (l.length:Int)],W)/\Hs bN aH W (iU pd (Bo d (l.map (zY r a)))*R) by obtain⟨q,e,W,rfl,K⟩:=h;exact⟨W,e,K⟩
 refine nO (λz v w=>∃(i:Nat)(e:bB),i<=l.length/\v=[.int θ (i:Int)]/\z=l.length-i/\Bo e ((l.drop i).map (zY r a))=Bo d (l.map (zY r a))/\mI e/\Hs bN aH w (iU pd e*R)) ?_ (n:=l.length) ⟨0,d,kD _,rfl,rfl,rfl,hK,H⟩;rintro z v w ⟨i,e,hi,rfl,hz,hT,JC,K⟩;by_cases h:i<l.length
 ·obtain⟨x,dB⟩:∃x,x=l[i]:=⟨_,rfl⟩
  have hx:l[i]? =δ x:=by rw[dB];exact bU h
  rw[Xo h,<-dB,eo]at hT;obtain⟨w',d1,d2⟩:=ahs JC (zY r a x) K;refine .inl ⟨l.length-(i+1),_,w',by omega,?_,i+1,(lB e (zY r a x)).1,h,rfl,rfl,hT,Ll JC _,d2⟩;simp only[bM,cg];rw[gZ hx,bS,cK,gy hx,bS,show((χ (.rp (dW x)) w).bind λc=>l7 0 6 c)=δ (.agg (dW x))from rfl,bS,show ψ 6 (.agg (dW x))=δ (dW x)from rfl,bS,aud,bS,show((χ (.rp [.int θ 0]) w).bind λc=>φ 0 c)=δ (.int θ 0)from rfl,bS,show((χ (.rp [.int θ r]) w).bind λc=>φ 0 c)=δ (.int θ r)from rfl,bS,show φ 0 (dW x)=δ (.int θ x.ep)from rfl,bS,show((χ (.rp [.int θ a]) w).bind λc=>φ 0 c)=δ (.int θ a)from rfl,bS,mV,bS,dL (On (QG hm _)),bS,lU,bS,qX,bS,show Φ 1 [Z6 θ (θ.wrap (0+Cy r (θ.wrap (x.ep-a))))] (dW x)=δ (dW {x with action:=zY r a x})from rfl,bS,show l7 1 5 (dW {x with action:=zY r a x})=δ (.agg (bz (zY r a x)))from rfl,bS,d1,bS,fK hx hl,bS]
 ·have:i=l.length:=by omega
  subst this;rw[WU]at hT;have hT:e=Bo d (l.map (zY r a)):=hT;rw[hT]at K;refine .inr ⟨(.exit 0,[.int θ (l.length:Int)],w),?_,by simp,w,rfl,K⟩;simp only[bM,cg];rw[iu,bS,cD]
theorem agN{s:ct}(hs:rQ s){l:List cV}(hl:fI DI l)(r a b:Int)(H:Hs bN aH σ R):
  (¬(qu s r l a b=0)/\∃σ',Kz [.agg (bu s),.int θ r,sl 6 dW l,.int θ a,.int θ b,.int θ 0] σ=δ (.aM [.np,.int θ (qu s r l a b)],σ')/\Hs bN aH σ' R)\/
  (qu s r l a b=0/\∃id σ',Kz [.agg (bu s),.int θ r,sl 6 dW l,.int θ a,.int θ b,.int θ 0] σ=δ (.aM [.op id 0,.int θ 0],σ')/\Hs bN aH σ' (iU (.op id 0) (runK s r l a b)*R)):=by
 suffices hh:(¬(qu s r l a b=0)/\∃σ',KD (.agg (bu s)) (.int θ r) (sl 6 dW l) (.int θ a) (.int θ b) (.int θ 0) σ=δ (.aM [.np,.int θ (qu s r l a b)],σ')/\Hs bN aH σ' R)\/
  (qu s r l a b=0/\∃id σ',KD (.agg (bu s)) (.int θ r) (sl 6 dW l) (.int θ a) (.int θ b) (.int θ 0) σ=δ (.aM [.op id 0,.int θ 0],σ')/\Hs bN aH σ' (iU (.op id 0) (runK s r l a b)*R)) by
  rcases hh with⟨h,σ',e,K⟩|⟨h,id,σ',e,K⟩
  ·exact .inl ⟨h,σ',agF rfl rfl (iI _) e,K⟩
  ·exact .inr ⟨h,id,σ',agF rfl rfl (iI _) e,K⟩
 unfold KD;rw[show ψ 5 (.agg (bu s))=δ (bu s)from rfl,bS,show(((Θ (Z6 θ r)).bind λv=>δ [v]).bind λcs=>δ (Sf cs))=δ (.rp [.int θ r])from rfl,bS,show(((Θ (Z6 θ a)).bind λv=>δ [v]).bind λcs=>δ (Sf cs))=δ (.rp [.int θ a])from rfl,bS,show(((Θ fB).bind λv=>δ [v]).bind λcs=>δ (Sf cs))=δ (.rp [.int θ 0])from rfl,bS,show l7 0 5 (bu s)=δ (.agg (bu s))from rfl,bS,show((χ (.rp [.int θ r]) σ).bind λc=>φ 0 c)=δ (.int θ r)from rfl,bS,show((χ (.rp [.int θ a]) σ).bind λc=>φ 0 c)=δ (.int θ a)from rfl,bS,abL (ag4 s hs r l hl.1 a b),bS];simp only;rw[jZ,bS,ext1,bS,fN,bS];by_cases h0:(jY s r l a b).2=0
 case neg=>
  left;have e:qu s r l a b=(jY s r l a b).2:=by unfold qu;rw[aO h0]
  rw[e,cB h0,cK];exact⟨h0,σ,rfl,H⟩
 obtain⟨hE,a0,a1,a2,hd⟩:=azP h0
 have me:(jY s r l a b).1.length<=2000:=by rw[hd];exact X8 (List.length_filter_le _ _) hE.len
 rw[cm (λq=>q h0),cD];obtain⟨ex,hex⟩:∃ex,ex=[Sd [AV.fn 501 []]]:=⟨_,rfl⟩
 obtain⟨n,hn⟩:∃n,n=σ.length:=⟨_,rfl⟩
 rw[show((Θ (AV.fn 501 [])).bind λv=>δ [v])=δ [AV.fn 501 []]from rfl,bS,show l8 (S7 σ.length 0) [AV.fn 501 []] (σ++[Sd [AV.ze]])=δ (σ++ex)from by rw[hex];simp [l8,Φ],bS];have hg:(σ++ex)[n]? =δ (.box [AV.fn 501 []]):=by rw[hex,hn];simp
 have K:Hs bN aH (σ++ex) R:=PY H ex;rw[<-hn];rw[show((χ (.op n 0) (σ++ex)).bind λc=>φ 0 c)=δ (.fn 501 [])from by simp only[χ,hg];rfl,bS];generalize σ++ex=W at K hg ⊢;rw[show((χ (.rp [.int θ 0]) W).bind λc=>φ 0 c)=δ (.int θ 0)from rfl,bS];rw[show A.jC WE (.fn 501 []) [.int θ 0] W=δ (.bool η,W)from aaL (r:=η) rfl,bS];simp only;rw[ah9,bS]
 have hcf:JT WE [sl 6 dW (jY s r l a b).1,.fn 503 [.op n 0,.rp [.int θ 0],.rp [.int θ r],.rp [.int θ a]]] W=δ (.bool ((jY s r l a b).1.any (QD r a)),W):=
  aio WE _ (by unfold aZ;omega) _ _ _ W λx _=>
   Bk (dR:=[.agg (dW x),.op n 0,.rp [.int θ 0],.rp [.int θ r],.rp [.int θ a]]) (ts:=[.agg (dW x),.rp [.fn 501 []],.rp [.int θ 0],.rp [.int θ r],.rp [.int θ a]]) ⟨D4 (vF (adg x)) rfl,⟨⟨.rp [.fn 501 []],arT hg (bO (aA8 lg) lg) 7,rfl,rfl⟩,rfl,λh=>by cases h⟩,D4 (LD (bO (cN _ _) lg)) rfl,D4 (LD (bO (cN _ _) lg)) rfl,D4 (LD (bO (cN _ _) lg)) rfl,trivial⟩ (λσ=>auN hE.mode a x σ) rfl
 simp only[gF,bS,dL hcf,nI];by_cases h1:(jY s r l a b).1.any (QD r a)=η
 ·left;have e:qu s r l a b=1:=by unfold qu;rw[aL (λq=>q h0),aO h1]
  rw[e,h1,cK];exact⟨by decide,W,rfl,K⟩
 right;have e:qu s r l a b=0:=by unfold qu;rw[aL (λq=>q h0),aL h1]
 refine⟨e,?_⟩;rw[aB0.2 h1,cD,fJ,bS,Cm,bS,cm (by omega),cD];obtain⟨id,W1,n1,K1⟩:=agK hs hE.set K;rw[n1,bS];simp only;rw[jZ,bS,ext1,bS,fN,bS,cm (λq=>q rfl),cD,bS];obtain⟨W2,l1,K2⟩:=arK (r:=r) (a:=a) hE.mode (l:=(jY s r l a b).1) (by unfold aZ;omega) (KV (LH hs hE.set)) K1;refine F7 (g:=λid σ'=>(XF [.op id 0,.int θ 0],σ')) l1 ?_;simp only[mB];exact⟨id,W2,rfl,K2⟩
end
end
section
open HP
theorem ar0(σ:Heap):EW [.aA,.int θ 0] σ=δ (.aA,σ):=by unfold EW Ω;rw[Uu,bK];show(EX .aA (.int θ 0) σ).map _=_;rw[show EX .aA (.int θ 0) σ=δ (.aA,σ)from rfl];simp [Wo]
def yR:an:=[fB,fB,fB,fB,fB]
theorem ar8{n:Nat}(h0:0<n)(h1:n<=3000000000000)(σ:Heap):EW [.aA,.int θ (n:Int)] σ=δ (.os σ.length n 5 0 0,σ++[.arr n 5 (Z5 n yR)]):=by
 unfold EW Ω;rw[Uu,bK];show(EX .aA (.int θ (n:Int)) σ).map _=_
 have run:EX .aA (.int θ (n:Int)) σ=δ (.os σ.length n 5 0 0,σ++[.arr n 5 (Z5 n yR)]):=by
  unfold EX;have hc:∀{k:AV->aC}{u:aC},A.Bg (A.F5 .aA) k u=k (.int θ 0):=rfl;have ud:∀{k:AV->Option (an×Heap)}{u:Option (an×Heap)},A.Bg (A.F5 .aA) k u=k (.int θ 0):=rfl;have e1:Sq (.int θ (n:Int)) (.int θ 0)=δ (.bool ι):=by rw[lp,cm (by omega)]
  have e2:T6 (.int θ (n:Int)) (.int θ 0)=δ (.int θ (n:Int)):=by rw[mV,Int.sub_zero,cO (by unfold aU;omega)]
  have e3:Tt (.int θ (n:Int)) (.int θ 0)=δ (.bool η):=by simp [Tt];omega
  rw[e1,aP,cD,aP,hc,show UT .aA=δ (.int θ 0)from rfl,aP,show T6 (.int θ 0) (.int θ 0)=δ (.int θ 0)from rfl,aP,e2,aP,e3,aP,cK,ud];have e4:A.qd 5 .aA ξ (δ (.int θ 0)) σ=δ .aA:=by simp [A.qd,Xn]
  have e5:A.zK 5 (140737488355328 / 40) yR .aA (.int θ (n:Int)) σ=δ (.os σ.length n 5 0 n,σ++[.arr n 5 (Z5 n yR)]):=by
   have q:(0:Int)<=(n:Int)/\(n:Int)<=((140737488355328 / 40:Nat):Int):=by omega
   simp only[A.zK,aO q,A.pe,Tl,UU];rw[aL (by intro h;have:=congrArg VN h;simp at this;omega),aO (by omega)]
  have e6:(σ++[aT.arr n 5 (Z5 n yR)])[σ.length]? =δ (.arr n 5 (Z5 n yR)):=by simp
  simp only;rw[e4,aP,show[fB,fB,fB,fB,fB]=yR from rfl,e5,aP,aP,show(.int θ 0:AV)=.int θ ((0:Nat):Int)from rfl,slo (aqK e6 (by simp)) (auC (k:=0) (by omega)) auB,aP];rfl
 rw[run];simp [Wo]
abbrev Ca:=AV×List an
def az4(σ:Heap)(p:Ca):Prop:=UT p.1=δ (.int θ (p.2.length:Int))/\(∀ex,T9 5 p.1 (σ++ex)=δ p.2)/\Θ p.1=δ p.1
def ag1(p:Ca):an:=[p.1]
theorem V0{σ:Heap}{p:Ca}(h:az4 σ p):φ 0 (ag1 p)=δ p.1:=h.2.2
abbrev rF(L:List Ca):List an:=(L.map (·.2)).flatten
def mK(L:List Ca):Nat:=(rF L).length
theorem U9{L:List Ca}{i:Nat}{x:Ca}(h:L[i]? =δ x):rF (L.take (i+1))=rF (L.take i)++x.2:=by rw[S2,h];simp [rF]
theorem afH{L:List Ca}(i:Nat):mK (L.take i)<=mK L:=by
 have:L=L.take i++L.drop i:=(Wb _ _).symm;unfold mK;conv=>rhs;rw[this]
 simp only[rF,V8,aCy,Ve];omega
theorem aot{L:List Ca}(σ:Heap)(hr:∀p∈L,az4 σ p)(hl:L.length<=aZ)(h:mK L<=3000000000000):∃b:AV×Heap,N0 (sl 1 ag1 L) σ=δ b/\((b.1=.aA/\b.2=σ/\rF L=[])\/(b.1=.os σ.length (mK L) 5 0 (mK L)/\b.2=σ++[.arr (mK L) 5 (rF L)])):=by
 unfold N0;rw[fJ,aP];refine yw (Q:=λq=>∃w,q=(.exit 0,[.int θ (mK L:Int),w],σ)) (IC L (λi v s=>v=[.int θ (mK (L.take i):Int),.int θ (i:Int)]/\s=σ) ?_ ?_ ⟨rfl,rfl⟩) ?_
 ·rintro i x v s hx ⟨rfl,rfl⟩;have hle:=afH (L:=L) (i+1);have hs:mK (L.take (i+1))=mK (L.take i)+x.2.length:=by unfold mK;rw[U9 hx,Ve]
  simp only[bM,cg];rw[gZ hx,aP,cK,gy hx,aP];simp only[χ,aP];rw[V0 (hr x (cE hx)),aP,(hr x (cE hx)).1,aP,Rc (by omega),aP];rw[show Sq (.int θ ((mK (L.take i)+x.2.length:Nat):Int)) (.int θ 0)=δ (.bool ι) by rw[lp,cm (by omega)],aP,cD,aP,fK hx hl,aP];exact⟨_,_,rfl,by rw[hs],rfl⟩
 ·rintro v s ⟨rfl,rfl⟩;simp only[bM,cg];rw[iu,aP,cD];refine⟨_,rfl,by simp,.int θ (L.length:Int),?_⟩;rw[Uo]
 ·rintro q ⟨w,rfl⟩;simp only[Rn,bM];by_cases h0:mK L=0
  ·have Cx:(rF L)=[]:=vQ h0;rw[h0,show(((0:Nat):Int))=0 from rfl,ar0,aP,aP];refine yw (Q:=λq=>∃w,q=(.exit 2,[.aA,w],σ)) (IC L (λi v s=>v=[.aA,.int θ (i:Int)]/\s=σ) ?_ ?_ ⟨rfl,rfl⟩) ?_
   ·rintro i x v s hx ⟨rfl,rfl⟩;have RF:x.2=[]:=List.flatten_eq_nil_iff.1 Cx x.2 (fL.2 ⟨x,cE hx,rfl⟩);have M3:=hr x (cE hx);have M1:T9 5 x.1 s=δ x.2:=by have:=M3.2.1 [];rwa[TU]at this
    simp only[bM,cg];rw[gZ hx,aP,cK,gy hx,aP];simp only[χ,aP];rw[V0 M3,aP,show Uv 5 (140737488355328 / 40) .aA x.1 s=δ (.aA,s) by simp [Uv,M1,RF,A.pe],aP,fK hx hl,aP];exact⟨_,_,rfl,rfl,rfl⟩
   ·rintro v s ⟨rfl,rfl⟩;simp only[bM,cg];rw[iu,aP,cD];exact⟨_,rfl,by simp,_,rfl⟩
   ·rintro q ⟨w,rfl⟩;exact⟨_,rfl,.inl ⟨rfl,rfl,Cx⟩⟩
  ·have hpos:0<mK L:=by omega
   rw[ar8 hpos (by omega),aP,aP];obtain⟨n,hn⟩:∃n,n=mK L:=⟨_,rfl⟩
   rw[<-hn]at hpos h ⊢;refine yw (Q:=λq=>∃w,q=(.exit 2,[.os σ.length n 5 0 n,w],σ++[.arr n 5 (rF L)])) (IC L (λi v s=>v=[.os σ.length n 5 0 (mK (L.take i)),.int θ (i:Int)]/\s=σ++[.arr n 5 ((rF (L.take i))++Z5 (n-mK (L.take i)) yR)]) ?_ ?_ ⟨rfl,by simp [mK]⟩) ?_
   ·rintro i x v s hx ⟨rfl,rfl⟩;have hle:=afH (L:=L) (i+1);have hs:mK (L.take (i+1))=mK (L.take i)+x.2.length:=by unfold mK;rw[U9 hx,Ve]
    obtain⟨k,hk⟩:∃k,k=mK (L.take i):=⟨_,rfl⟩
    have hfl:(rF (L.take i)).length=k:=hk.symm;simp only[bM,cg];rw[gZ hx,aP,cK,gy hx,aP];simp only[χ,aP];have M3:=hr x (cE hx);rw[V0 M3,aP];rw[hs,U9 hx,<-hk];have hg:(σ++[aT.arr n 5 ((rF (L.take i))++Z5 (n-k) yR)])[σ.length]? =δ (.arr n 5 ((rF (L.take i))++Z5 (n-k) yR)):=by simp
    have awG:Uv 5 (140737488355328 / 40) (.os σ.length n 5 0 k) x.1 (σ++[.arr n 5 ((rF (L.take i))++Z5 (n-k) yR)])=δ (.os σ.length n 5 0 (k+x.2.length),σ++[.arr n 5 ((rF (L.take i))++x.2++Z5 (n-(k+x.2.length)) yR)]):=by
     simp only[Uv,M3.2.1,if_true,aP,A.pe,hg];rw[aO (by simp [hfl];omega)];by_cases hx0:x.2=[]
     ·rw[hx0];simp
     ·rw[aL hx0,aO (by simp [hfl];omega)];congr 2;rw[pJ _ _ (bF _),Wz];simp only[aCg,WW];congr 3;rw[List.take_append_of_le_length (by omega),vR (by omega)];congr 1;rw[List.drop_append,List.drop_of_length_le (by omega),Tp,hfl,List.drop_replicate];congr 1;omega
    rw[awG,aP,fK hx hl,aP];exact⟨_,_,rfl,rfl,rfl⟩
   ·rintro v s ⟨rfl,rfl⟩;simp only[bM,cg];rw[iu,aP,cD];refine⟨_,rfl,by simp,.int θ (L.length:Int),?_⟩;rw[Uo,<-hn];simp
   ·rintro q ⟨w,rfl⟩;refine⟨(.os σ.length n 5 0 n,σ++[.arr n 5 (rF L)]),rfl,.inr ⟨?_,?_⟩⟩
    ·rfl
    ·rfl
section
variable {aH σ : Heap} {R : HP}
abbrev Av(v:AV)(l:List cW):HP:=Sl (fl bz) 5 v l
theorem Qe{v:AV}{l:List cW}(k:cW)(hl:l.length<1000000000)(H:Hs bN aH σ (Av v l*R)):∃v' σ',Uv 5 (140737488355328 / 40) v (.sl 5 [bz k]) σ=δ (v',σ')/\Hs bN aH σ' (Av v' (l++[k])*R):=
 IS (ys:=[bz k]) (xs:=[k]) (dN (show pr (bz k=bz k)*(Sl (fl bz) 5 v l*R)=_ by
  rw[show els (fl bz) [bz k] [k]=pr (bz k=bz k)*emp from rfl,vA,zG];ac_rfl) (oB.2 ⟨rfl,H⟩)) (by simp;omega) (λ_ _ _ _=>trivial)
theorem aBH{v:AV}{l:List cW}(H:Hs bN aH σ (Av v l*R)):az4 σ (v,l.map bz):=by
 rcases wN H with⟨rfl,Zo,K⟩|⟨id,g,rfl,K⟩
 ·rcases Zo with rfl|rfl
  ·exact⟨rfl,λ_=>rfl,rfl⟩
  ·exact⟨rfl,λ_=>rfl,rfl⟩
 ·obtain⟨h1,h2⟩:=jj K;have hlt:=(bD.1 h2).1;refine⟨by simp [UT],λex=>?_,rfl⟩;have h3:(σ++ex)[id]? =δ (.arr g 5 (l.map bz)):=by rw[iG hlt];exact h2
  simp [T9,h3];exact vR (by simp)
theorem awu{v1 v2 v3:AV}{l1 l2 l3:List cW}(hl:l1.length+l2.length+l3.length<=1000000)(H:Hs bN aH σ (Av v1 l1*(Av v2 l2*(Av v3 l3*R)))):
  ∃v σ',NZ [.sl 1 [[v1],[v2],[v3]]] σ=δ (v,σ')/\Hs bN aH σ' (Av v (l1++l2++l3)*R):=by
 have b1:=aBH H;have b2:=aBH (dN (show _=Av v2 l2*(Av v1 l1*(Av v3 l3*R)) by ac_rfl) H);have b3:=aBH (dN (show _=Av v3 l3*(Av v1 l1*(Av v2 l2*R)) by ac_rfl) H);have K:Hs bN aH σ R:=wQ (wQ (wQ H));have hf:rF [(v1,l1.map bz),(v2,l2.map bz),(v3,l3.map bz)]=(l1++l2++l3).map bz:=by simp [rF]
 have ht:mK [(v1,l1.map bz),(v2,l2.map bz),(v3,l3.map bz)]=(l1++l2++l3).length:=by unfold mK;rw[hf,Z7]
 obtain⟨⟨c1,c2⟩,h1,h2⟩:=aot (L:=[(v1,l1.map bz),(v2,l2.map bz),(v3,l3.map bz)]) σ (λp hp=>by
  rcases iV.1 hp with rfl|hp
  ·exact b1
  rcases iV.1 hp with rfl|hp
  ·exact b2
  ·rw[Un.1 hp];exact b3) (by simp [aZ]) (by rw[ht];simp;omega)
 have hw:NZ [.sl 1 [[v1],[v2],[v3]]] σ=δ (c1,c2):=wrap_eq rfl h1 (iI _);rcases h2 with⟨rfl,rfl,h3⟩|⟨rfl,rfl⟩
 ·have:l1++l2++l3=[]:=by rw[hf]at h3;exact List.map_eq_nil_iff.1 h3
  rw[this];exact⟨_,_,hw,vk K (.inl rfl)⟩
 ·refine⟨_,_,hw,?_⟩;rw[ht,hf];refine Wg (FG K ?_) rfl;exact trivial
end
end
section
open HP
theorem Jz{γ β A1 A2:Type}{X:Option γ}{f:γ->Option β}{g:A1->A2->β}{Q:A1->A2->Prop}(P:γ->Prop)(h:∃z,X=δ z/\P z)(k:∀z,P z->∃a b,f z=δ (g a b)/\Q a b):∃a b,X.bind f=δ (g a b)/\Q a b:=by obtain⟨z,e,hz⟩:=h;rw[e];exact k z hz
def nR(k:Int)(L:List cV):List cW:=((L.reverse.find? λx=>decide (x.action.kind=k)).map (·.action)).toList
def mxI(x y:Int):Int:=if y>x then y else x
def lV (s:ct) (r:Int) (l:List cV) (a b:Int):Int:=mxI (Cy r (θ.wrap (b-a))) (nA (runK s r l a b).bP)
def qc (s:ct) (r:Int) (l:List cV) (a b:Int):List cW×Int:=
 if ¬(qu s r l a b=0)then([],qu s r l a b)
 else if 36000000<lV s r l a b then([],1)
 else(s.aS.flatMap (mo (runK s r l a b) (lV s r l a b))++s.aS.flatMap (lR (runK s r l a b) (lV s r l a b))++s.aS.flatMap (mH (runK s r l a b) (lV s r l a b))++nR 8 (jY s r l a b).1++nR 9 (jY s r l a b).1,0)
theorem zI{α β:Type}{f:α->List β}(h:∀x,(f x).length<=1):∀l:List α,(l.flatMap f).length<=l.length
 |[]=>bF _
 |x::l=>by rw[Vi,Ve,R7];have:=h x;have:=zI h l;omega
theorem Vn(d:bB)(t:Int)(p:iC):(mo d t p).length<=1:=by unfold mo;split<;>simp
theorem azu(d:bB)(t:Int)(p:iC):(lR d t p).length<=1:=by unfold lR;split<;>simp
theorem aAQ(d:bB)(t:Int)(p:iC):(mH d t p).length<=1:=by unfold mH;split<;>simp
theorem PB(k:Int)(L:List cV):(nR k L).length<=1:=by unfold nR;cases L.reverse.find? λx=>decide (x.action.kind=k)<;>simp
theorem Pa{α β:Type}(f:α->List β){l:List α}{i:Nat}{x:α}(h:l[i]? =δ x):(l.take (i+1)).flatMap f=(l.take i).flatMap f++f x:=by rw[S2,h];simp
theorem aqm(p c:Int):((((Θ (Z6 θ 3)).bind λv=>δ [v]).bind λuL=>(Φ 1 uL [fB,fB,fB,fB,fB]).bind λkg=>((Θ (Z6 θ p)).bind λv=>δ [v]).bind λmM=>(Φ 2 mM kg).bind λlK=>((Θ (Z6 θ c)).bind λv=>δ [v]).bind λoP=>(Φ 3 oP lK).bind λmY=>δ mY).bind λcs=>δ (Λ cs))=δ (.agg (bz ⟨0,3,p,c,0⟩)):=rfl
theorem aoU(p c:Int):((((Θ (Z6 θ 7)).bind λv=>δ [v]).bind λsI=>(Φ 1 sI [fB,fB,fB,fB,fB]).bind λlX=>((Θ (Z6 θ p)).bind λv=>δ [v]).bind λmZ=>(Φ 2 mZ lX).bind λCM=>((Θ (Z6 θ c)).bind λv=>δ [v]).bind λtW=>(Φ 4 tW CM).bind λnE=>δ nE).bind λcs=>δ (Λ cs))=δ (.agg (bz ⟨0,7,p,0,c⟩)):=rfl
theorem aoV(p:Int):((((Θ (Z6 θ 4)).bind λv=>δ [v]).bind λCQ=>(Φ 1 CQ [fB,fB,fB,fB,fB]).bind λAp=>((Θ (Z6 θ p)).bind λv=>δ [v]).bind λAq=>(Φ 2 Aq Ap).bind λuQ=>δ uQ).bind λcs=>δ (Λ cs))=δ (.agg (bz ⟨0,4,p,0,0⟩)):=rfl
theorem aue{v1 v2 v3:AV}(h1:Θ v1=δ v1)(h2:Θ v2=δ v2)(h3:Θ v3=δ v3):((((Θ v1).bind λv=>δ [v]).bind λuR=>(Φ 0 uR [i6,i6,i6]).bind λxE=>((Θ v2).bind λv=>δ [v]).bind λqz=>(Φ 1 qz xE).bind λsJ=>((Θ v3).bind λv=>δ [v]).bind λoQ=>(Φ 2 oQ sJ).bind λsK=>δ sK).bind λcs=>δ (SQ 1 (gd 1 3 cs)))=δ (.sl 1 [[v1],[v2],[v3]]):=by rw[h1,h2,h3];rfl
section
variable {aH σ : Heap} {R : HP}
theorem atC{v:AV}{l:List cW}(H:Hs bN aH σ (Av v l*R)):∃v',l6 aH (.aM [v,.int θ 0]) σ=δ (.aM [v',.int θ 0],aH)/\Wo (.t [.s 5,.k]) (.aM [v',.int θ 0])=.aM [sl 5 bz l,.int θ 0]:=by
 obtain⟨v',h1,h2,h3⟩:=FK H OW (bF _) 7;refine⟨v',FD (Qm H) (by simp [Wr,UC,h1]) (λe=>?_),?_⟩
 ·rcases wN H with⟨rfl,rfl|rfl,_⟩|⟨id,g,rfl,K⟩
  ·simp [Wr]at h1;rw[h1]
  ·simp [Wr]at h1;rw[h1]
  ·obtain⟨k1,k2⟩:=jj K;have:=(bD.1 k2).1;subst e;omega
 ·simp only[Wo,UZ]at h3 ⊢;rw[h3]
theorem af4(e:Int)(H:Hs bN aH σ R):l6 aH (.aM [.aA,.int θ e]) σ=δ (.aM [.aA,.int θ e],aH):=FD H (by simp [Wr,UC]) (λ_=>rfl)
theorem aoS{L:List cV}(hL:L.length<=2000)(k:Int){vo:AV}{out:List cW}(ho:out.length<1000000)(H:Hs bN aH σ (Av vo out*R)):∃fW u W,p7 (λsD CD=>
         (ZC (aj sD 1) fB).bind λYh=>
         Γ Yh (
          (UM 6 (sl 6 dW L) (aj sD 1)).bind λx112=>
          (p5 1 x112).bind λx113=>
          ((χ x113 CD).bind λFX=>l7 0 5 FX).bind λx115=>
          (ψ 5 x115).bind λxw=>
          (Φ 0 xw [fB,fB,fB,fB,fB]).bind λzZ=>
          (φ 1 zZ).bind λCI=>
          (Wn .i CI (.int θ k)).bind λGp=>
          Γ Gp (
           (l7 0 5 zZ).bind λGq=>
           (((ψ 5 Gq).bind λuF=>(Φ 0 uF [fB,fB,fB,fB,fB]).bind λFY=>δ FY).bind λcs=>δ (SQ 5 (gd 5 1 cs))).bind λaAH=>
           (Uv 5 (140737488355328 / 40) (aj sD 0) aAH CD).bind λEu=>
           δ (Ψ 4,[Eu.1,(aj sD 1)],Eu.2)) (
           (T6 (aj sD 1) (Z6 θ 1)).bind λyP=>
           δ (l9,[(aj sD 0),yP],CD))) (
          δ (Ψ 4,[(aj sD 0),(aj sD 1)],CD))) [vo,.int θ (θ.wrap ((L.length:Int) -1))] σ=δ (.exit 4,[fW,u],W)/\Hs bN aH W (Av fW (out++nR k L)*R):=by
 suffices h:∃q,p7 _ [vo,.int θ (θ.wrap ((L.length:Int) -1))] σ=δ q/\∃fW u W,q=(.exit 4,[fW,u],W)/\Hs bN aH W (Av fW (out++nR k L)*R) by obtain⟨q,e,fW,u,W,rfl,K⟩:=h;exact⟨fW,u,W,e,K⟩
 refine nO (λn v w=>n<=L.length/\v=[vo,.int θ (θ.wrap ((n:Int) -1))]/\nR k (L.take n)=nR k L/\Hs bN aH w (Av vo out*R)) ?_ (n:=L.length) ⟨bF _,rfl,by rw[Uo],H⟩;rintro n v w ⟨hn,rfl,hT,K⟩;rw[cO (show aU ((n:Int) -1) by unfold aU;omega)];simp only[bM,cg];cases n with
 |zero=>have hT:[]=nR k L:=hT;refine .inr ⟨_,by rw[qp,bS,cm (by omega),cD],by simp,vo,_,w,rfl,by rw[<-hT,TU];exact K⟩
 |succ n=>
  have hx:L[n]? =δ L[n]:=bU (by omega);generalize L[n]=x at hx;rw[show(((n+1:Nat):Int) -1)=(n:Int) by omega]
  have auT:nR k (L.take (n+1))=if x.action.kind=k then[x.action]else nR k (L.take n):=by unfold nR;rw[S2,hx];simp only[Zh,List.reverse_append,List.reverse_cons,List.reverse_nil,Tp,mq,List.find?_cons];by_cases q:x.action.kind=k<;>simp [q]
  rw[auT]at hT
  have pre:∀{β:Type}(F:an->Option β),((UM 6 (sl 6 dW L) (.int θ (n:Int))).bind λx112=>(p5 1 x112).bind λx113=>((χ x113 w).bind λFX=>l7 0 5 FX).bind λx115=>(ψ 5 x115).bind λxw=>(Φ 0 xw [fB,fB,fB,fB,fB]).bind F)=F (bz x.action):=by intro β F;rw[gy hx,bS,show p5 1 (.rp (dW x))=δ (.rp ((dW x).drop 1))from rfl,bS,show((χ (.rp ((dW x).drop 1)) w).bind λc=>l7 0 5 c)=δ (.agg (bz x.action))from rfl,bS,show ψ 5 (.agg (bz x.action))=δ (bz x.action)from rfl,bS,aAU,bS]
  by_cases q:x.action.kind=k
  ·rw[aO q]at hT;obtain⟨v',W,e,K'⟩:=Qe x.action (by omega) K;refine .inr ⟨(.exit 4,[v',.int θ (n:Int)],W),?_,by simp,v',_,W,rfl,by rw[<-hT];exact K'⟩;rw[qp,bS,cB (by omega),cK,pre,show φ 1 (bz x.action)=δ (.int θ x.action.kind)from rfl,bS,gK,bS,cB q,cK,Fg,bS,KK,bS,e,bS]
  ·rw[aL q]at hT;refine .inl ⟨n,_,w,by omega,?_,by omega,rfl,hT,K⟩;rw[qp,bS,cB (by omega),cK,pre,show φ 1 (bz x.action)=δ (.int θ x.action.kind)from rfl,bS,gK,bS,cm q,cD,mV,bS]
theorem aq9{s:ct}(hs:rQ s){l:List cV}(hl:fI DI l)(r a b:Int)(σ:Heap):∃z:AV×Heap,Tw (.agg (bu s)) (.int θ r) (sl 6 dW l) (.int θ a) (.int θ b) σ=δ z/\(z.2=σ/\Wo (.t [.s 5,.k]) z.1=.aM [sl 5 bz (qc s r l a b).1,.int θ (qc s r l a b).2]):=by
 unfold Tw;rw[show ψ 5 (.agg (bu s))=δ (bu s)from rfl,bS,show l7 0 5 (bu s)=δ (.agg (bu s))from rfl,bS];rcases agN hs hl r a b (IL (B:=bN) σ)with⟨h,W,e,K⟩|⟨h,id,W,e,K⟩
 ·rw[e,bS];simp only;rw[jZ,bS,ext1,bS,fN,bS,cB h,cK];have hz:qc s r l a b=([],qu s r l a b):=by unfold qc;rw[aO h]
  rw[hz];exact⟨_,af4 _ K,rfl,rfl⟩
 have h0:(jY s r l a b).2=0:=by
  unfold qu at h;by_cases q:(jY s r l a b).2=0
  ·exact q
  ·rw[aO q]at h;exact absurd h q
 obtain⟨hE,a0,a1,a2,hd⟩:=azP h0;have hO:=LH hs hE.set;have hK:mI (runK s r l a b):=afB (KV hO) _
 have me:(jY s r l a b).1.length<=2000:=by rw[hd];exact X8 (List.length_filter_le _ _) hE.len
 rw[e,bS];simp only;rw[jZ,bS,ext1,bS,fN,bS,cm (λq=>q rfl),cD,mV,bS,On (QG hE.mode _),bS];simp only;rw[afM hK.len K,bS];simp only;rw[show A.max (.int θ (Cy r (θ.wrap (b-a)))) (.int θ (nA (runK s r l a b).bP))=δ (.int θ (lV s r l a b))from rfl,bS,Cm,bS];by_cases h1:36000000<lV s r l a b
 ·rw[cB h1,cK];have hz:qc s r l a b=([],1):=by unfold qc;rw[aL (λq=>q h),aO h1]
  rw[hz];exact⟨_,af4 _ K,rfl,rfl⟩
 have hz:qc s r l a b=(s.aS.flatMap (mo (runK s r l a b) (lV s r l a b))++s.aS.flatMap (lR (runK s r l a b) (lV s r l a b))++s.aS.flatMap (mH (runK s r l a b) (lV s r l a b))++nR 8 (jY s r l a b).1++nR 9 (jY s r l a b).1,0):=by unfold qc;rw[aL (λq=>q h),aL h1]
 rw[hz,cm h1,cD];generalize runK s r l a b=d at K hK ⊢;generalize lV s r l a b=t at h1 ⊢;generalize hL:(jY s r l a b).1=L at me ⊢;have hpl:=hO.pl;rw[abU,bS,fJ,bS];have K0:Hs bN σ W (Av .aA []*(Av .aA []*(Av .aA []*(iU (.op id 0) d*emp)))):=vk (vk (vk K (.inl rfl)) (.inl rfl)) (.inl rfl);refine yw (Q:=λq=>∃v1 v2 v3 u,q.1=.exit 0/\q.2.1=[.lbx (bu s),v1,v2,v3,u]/\Hs bN σ q.2.2 (Av v1 (s.aS.flatMap (mo d t))*(Av v2 (s.aS.flatMap (lR d t))*(Av v3 (s.aS.flatMap (mH d t))*(iU (.op id 0) d*emp))))) (IC s.aS (λi vs w=>∃v1 v2 v3,vs=[.lbx (bu s),v1,v2,v3,.int θ (i:Int)]/\Hs bN σ w (Av v1 ((s.aS.take i).flatMap (mo d t))*(Av v2 ((s.aS.take i).flatMap (lR d t))*(Av v3 ((s.aS.take i).flatMap (mH d t))*(iU (.op id 0) d*emp))))) ?_ ?_ ⟨_,_,_,rfl,K0⟩) ?_
 ·rintro i p vs w hx ⟨v1,v2,v3,rfl,K1⟩;have hi:=(bD.1 hx).1;have hm1:=zI (Vn d t) (s.aS.take i);have hm2:=zI (azu d t) (s.aS.take i);have Zd:=zI (aAQ d t) (s.aS.take i);rw[oH]at hm1 hm2 Zd;have hst:=aAW hK t p.au (dN (show _=iU (.op id 0) d*(Av v1 ((s.aS.take i).flatMap (mo d t))*(Av v2 ((s.aS.take i).flatMap (lR d t))*(Av v3 ((s.aS.take i).flatMap (mH d t))*emp))) by ac_rfl) K1);simp only[bM,cg];rw[gZ hx,bS,cK,gy hx,bS,show((χ (.rp (cr p)) w).bind λc=>l7 0 3 c)=δ (.agg (cr p))from rfl,bS,show ψ 3 (.agg (cr p))=δ (cr p)from rfl,bS,show Φ 0 (cr p) [fB,fB,fB]=δ (cr p)from rfl,bS,show φ 0 (cr p)=δ (.int θ p.au)from rfl,bS,hst,bS];simp only;rw[jZ,bS,ext1,bS,aAk,bS,TQ _ _ rfl,bS,aaV,bS,Cm,bS];refine Jz (λz=>∃v',z.1=[.lbx (bu s),v',.lbx (cr p),.lbx (pX (eS d p.au t).1)]/\Hs bN σ z.2 (Av v' ((s.aS.take i).flatMap (mo d t)++mo d t p)*(Av v2 ((s.aS.take i).flatMap (lR d t))*(Av v3 ((s.aS.take i).flatMap (mH d t))*(iU (.op id 0) d*emp))))) ?_ ?_
  ·unfold mo;by_cases q:0<(eS d p.au t).1.bw
   ·obtain⟨v',w',e',K'⟩:=Qe ⟨0,3,p.au,(eS d p.au t).1.bw,0⟩ (by omega) K1;refine⟨([.lbx (bu s),v',.lbx (cr p),.lbx (pX (eS d p.au t).1)],w'),?_,v',rfl,?_⟩
    ·rw[cB q,cK,bS,bS,aqm,bS,KK,bS,e',bS]
    ·rw[aO q];exact K'
   ·refine⟨([.lbx (bu s),v1,.lbx (cr p),.lbx (pX (eS d p.au t).1)],w),?_,v1,rfl,?_⟩
    ·rw[cm q,cD]
    ·rw[aL q,TU];exact K1
  rintro⟨z1,w1⟩ ⟨v1',rfl,K1⟩;simp only[bM,cg,iM,bS,aaW,fN];refine Jz (λz=>∃v',z.1=[.lbx (bu s),v',.lbx (cr p),.lbx (pX (eS d p.au t).1)]/\Hs bN σ z.2 (Av v' ((s.aS.take i).flatMap (lR d t)++lR d t p)*(Av v1' ((s.aS.take i).flatMap (mo d t)++mo d t p)*(Av v3 ((s.aS.take i).flatMap (mH d t))*(iU (.op id 0) d*emp))))) ?_ ?_
  ·have K2:=dN (show _=Av v2 ((s.aS.take i).flatMap (lR d t))*(Av v1' ((s.aS.take i).flatMap (mo d t)++mo d t p)*(Av v3 ((s.aS.take i).flatMap (mH d t))*(iU (.op id 0) d*emp))) by ac_rfl) K1;by_cases q:(eS d p.au t).1.eF=65535
   ·refine⟨([.lbx (bu s),v2,.lbx (cr p),.lbx (pX (eS d p.au t).1)],w1),?_,v2,rfl,?_⟩
    ·rw[cm (λz=>z q),cD]
    ·rw[show lR d t p=[] by unfold lR;rw[aL (λz=>z q)],TU];exact K2
   ·obtain⟨v',w',e',K'⟩:=Qe ⟨0,7,p.au,0,(eS d p.au t).1.eF⟩ (by omega) K2;refine⟨([.lbx (bu s),v',.lbx (cr p),.lbx (pX (eS d p.au t).1)],w'),?_,v',rfl,?_⟩
    ·rw[cB q,cK,show φ 0 (cr p)=δ (.int θ p.au)from rfl,bS,aoU,bS,KK,bS,e',bS]
    ·rw[show lR d t p=[⟨0,7,p.au,0,(eS d p.au t).1.eF⟩] by unfold lR;rw[aO q]];exact K'
  rintro⟨z1,w2⟩ ⟨v2',rfl,K2⟩;simp only[bM,cg,iM,bS,aaX];refine Jz (λz=>∃v',z.1=[.lbx (bu s),v']/\Hs bN σ z.2 (Av v' ((s.aS.take i).flatMap (mH d t)++mH d t p)*(Av v1' ((s.aS.take i).flatMap (mo d t)++mo d t p)*(Av v2' ((s.aS.take i).flatMap (lR d t)++lR d t p)*(iU (.op id 0) d*emp))))) ?_ ?_
  ·have K3:=dN (show _=Av v3 ((s.aS.take i).flatMap (mH d t))*(Av v1' ((s.aS.take i).flatMap (mo d t)++mo d t p)*(Av v2' ((s.aS.take i).flatMap (lR d t)++lR d t p)*(iU (.op id 0) d*emp))) by ac_rfl) K2;by_cases q:(eS d p.au t).1.wU=η
   ·obtain⟨v',w',e',K'⟩:=Qe ⟨0,4,p.au,0,0⟩ (by omega) K3;refine⟨([.lbx (bu s),v'],w'),?_,v',rfl,?_⟩
    ·rw[q,cK,show φ 0 (cr p)=δ (.int θ p.au)from rfl,bS,aoV,bS,KK,bS,e',bS]
    ·rw[show mH d t p=[⟨0,4,p.au,0,0⟩] by unfold mH;rw[aO q]];exact K'
   ·refine⟨([.lbx (bu s),v3],w2),?_,v3,rfl,?_⟩
    ·rw[aB0.2 q,cD]
    ·rw[show mH d t p=[] by unfold mH;rw[aL q],TU];exact K3
  rintro⟨z1,w3⟩ ⟨R1,rfl,K3⟩;simp only[bM,cg];rw[fK hx (by unfold aZ;omega),bS];refine⟨_,w3,rfl,v1',v2',R1,rfl,?_⟩;rw[Pa _ hx,Pa _ hx,Pa _ hx];exact dN (by ac_rfl) K3
 ·rintro vs w ⟨v1,v2,v3,rfl,K1⟩;rw[Uo]at K1;refine⟨(.exit 0,[.lbx (bu s),v1,v2,v3,.int θ (s.aS.length:Int)],w),?_,by simp,v1,v2,v3,_,rfl,rfl,K1⟩;simp only[bM,cg];rw[iu,bS,cD]
 rintro⟨q1,q2,w⟩ ⟨v1,v2,v3,u,rfl,rfl,K1⟩;simp only[mB,bM,cg];have c1:=VJ K1;have c2:=VJ (dN (show _=Av v2 (s.aS.flatMap (lR d t))*(Av v1 (s.aS.flatMap (mo d t))*(Av v3 (s.aS.flatMap (mH d t))*(iU (.op id 0) d*emp))) by ac_rfl) K1);have c3:=VJ (dN (show _=Av v3 (s.aS.flatMap (mH d t))*(Av v1 (s.aS.flatMap (mo d t))*(Av v2 (s.aS.flatMap (lR d t))*(iU (.op id 0) d*emp))) by ac_rfl) K1);rw[aue c1 c2 c3,bS];have hm1:=zI (Vn d t) s.aS;have hm2:=zI (azu d t) s.aS;have Zd:=zI (aAQ d t) s.aS;obtain⟨vo,w2,e2,K2⟩:=awu (by omega) K1;rw[e2,bS];simp only[iM,bS];rw[show l7 0 5 (bu s)=δ (.agg (bu s))from rfl,bS,abL (ag4 s hs r l hl.1 a b),bS];simp only;rw[jZ,bS,ext1,bS,hL];rw[show SQ 1 [[Z6 θ 8],[Z6 θ 9]]=sl 1 nT [8,9]from rfl,fJ,bS]
 have ho:(s.aS.flatMap (mo d t)++s.aS.flatMap (lR d t)++s.aS.flatMap (mH d t)).length<=120:=by rw[Ve,Ve];omega
 generalize s.aS.flatMap (mo d t)++s.aS.flatMap (lR d t)++s.aS.flatMap (mH d t)=out at K2 ho ⊢;refine yw (Q:=λq=>∃v u,q.1=.exit 2/\q.2.1=[v,u]/\Hs bN σ q.2.2 (Av v (out++([8,9]:List Int).flatMap λk=>nR k L)*(iU (.op id 0) d*emp))) (IC ([8,9]:List Int) (λi vs w=>∃v,vs=[v,.int θ (i:Int)]/\Hs bN σ w (Av v (out++(([8,9]:List Int).take i).flatMap λk=>nR k L)*(iU (.op id 0) d*emp))) ?_ ?_ ⟨vo,rfl,by rw[List.take_zero,List.flatMap_nil,TU];exact K2⟩) ?_
 ·rintro i k vs w hx ⟨v,rfl,K1⟩;have hi:=(bD.1 hx).1;have hm:=zI (λk=>PB k L) (([8,9]:List Int).take i);rw[oH]at hm;have hi2:i<2:=hi;obtain⟨v',u,w',e',K'⟩:=aoS me k (by rw[Ve];omega) K1;simp only[bM,cg];rw[gZ hx,bS,cK,gy hx,bS,show((χ (.rp (nT k)) w).bind λc=>φ 0 c)=δ (.int θ k)from rfl,bS,fJ,bS,mV,bS];refine F7 e' ?_;simp only[mB,bM];rw[fK hx (by show 2<=aZ;decide),bS];refine⟨_,w',rfl,v',rfl,?_⟩;rw[Pa _ hx,<-kS];exact K'
 ·rintro vs w ⟨v,rfl,K1⟩;rw[Uo]at K1;refine⟨(.exit 2,[v,.int θ ((([8,9]:List Int).length:Nat):Int)],w),?_,by simp,v,_,rfl,rfl,K1⟩;simp only[bM,cg];rw[iu,bS,cD]
 rintro⟨q1,q2,w⟩ ⟨v,u,rfl,rfl,K3⟩;simp only[mB,bM];obtain⟨v',f1,f2⟩:=atC K3;refine⟨_,f1,rfl,?_⟩;rw[f2];simp [kS]
theorem ara{s:ct}(hs:rQ s){l:List cV}(hl:fI DI l)(r a b:Int)(σ:Heap):az6 [.agg (bu s),.int θ r,sl 6 dW l,.int θ a,.int θ b] σ=δ (.aM [sl 5 bz (qc s r l a b).1,.int θ (qc s r l a b).2],σ):=by obtain⟨⟨z,w⟩,e,h1,h2⟩:=aq9 hs hl r a b σ;simp only at h1;subst h1;exact Wk rfl rfl h2 e
end
end
section
open HP
theorem afA:∀{l:List cW}{d e:bB}{i:Int},vI d l e->yM d i l=(e,0,0)
 |[],d,e,i,h=>by have h:d=e:=h;subst h;rfl
 |a::l,d,e,i,h=>by unfold yM;rw[aO h.1];exact afA h.2
theorem aow{r:Int}(h:vN r=0):0<=oI r/\oI r<=2592000:=by rcases acn h with rfl|rfl|rfl|rfl<;>decide
theorem apA{r n:Int}(h:vN r=0)(h1:0<=n/\n<=oI r):Kn r n=δ (Cy r n,0):=by
 unfold Kn;simp only[agm,azV,aP];rw[qg (by show 2<=aZ;unfold aZ;omega),h];have hw:aX n 0 (oI r)=η:=by unfold aX;simp [h1.1,h1.2]
 simp only[hw,Xk,UP,if_false,aP];rw[aL (by decide),QG h];rfl
theorem aqh{k:Int}{L:List cV}{a:cW}(h:a∈nR k L):a.kind=k/\∃e∈L,e.action=a:=by
 unfold nR at h;cases hf:L.reverse.find? λx=>decide (x.action.kind=k)with
 |none=>rw[hf]at h;simp at h
 |some x=>rw[hf]at h;simp only[cq,Zh,Un]at h;subst h;exact⟨by simpa using aCW hf,x,List.mem_reverse.1 (zV hf),rfl⟩
theorem aqH{s:ct}{l:List cV}{r a b:Int}(hs:rQ s)(h:(qc s r l a b).2=0)(hq:DV s=η):WN s r l/\0<=a/\a<=b/\b<=oI r/\qu s r l a b=0/\mI (runK s r l a b)/\
  ∃e,vI (jq s) (qc s r l a b).1 e/\mI e/\(qc s r l a b).1.length<=1000/\∀p∈s.aS,(eS (runK s r l a b) p.au (lV s r l a b)).2=0/\(eS e p.au 0).2=0/\(eS (runK s r l a b) p.au (lV s r l a b)).1.bw=(eS e p.au 0).1.bw/\(eS (runK s r l a b) p.au (lV s r l a b)).1.eF=(eS e p.au 0).1.eF/\(eS (runK s r l a b) p.au (lV s r l a b)).1.wU=(eS e p.au 0).1.wU:=by
 by_cases h0:qu s r l a b=0
 case neg=>
  unfold qc at h;rw[aO h0]at h;exact absurd h h0
 by_cases h1:36000000<lV s r l a b
 ·unfold qc at h;rw[aL (λq=>q h0),aO h1]at h;cases h
 have hz:(qc s r l a b).1=s.aS.flatMap (mo (runK s r l a b) (lV s r l a b))++s.aS.flatMap (lR (runK s r l a b) (lV s r l a b))++s.aS.flatMap (mH (runK s r l a b) (lV s r l a b))++nR 8 (jY s r l a b).1++nR 9 (jY s r l a b).1:=by unfold qc;rw[aL (λq=>q h0),aL h1]
 have hd0:(jY s r l a b).2=0:=by
  unfold qu at h0;by_cases q:(jY s r l a b).2=0
  ·exact q
  ·rw[aO q]at h0;exact absurd h0 q
 obtain⟨hE,a0,a1,a2,hd⟩:=azP hd0;have hO:=LH hs hE.set;have hK:mI (runK s r l a b):=afB (KV hO) _;have hsub:∀e∈(jY s r l a b).1,e∈l:=λe he=>by rw[hd]at he;exact(TR.1 he).1
 have hg:∀k,k=8\/k=9->(nR k (jY s r l a b).1).length<=1/\∀x∈nR k (jY s r l a b).1,(x.kind=8\/x.kind=9)/\qQ x=0/\x.time=0/\sB s x=0:=λk hk=>⟨PB _ _,λx hx=>by
  obtain⟨q1,e,he,rfl⟩:=aqh hx;have:=hE.act e (hsub e he)
  exact⟨by rw[q1];exact hk,this.1,this.2.1,this.2.2⟩⟩
 have ht:rX (runK s r l a b).bP (lV s r l a b)=0:=by
  have hn:=hK.si.n
  have hm:nA (runK s r l a b).bP<=lV s r l a b:=by unfold lV mxI;split<;>omega
  have hw:aX (lV s r l a b) 0 36000000=η:=by unfold aX;simp;omega
  unfold rX;rw[aO hw,cm (by omega)];rfl
 obtain⟨e,q1,q2,q3⟩:=auk hO (apf hE.set) hq hK (atS (agi s) _) ht (hg 8 (.inl rfl)) (hg 9 (.inr rfl));refine⟨hE,a0,a1,a2,h0,hK,e,by rw[hz];exact q1,q2,?_,q3⟩;rw[hz];have hpl:=hO.pl;have hm1:=zI (Vn (runK s r l a b) (lV s r l a b)) s.aS;have hm2:=zI (azu (runK s r l a b) (lV s r l a b)) s.aS;have Zd:=zI (aAQ (runK s r l a b) (lV s r l a b)) s.aS;have hm4:=PB 8 (jY s r l a b).1;have hm5:=PB 9 (jY s r l a b).1;simp only[Ve];omega
theorem unE{α:Type}{X:Option α}{v:α}(h:∃z,X=δ z/\z=v):X=δ v:=by obtain⟨z,e,rfl⟩:=h;exact e
theorem atx(a b c:AV):TH 0 (.aM [a,b,c])=δ a:=rfl
theorem aty(a b c:AV):TH 1 (.aM [a,b,c])=δ b:=rfl
theorem atz(a b c:AV):TH 2 (.aM [a,b,c])=δ c:=rfl
theorem amn{s:ct}(hs:rQ s){l:List cV}(hl:fI DI l)(r a b:Int)(σ:Heap):aAt (.agg (bu s)) (.ah r) (sl 6 dW l) (.ah a) (.ah b) σ=δ (.bool η,σ):=by
 unfold aAt;rw[show ψ 5 (.agg (bu s))=δ (bu s)from rfl,bS,show l7 0 5 (bu s)=δ (.agg (bu s))from rfl,bS,ara hs hl r a b σ,bS];simp only;rw[jZ,bS,ext1,bS,fN,bS];by_cases h0:(qc s r l a b).2=0
 case neg=>
  rw[cB h0];simp only[Ax,bS,nJ,cK];exact bL _ _
 rw[cm (λq=>q h0)];simp only[gF,bS,dL (ank (asO s hs)),vX,nI];by_cases hq:DV s=η
 case neg=>
  rw[aB0.2 hq,U6,cK];exact bL _ _
 rw[hq,Xk,cD];obtain⟨hE,a0,a1,a2,hr,hK,e,o1,o2,o3,o4⟩:=aqH hs h0 hq;rcases agN hs hl r a b (IL (B:=bN) σ)with⟨h,_⟩|⟨_,id,W1,e1,K1⟩
 ·exact absurd hr h
 rw[e1,bS];simp only;rw[jZ,bS,ext1,bS];have Ai:=afA (i:=0) o1;obtain⟨Zw,W2,e2,_,K2⟩:=(amT (Q:=emp) (va:=sl 5 bz (qc s r l a b).1) (as0 _) (fJ _ _ _) hs hE.set (by unfold aZ;omega) (dN (zG _).symm K1)).1 (by rw[Ai]);rw[Ai]at K2;rw[e2,bS];simp only;rw[atx,bS,aty,bS,atz,bS,fN,bS,cm (λq=>q rfl)];simp only[gF,bS,fN,cm (λq:¬(0:Int)=0=>q rfl),nI,show Wn .p (.op id 0) .np=δ (.bool ι)from rfl,show Wn .p (.op Zw 0) .np=δ (.bool ι)from rfl,cD];have K3:Hs bN σ W2 (iU (.op id 0) (runK s r l a b)*(iU (.op Zw 0) e*emp)):=dN (by rw[zG];ac_rfl) K2;have ay4:=aow hE.mode;have hw:θ.wrap (b-a)=b-a:=cO (by unfold aU;omega);rw[mV,bS,akB (apA hE.mode (n:=θ.wrap (b-a)) (by rw[hw];omega)),bS];simp only;rw[jZ,bS,ext1,bS,afM hK.len K3,bS];simp only;rw[show A.max (.ah (Cy r (θ.wrap (b-a)))) (.ah (nA (runK s r l a b).bP))=δ (.ah (lV s r l a b))from rfl,bS,abU,bS,fJ,bS];generalize lV s r l a b=t at o4 ⊢;generalize runK s r l a b=d at hK K3 o4 ⊢;refine unE ?_;refine yw (Q:=λq=>q.1=.exit 0/\q.2.2=W2) ?_ ?_
 ·refine IC s.aS (λi vs w=>vs=[.bool ι,.ah (i:Int)]/\w=W2) ?_ ?_ ⟨rfl,rfl⟩
  ·rintro i p vs w hx ⟨rfl,rfl⟩;have hm:=cE hx;obtain⟨s1,s2,s3,s4,s5⟩:=o4 p hm;have t1:=aAW hK t p.au K3;have t2:=aAW o2 0 p.au (dN (show _=iU (.op Zw 0) e*(iU (.op id 0) d*emp) by ac_rfl) K3);refine⟨[.bool ι,.ah ((i+1:Nat):Int)],w,?_,rfl,rfl⟩;simp only[bM,cg];rw[gZ hx,bS,cK,gy hx,bS,show((χ (.rp (cr p)) w).bind λc=>l7 0 3 c)=δ (.agg (cr p))from rfl,bS,show ψ 3 (.agg (cr p))=δ (cr p)from rfl,bS,show Φ 0 (cr p) [(ε 0),(ε 0),(ε 0)]=δ (cr p)from rfl,bS,show φ 0 (cr p)=δ (.ah p.au)from rfl,bS,t1,bS];simp only;rw[jZ,bS,ext1,bS,aAk,bS,TQ _ _ rfl,bS,bS,t2,bS];simp only;rw[jZ,bS,ext1,bS,aAk,bS,TQ _ _ rfl,bS,s1,s2];simp only[fN,cm (λq:¬(0:Int)=0=>q rfl),bS,gF,nI,aaV,aaW,aaX,s3,s4,s5,not_true_eq_false,decide_false,avp,cD,fK hx (show s.aS.length<=aZ from hs.2.2.2.1)]
  ·rintro vs w ⟨rfl,rfl⟩;refine⟨(.exit 0,[.bool ι,.ah (s.aS.length:Int)],w),?_,by simp,rfl,rfl⟩;simp only[bM,cg];rw[iu,bS,cD]
 rintro⟨q1,q2,q3⟩ ⟨rfl,rfl⟩;simp only[mB];exact⟨_,auM η K3,rfl⟩
theorem ajA{s:ct}{r:Int}{l:List cV}{a b:Int}{σ:Heap}(h:rQ s/\fI DI l):aaf [.agg (bu s),.ah r,sl 6 dW l,.ah a,.ah b] σ=δ (.bool η,σ):=
 Wk rfl rfl (iI _) (amn h.1 h.2 r a b σ)
theorem ajD(s:ct)(r:Int)(l:List cV)(a b:Int)(hs:rQ s)(_:aU r)(hl:fI DI l)(_:aU a)(_:aU b):rQ s/\fI DI l:=⟨hs,hl⟩
end
section
open Go.ChangeShapes Go.WideShapes Go.ChangeAt Go.RowKit
theorem own:ownKnob Tryz.prog.godebug=ξ:=by kernel_rfl
theorem laidOut:laidOutB Tryz.prog=η:=by kernel_rfl
theorem abd{H:Type}{enc:TypeId×Value->H}{P:Program}(hl:laidOutB P=η){W W':World}(hb:Below W.heap.size W W'):
  ∀{ts:List TypeId}{vs:List Value}{ds:List (DataW H)}{ps:List MemPlace},(ts.all λt=>P.readableRec t&&decide (t<P.types.size))=η->
   DataW.TrodAll enc P W 0 (λ_=>η) η ts vs ds ps->(∀x∈ps,x.block<W.heap.size)->DataW.TrodAll enc P W' 0 (λb=>decide (b<W.heap.size)) η ts vs ds ps
 |[],[],[],_,_,h,_=>h
 |t::ts,v::vs,d::ds,ps,hts,h,hlt=>by
  obtain⟨p,q,h1,h2,rfl⟩:=h;simp only[aCh,je,decide_eq_true_eq]at hts
  exact⟨p,q,Below.trod hl hts.1.1 hts.1.2 h1 hb (λx hx=>hlt x (List.mem_append_left _ hx)),
   abd hl hb (by simpa using hts.2) h2 (λx hx=>hlt x (List.mem_append_right _ hx)),rfl⟩
 |[],_::_,_,_,_,h,_=>h.elim
 |[],[],_::_,_,_,h,_=>h.elim
 |_::_,[],_,_,_,h,_=>h.elim
 |_::_,_::_,[],_,_,h,_=>h.elim
theorem aqi{H:Type}{enc:TypeId×Value->H}{f:Func}{s:ChangeSpec}{W W':World}{args:Array Value}{ds gs:List (DataW H)}{before:List MemPlace}{t:TypeId}
  (hts:(f.params.toList.all λt=>Tryz.prog.readableRec t&&decide (t<Tryz.prog.types.size))=η) (C7:f.resultTypes=#[t]) (ht:Tryz.prog.underlying t=δ .bool) (hvs:s.vars=[])
  (hW:DataW.Whole enc Tryz.prog f.params.toList s.vars ι W args.toList ds gs before) (hb:Below W.heap.size W W')
  (aAm:s.fn H (ds++gs)={results:=[.lit (.bool η)],args:=ds}):
  s.post enc Tryz.prog f ι η ι ι W args (.bool η) W':=by
 have Rv:=hW;obtain⟨p,q,hA,hV,rfl,hfz,hnd⟩:=hW;have hlt:∀x∈p++q,x.block<W.heap.size:=λx hx=>Rv.lt x hx
 refine⟨ds,gs,p++q,[],p,[],Rv,?_,?_,?_,hb.frame _,λh=>by cases h⟩
 ·rw[aAm,C7];exact trodAll_cons_mk (shut_bool ht _) trodAll_mk0
 ·rw[aAm];exact abd laidOut hb hts hA (λx hx=>hlt x (List.mem_append_left _ hx))
 ·rw[aAm,hvs];exact rfl
end
section
open Go.RowKit
def Gr(w w':World):Prop:=Below w.heap.size w w'
theorem Gr.cell{a b:World}(h:Gr a b){p:Addr}{v:Value}(hc:a.cell? p=δ v):b.cell? p=δ v:=by
 by_cases hp:p.block<a.heap.size
 ·rw[Below.cell h hp];exact hc
 ·have:a.heap[p.block]? =ξ:=Array.getElem?_eq_none (by omega);simp [XV,this]at hc
abbrev ayR(w:World)(b:Nat)(v0:Value):Prop:=(w.cell? ⟨b,0,ξ⟩=δ v0)/\(w.frozen? ⟨b,0,ξ⟩=ι)/\b<w.heap.size
abbrev ayS(w:World)(b:Nat)(v0 v1:Value):Prop:=(w.cell? ⟨b,0,ξ⟩=δ v0/\w.cell? ⟨b,1,ξ⟩=δ v1)/\(w.frozen? ⟨b,0,ξ⟩=ι/\w.frozen? ⟨b,1,ξ⟩=ι)/\b<w.heap.size
abbrev ayT(w:World)(b:Nat)(v0 v1 v2:Value):Prop:=(w.cell? ⟨b,0,ξ⟩=δ v0/\w.cell? ⟨b,1,ξ⟩=δ v1/\w.cell? ⟨b,2,ξ⟩=δ v2)/\(w.frozen? ⟨b,0,ξ⟩=ι/\w.frozen? ⟨b,1,ξ⟩=ι/\w.frozen? ⟨b,2,ξ⟩=ι)/\b<w.heap.size
abbrev ayU(w:World)(b:Nat)(v0 v1 v2 v3:Value):Prop:=(w.cell? ⟨b,0,ξ⟩=δ v0/\w.cell? ⟨b,1,ξ⟩=δ v1/\w.cell? ⟨b,2,ξ⟩=δ v2/\w.cell? ⟨b,3,ξ⟩=δ v3)/\(w.frozen? ⟨b,0,ξ⟩=ι/\w.frozen? ⟨b,1,ξ⟩=ι/\w.frozen? ⟨b,2,ξ⟩=ι/\w.frozen? ⟨b,3,ξ⟩=ι)/\b<w.heap.size
abbrev ayV(w:World)(b:Nat)(v0 v1 v2 v3 v4:Value):Prop:=(w.cell? ⟨b,0,ξ⟩=δ v0/\w.cell? ⟨b,1,ξ⟩=δ v1/\w.cell? ⟨b,2,ξ⟩=δ v2/\w.cell? ⟨b,3,ξ⟩=δ v3/\w.cell? ⟨b,4,ξ⟩=δ v4)/\(w.frozen? ⟨b,0,ξ⟩=ι/\w.frozen? ⟨b,1,ξ⟩=ι/\w.frozen? ⟨b,2,ξ⟩=ι/\w.frozen? ⟨b,3,ξ⟩=ι/\w.frozen? ⟨b,4,ξ⟩=ι)/\b<w.heap.size
abbrev ayW(w:World)(b:Nat)(v0 v1 v2 v3 v4 v5:Value):Prop:=(w.cell? ⟨b,0,ξ⟩=δ v0/\w.cell? ⟨b,1,ξ⟩=δ v1/\w.cell? ⟨b,2,ξ⟩=δ v2/\w.cell? ⟨b,3,ξ⟩=δ v3/\w.cell? ⟨b,4,ξ⟩=δ v4/\w.cell? ⟨b,5,ξ⟩=δ v5)/\(w.frozen? ⟨b,0,ξ⟩=ι/\w.frozen? ⟨b,1,ξ⟩=ι/\w.frozen? ⟨b,2,ξ⟩=ι/\w.frozen? ⟨b,3,ξ⟩=ι/\w.frozen? ⟨b,4,ξ⟩=ι/\w.frozen? ⟨b,5,ξ⟩=ι)/\b<w.heap.size
abbrev ayX(w:World)(b:Nat)(v0 v1 v2 v3 v4 v5 v6:Value):Prop:=(w.cell? ⟨b,0,ξ⟩=δ v0/\w.cell? ⟨b,1,ξ⟩=δ v1/\w.cell? ⟨b,2,ξ⟩=δ v2/\w.cell? ⟨b,3,ξ⟩=δ v3/\w.cell? ⟨b,4,ξ⟩=δ v4/\w.cell? ⟨b,5,ξ⟩=δ v5/\w.cell? ⟨b,6,ξ⟩=δ v6)/\(w.frozen? ⟨b,0,ξ⟩=ι/\w.frozen? ⟨b,1,ξ⟩=ι/\w.frozen? ⟨b,2,ξ⟩=ι/\w.frozen? ⟨b,3,ξ⟩=ι/\w.frozen? ⟨b,4,ξ⟩=ι/\w.frozen? ⟨b,5,ξ⟩=ι/\w.frozen? ⟨b,6,ξ⟩=ι)/\b<w.heap.size
abbrev ayY(w:World)(b:Nat)(v0 v1 v2 v3 v4 v5 v6 v7:Value):Prop:=(w.cell? ⟨b,0,ξ⟩=δ v0/\w.cell? ⟨b,1,ξ⟩=δ v1/\w.cell? ⟨b,2,ξ⟩=δ v2/\w.cell? ⟨b,3,ξ⟩=δ v3/\w.cell? ⟨b,4,ξ⟩=δ v4/\w.cell? ⟨b,5,ξ⟩=δ v5/\w.cell? ⟨b,6,ξ⟩=δ v6/\w.cell? ⟨b,7,ξ⟩=δ v7)/\(w.frozen? ⟨b,0,ξ⟩=ι/\w.frozen? ⟨b,1,ξ⟩=ι/\w.frozen? ⟨b,2,ξ⟩=ι/\w.frozen? ⟨b,3,ξ⟩=ι/\w.frozen? ⟨b,4,ξ⟩=ι/\w.frozen? ⟨b,5,ξ⟩=ι/\w.frozen? ⟨b,6,ξ⟩=ι/\w.frozen? ⟨b,7,ξ⟩=ι)/\b<w.heap.size
abbrev ayZ(w:World)(b:Nat)(v0 v1 v2 v3 v4 v5 v6 v7 v8:Value):Prop:=(w.cell? ⟨b,0,ξ⟩=δ v0/\w.cell? ⟨b,1,ξ⟩=δ v1/\w.cell? ⟨b,2,ξ⟩=δ v2/\w.cell? ⟨b,3,ξ⟩=δ v3/\w.cell? ⟨b,4,ξ⟩=δ v4/\w.cell? ⟨b,5,ξ⟩=δ v5/\w.cell? ⟨b,6,ξ⟩=δ v6/\w.cell? ⟨b,7,ξ⟩=δ v7/\w.cell? ⟨b,8,ξ⟩=δ v8)/\(w.frozen? ⟨b,0,ξ⟩=ι/\w.frozen? ⟨b,1,ξ⟩=ι/\w.frozen? ⟨b,2,ξ⟩=ι/\w.frozen? ⟨b,3,ξ⟩=ι/\w.frozen? ⟨b,4,ξ⟩=ι/\w.frozen? ⟨b,5,ξ⟩=ι/\w.frozen? ⟨b,6,ξ⟩=ι/\w.frozen? ⟨b,7,ξ⟩=ι/\w.frozen? ⟨b,8,ξ⟩=ι)/\b<w.heap.size
abbrev ayD(w:World)(b:Nat)(v0 v1 v2 v3 v4 v5 v6 v7 v8 v9:Value):Prop:=(w.cell? ⟨b,0,ξ⟩=δ v0/\w.cell? ⟨b,1,ξ⟩=δ v1/\w.cell? ⟨b,2,ξ⟩=δ v2/\w.cell? ⟨b,3,ξ⟩=δ v3/\w.cell? ⟨b,4,ξ⟩=δ v4/\w.cell? ⟨b,5,ξ⟩=δ v5/\w.cell? ⟨b,6,ξ⟩=δ v6/\w.cell? ⟨b,7,ξ⟩=δ v7/\w.cell? ⟨b,8,ξ⟩=δ v8/\w.cell? ⟨b,9,ξ⟩=δ v9)/\(w.frozen? ⟨b,0,ξ⟩=ι/\w.frozen? ⟨b,1,ξ⟩=ι/\w.frozen? ⟨b,2,ξ⟩=ι/\w.frozen? ⟨b,3,ξ⟩=ι/\w.frozen? ⟨b,4,ξ⟩=ι/\w.frozen? ⟨b,5,ξ⟩=ι/\w.frozen? ⟨b,6,ξ⟩=ι/\w.frozen? ⟨b,7,ξ⟩=ι/\w.frozen? ⟨b,8,ξ⟩=ι/\w.frozen? ⟨b,9,ξ⟩=ι)/\b<w.heap.size
abbrev ayE(w:World)(b:Nat)(v0 v1 v2 v3 v4 v5 v6 v7 v8 v9 v10:Value):Prop:=(w.cell? ⟨b,0,ξ⟩=δ v0/\w.cell? ⟨b,1,ξ⟩=δ v1/\w.cell? ⟨b,2,ξ⟩=δ v2/\w.cell? ⟨b,3,ξ⟩=δ v3/\w.cell? ⟨b,4,ξ⟩=δ v4/\w.cell? ⟨b,5,ξ⟩=δ v5/\w.cell? ⟨b,6,ξ⟩=δ v6/\w.cell? ⟨b,7,ξ⟩=δ v7/\w.cell? ⟨b,8,ξ⟩=δ v8/\w.cell? ⟨b,9,ξ⟩=δ v9/\w.cell? ⟨b,10,ξ⟩=δ v10)/\(w.frozen? ⟨b,0,ξ⟩=ι/\w.frozen? ⟨b,1,ξ⟩=ι/\w.frozen? ⟨b,2,ξ⟩=ι/\w.frozen? ⟨b,3,ξ⟩=ι/\w.frozen? ⟨b,4,ξ⟩=ι/\w.frozen? ⟨b,5,ξ⟩=ι/\w.frozen? ⟨b,6,ξ⟩=ι/\w.frozen? ⟨b,7,ξ⟩=ι/\w.frozen? ⟨b,8,ξ⟩=ι/\w.frozen? ⟨b,9,ξ⟩=ι/\w.frozen? ⟨b,10,ξ⟩=ι)/\b<w.heap.size
abbrev ayF(w:World)(b:Nat)(v0 v1 v2 v3 v4 v5 v6 v7 v8 v9 v10 v11:Value):Prop:=(w.cell? ⟨b,0,ξ⟩=δ v0/\w.cell? ⟨b,1,ξ⟩=δ v1/\w.cell? ⟨b,2,ξ⟩=δ v2/\w.cell? ⟨b,3,ξ⟩=δ v3/\w.cell? ⟨b,4,ξ⟩=δ v4/\w.cell? ⟨b,5,ξ⟩=δ v5/\w.cell? ⟨b,6,ξ⟩=δ v6/\w.cell? ⟨b,7,ξ⟩=δ v7/\w.cell? ⟨b,8,ξ⟩=δ v8/\w.cell? ⟨b,9,ξ⟩=δ v9/\w.cell? ⟨b,10,ξ⟩=δ v10/\w.cell? ⟨b,11,ξ⟩=δ v11)/\(w.frozen? ⟨b,0,ξ⟩=ι/\w.frozen? ⟨b,1,ξ⟩=ι/\w.frozen? ⟨b,2,ξ⟩=ι/\w.frozen? ⟨b,3,ξ⟩=ι/\w.frozen? ⟨b,4,ξ⟩=ι/\w.frozen? ⟨b,5,ξ⟩=ι/\w.frozen? ⟨b,6,ξ⟩=ι/\w.frozen? ⟨b,7,ξ⟩=ι/\w.frozen? ⟨b,8,ξ⟩=ι/\w.frozen? ⟨b,9,ξ⟩=ι/\w.frozen? ⟨b,10,ξ⟩=ι/\w.frozen? ⟨b,11,ξ⟩=ι)/\b<w.heap.size
abbrev ayG(w:World)(b:Nat)(v0 v1 v2 v3 v4 v5 v6 v7 v8 v9 v10 v11 v12:Value):Prop:=(w.cell? ⟨b,0,ξ⟩=δ v0/\w.cell? ⟨b,1,ξ⟩=δ v1/\w.cell? ⟨b,2,ξ⟩=δ v2/\w.cell? ⟨b,3,ξ⟩=δ v3/\w.cell? ⟨b,4,ξ⟩=δ v4/\w.cell? ⟨b,5,ξ⟩=δ v5/\w.cell? ⟨b,6,ξ⟩=δ v6/\w.cell? ⟨b,7,ξ⟩=δ v7/\w.cell? ⟨b,8,ξ⟩=δ v8/\w.cell? ⟨b,9,ξ⟩=δ v9/\w.cell? ⟨b,10,ξ⟩=δ v10/\w.cell? ⟨b,11,ξ⟩=δ v11/\w.cell? ⟨b,12,ξ⟩=δ v12)/\(w.frozen? ⟨b,0,ξ⟩=ι/\w.frozen? ⟨b,1,ξ⟩=ι/\w.frozen? ⟨b,2,ξ⟩=ι/\w.frozen? ⟨b,3,ξ⟩=ι/\w.frozen? ⟨b,4,ξ⟩=ι/\w.frozen? ⟨b,5,ξ⟩=ι/\w.frozen? ⟨b,6,ξ⟩=ι/\w.frozen? ⟨b,7,ξ⟩=ι/\w.frozen? ⟨b,8,ξ⟩=ι/\w.frozen? ⟨b,9,ξ⟩=ι/\w.frozen? ⟨b,10,ξ⟩=ι/\w.frozen? ⟨b,11,ξ⟩=ι/\w.frozen? ⟨b,12,ξ⟩=ι)/\b<w.heap.size
abbrev ayH(w:World)(b:Nat)(v0 v1 v2 v3 v4 v5 v6 v7 v8 v9 v10 v11 v12 sW:Value):Prop:=(w.cell? ⟨b,0,ξ⟩=δ v0/\w.cell? ⟨b,1,ξ⟩=δ v1/\w.cell? ⟨b,2,ξ⟩=δ v2/\w.cell? ⟨b,3,ξ⟩=δ v3/\w.cell? ⟨b,4,ξ⟩=δ v4/\w.cell? ⟨b,5,ξ⟩=δ v5/\w.cell? ⟨b,6,ξ⟩=δ v6/\w.cell? ⟨b,7,ξ⟩=δ v7/\w.cell? ⟨b,8,ξ⟩=δ v8/\w.cell? ⟨b,9,ξ⟩=δ v9/\w.cell? ⟨b,10,ξ⟩=δ v10/\w.cell? ⟨b,11,ξ⟩=δ v11/\w.cell? ⟨b,12,ξ⟩=δ v12/\w.cell? ⟨b,13,ξ⟩=δ sW)/\(w.frozen? ⟨b,0,ξ⟩=ι/\w.frozen? ⟨b,1,ξ⟩=ι/\w.frozen? ⟨b,2,ξ⟩=ι/\w.frozen? ⟨b,3,ξ⟩=ι/\w.frozen? ⟨b,4,ξ⟩=ι/\w.frozen? ⟨b,5,ξ⟩=ι/\w.frozen? ⟨b,6,ξ⟩=ι/\w.frozen? ⟨b,7,ξ⟩=ι/\w.frozen? ⟨b,8,ξ⟩=ι/\w.frozen? ⟨b,9,ξ⟩=ι/\w.frozen? ⟨b,10,ξ⟩=ι/\w.frozen? ⟨b,11,ξ⟩=ι/\w.frozen? ⟨b,12,ξ⟩=ι/\w.frozen? ⟨b,13,ξ⟩=ι)/\b<w.heap.size
end
section
open Go.RowKit Go.Deep
structure dw (α : Type) where
 size:Nat
 is:World->List Value->α->Prop
 len:∀{w cs a},is w cs a->cs.length=size
 mono:∀{w w' cs a},is w cs a->Gr w w'->is w' cs a
 cC:α->Nat
def dP:dw Int where
 size:=1
 is:=λ_ cs n=>cs=[.int θ n]/\-9223372036854775808<=n/\n<=9223372036854775807
 len:=λh=>by rw[h.1];rfl
 mono:=λh _=>h
 cC:=λ_=>1
def wY:dw Bool where
 size:=1
 is:=λ_ cs b=>cs=[.bool b]
 len:=λh=>by rw[h];rfl
 mono:=λh _=>h
 cC:=λ_=>1
def tV:dw ByteArray where
 size:=1
 is:=λ_ cs s=>cs=[.string s]/\s.size<=maxLen
 len:=λh=>by rw[h.1];rfl
 mono:=λh _=>h
 cC:=λs=>s.size+1
def dw.pair{α β:Type}(c:dw α)(d:dw β):dw (α×β) where
 size:=c.size+d.size
 is:=λw cs x=>c.is w (cs.take c.size) x.1/\d.is w (cs.drop c.size) x.2
 len:=λ{w cs a}h=>by have h1:=c.len h.1;have h2:=d.len h.2;simp at h1 h2;omega
 mono:=λh g=>⟨c.mono h.1 g,d.mono h.2 g⟩
 cC:=λx=>c.cC x.1+d.cC x.2
def dG{α:Type}(c:dw α):dw (List α) where
 size:=1
 is:=λw cs l=>(cs=[.slice ξ 0 0]/\l=[])\/∃(b off:Nat)(sp:Option Nat)(cap:Nat),cs=[.slice (δ ⟨b,off,sp⟩) l.length cap]/\l.length<=cap/\l.length<=maxLen/\
  ∀i(h:i<l.length),sp=ξ/\∃cs',(∀j,j<c.size->w.cell? ⟨b,off+(i*c.size+j),ξ⟩=cs'[j]?)/\c.is w cs' l[i]
 len:=λh=>by rcases h with⟨rfl,_⟩|⟨b,off,sp,cap,rfl,_⟩<;>rfl
 mono:=λ{w w' cs l}h g=>by
  rcases h with h|⟨b,off,sp,cap,h1,h2,h3,h4⟩
  ·exact .inl h
  ·refine .inr ⟨b,off,sp,cap,h1,h2,h3,λi hi=>?_⟩;obtain⟨e,cs',h5,h6⟩:=h4 i hi;refine⟨e,cs',λj hj=>?_,c.mono h6 g⟩;have h7:=h5 j hj;have hl:=c.len h6;rw[bU (by omega)]at h7 ⊢;exact g.cell h7
 cC:=λl=>(l.map c.cC).sum+1
def fP{α:Type}(F:Nat->Prop)(P:Program)(c:dw α)(t:TypeId):Prop:=∀⦃H:Type⦄ ⦃enc:TypeId×Value->H⦄ ⦃w:World⦄ ⦃base:Nat⦄ ⦃spare:Nat->Bool⦄ ⦃held:Bool⦄ ⦃fuel:Nat⦄ ⦃cs:List Value⦄ ⦃x:DataW H×List MemPlace⦄,F fuel->DataW.trod enc P w base spare held fuel t cs=δ x->∃a,c.is w cs a/\c.cC a<=Rows.uptoBulk x.1
abbrev Reads{α:Type}(P:Program)(c:dw α)(t:TypeId):Prop:=fP (λ_=>True) P c t
theorem Du{H:Type}(l:List (DataW H)):Rows.uptoBulkAll l=(l.map Rows.uptoBulk).sum:=by
 induction l with
 |nil=>rfl
 |cons x r ih=>simp only[Rows.uptoBulkAll,eo,List.sum_cons,ih]
theorem aby{α:Type}(f:α->Nat)(D:Nat->Nat):∀(l:List α)(o:Nat),(∀i(h:i<l.length),f l[i]<=D (o+i))->(l.map f).sum<=((Tz o l.length).map D).sum
 |[],_,_=>by simp
 |x::r,o,h=>by simp only[R7,aCC,eo,List.sum_cons];have h0:=h 0 (by simp);have:=aby f D r (o+1) (λi hi=>by have:=h (i+1) (by simp;omega);simp only[List.getElem_cons_succ]at this;rw[show o+1+i=o+(i+1) by omega];exact this);simp at h0;omega
theorem wf_i64{n:Int}(h:(Lit.int θ n).wf=η):-9223372036854775808<=n/\n<=9223372036854775807:=by simpa [Lit.wf,IntKind.min,IntKind.max,IntKind.signed,IntKind.bits]using h
theorem adX{H:Type}(d:DataW H):1<=Rows.uptoBulk d:=by
 cases d with
 |lit l=>cases l<;>simp [Rows.uptoBulk]
 |_=>simp [Rows.uptoBulk]
theorem jy{F:Nat->Prop}{P:Program}{t:TypeId}(ht:P.underlying t=δ (.int θ)):fP F P dP t:=by intro H enc w base spare held fuel cs x _ h;obtain⟨n,rfl,_,hw⟩:=DataW.trod_int ht h;exact⟨n,⟨rfl,wf_i64 hw⟩,adX _⟩
theorem O3{F:Nat->Prop}{P:Program}{t:TypeId}(ht:P.underlying t=δ .bool):fP F P wY t:=by intro H enc w base spare held fuel cs x _ h;obtain⟨n,rfl,_⟩:=DataW.trod_bool ht h;exact⟨n,rfl,adX _⟩
theorem Fm{F:Nat->Prop}{P:Program}{t:TypeId}(ht:P.underlying t=δ .string):fP F P tV t:=by intro H enc w base spare held fuel cs x _ h;obtain⟨n,rfl,hx,hw⟩:=DataW.trod_string ht h;refine⟨n,⟨rfl,hw⟩,?_⟩;subst hx;simp only[Rows.uptoBulk,tV];first|(simp;done)|omega
theorem yg{F:Nat->Prop}{P:Program}{α:Type}{c:dw α}{t e:TypeId}(ht:P.underlying t=δ (.slice e))(hz:P.cellsOf e=c.size)(hp:0<c.size)(hr:fP (λm=>F (m+1)) P c e):fP F P (dG c) t:=by
 intro H enc w base spare held fuel cs x hF h;rcases DataW.trod_slice ht h with⟨rfl,rfl⟩|⟨a,len,cap,elems,rest,n,gL,rfl,hxe,hb,hl,hm,hlen,hel,h8,h9⟩
 ·exact⟨[],.inl ⟨rfl,rfl⟩,by simp [dG,Rows.uptoBulk]⟩
 ·obtain⟨D,hD⟩:∃D:Nat->DataW H,D=λi=>(elems.getD i (.nil,[])).1:=⟨_,rfl⟩
  have key:∀i,i<len->∃(y:α)(cs':List Value),(∀j,j<c.size->w.cell? (a.add (i*c.size+j))=cs'[j]?)/\c.is w cs' y/\c.cC y<=Rows.uptoBulk (D i):=by
   intro i hi;have hk:=hel i hi;rw[bU (by omega)]at hk;obtain⟨cs',h1,h2⟩:=bX.1 hk;obtain⟨y,hy,M7⟩:=hr (by subst gL;exact hF) h2
   have M7:c.cC y<=Rows.uptoBulk (D i):=by rw[hD];simpa [YA,bU (show i<elems.length by omega)]using M7
   obtain⟨_,h3,h4⟩:=World.cells?_some h1;refine⟨y,cs',λj hj=>?_,hy,M7⟩;have:=h4 j (by rw[hz];exact hj);rw[hz]at this;rw[<-this,add_add]
  obtain⟨ys,hys⟩:∃ys:List α,ys.length=len/\∀i(h:i<ys.length),c.cC ys[i]<=Rows.uptoBulk (D i)/\∃cs',(∀j,j<c.size->w.cell? (a.add (i*c.size+j))=cs'[j]?)/\c.is w cs' ys[i]:=by
   clear hel hlen h hl hxe h8 h9;induction len with
   |zero=>exact⟨[],rfl,λi h=>by simp at h⟩
   |succ k ih=>
    obtain⟨ys,h1,h2⟩:=ih (λi hi=>key i (by omega));obtain⟨y,cs',h3,h4,h4b⟩:=key k (by omega);refine⟨ys++[y],by simp [h1],λi hi=>?_⟩;by_cases hk:i<ys.length
    ·rw[List.getElem_append_left hk];exact h2 i hk
    ·have:i=k:=by simp at hi;omega
     subst this;rw[List.getElem_append_right (by omega)];simp only[h1,Wz,List.getElem_cons_zero];exact⟨h4b,cs',h3,h4⟩
  obtain⟨h1,h2⟩:=hys;obtain⟨b,off,sp⟩:=a;refine⟨ys,.inr ⟨b,off,sp,cap,by rw[h1],by omega,X8 (show ys.length<=cap by omega) hm,λi hi=>?_⟩,?_⟩
  ·have hs:sp=ξ:=by
    cases sp with
    |none=>rfl
    |some q=>exfalso;obtain⟨_,cs',h3,h4⟩:=h2 0 (by omega);have h5:=h3 0 hp;have hl:=c.len h4;rw[bU (by omega)]at h5;simp only[Nat.zero_mul,WW,XV,Addr.add]at h5;split at h5<;>simp at h5
   obtain⟨_,cs',h3,h4⟩:=h2 i hi;subst hs;refine⟨rfl,cs',λj hj=>?_,h4⟩;have h6:=h3 j hj;rw[<-h6];congr 1;simp only[Addr.add];split
   ·rename_i h7;simp only[h7,Nat.add_zero]
   ·rfl
  ·subst hxe;simp only[dG,Rows.uptoBulk,Du,Zc];have:=aby c.cC (λi=>Rows.uptoBulk (D i)) ys 0 (λi hi=>by simpa using(h2 i hi).1);rw[h1,<-V3]at this
   have e:V4 (Rows.uptoBulk∘λx=>x.1) elems=V4 (λi=>Rows.uptoBulk (D i)) (List.range len):=by rw[<-hlen,hD];apply List.ext_getElem (by simp);intro i h3 h4;simp at h3;simp [YA,bU h3]
   rw[e];omega
theorem Fb{α:Type}(l:List α)(o n:Nat)(h:l.length=o+n):(l.drop o).take n=l.drop o:=vR (by simp;omega)
theorem aly{α:Type}(l:List α)(h:l.length=2):∃x0 x1,l=[x0,x1]:=by
 match l,h with
 |[x0,x1],_=>exact⟨x0,x1,rfl⟩
theorem Dq{F:Nat->Prop}{P:Program}{yc qK:Type}{t:TypeId}{f0 f1:Field}{c0:dw yc}{c1:dw qK}(ht:P.underlying t=δ (.struct #[f0,f1]))(hz:P.cellsOf t=c0.size+c1.size)(o0:f0.offset=0)(o1:f1.offset=c0.size)(z0:P.cellsOf f0.type=c0.size)(z1:P.cellsOf f1.type=c1.size)(r0:fP (λm=>F (m+1)) P c0 f0.type) (r1:fP (λm=>F (m+1)) P c1 f1.type):fP F P (c0.pair c1) t:=by
 intro H enc w base spare held fuel cs x hF h;obtain⟨xs,m,gL,dB,hlen,hxl,hf⟩:=X0 ht h;rw[hz]at hlen;have hxl:xs.length=2:=hxl;have h0:=hf 0 f0 rfl;rw[o0,z0,bU (show 0<xs.length by omega)]at h0;obtain⟨a0,k0,b0⟩:=r0 (by subst gL;exact hF) h0;have h1:=hf 1 f1 rfl;rw[o1,z1,bU (show 1<xs.length by omega)]at h1;obtain⟨a1,k1,b1⟩:=r1 (by subst gL;exact hF) h1;rw[Fb cs (c0.size) c1.size (by omega)]at k1;refine⟨(a0,a1),?_,?_⟩
 ·exact⟨by simpa using k0,(by simpa [kC,jI]using k1)⟩
 ·subst dB;simp only[Rows.uptoBulk,Du,dw.pair]
  have hs:(V4 Rows.uptoBulk (xs.map (·.1))).sum=Rows.uptoBulk xs[0].1+(Rows.uptoBulk xs[1].1):=by obtain⟨x0,x1,rfl⟩:=aly xs hxl;simp
  rw[hs];exact Zf (kT b0 b1)
theorem alz{α:Type}(l:List α)(h:l.length=3):∃x0 x1 x2,l=[x0,x1,x2]:=by
 match l,h with
 |[x0,x1,x2],_=>exact⟨x0,x1,x2,rfl⟩
theorem OD{F:Nat->Prop}{P:Program}{yc qK uo:Type}{t:TypeId}{f0 f1 f2:Field}{c0:dw yc}{c1:dw qK}{c2:dw uo}(ht:P.underlying t=δ (.struct #[f0,f1,f2]))(hz:P.cellsOf t=c0.size+c1.size+c2.size)(o0:f0.offset=0)(o1:f1.offset=c0.size)(o2:f2.offset=c0.size+c1.size)(z0:P.cellsOf f0.type=c0.size)(z1:P.cellsOf f1.type=c1.size)(z2:P.cellsOf f2.type=c2.size)(r0:fP (λm=>F (m+1)) P c0 f0.type) (r1:fP (λm=>F (m+1)) P c1 f1.type) (r2:fP (λm=>F (m+1)) P c2 f2.type):fP F P (c0.pair (c1.pair c2)) t:=by
 intro H enc w base spare held fuel cs x hF h;obtain⟨xs,m,gL,dB,hlen,hxl,hf⟩:=X0 ht h;rw[hz]at hlen;have hxl:xs.length=3:=hxl;have h0:=hf 0 f0 rfl;rw[o0,z0,bU (show 0<xs.length by omega)]at h0;obtain⟨a0,k0,b0⟩:=r0 (by subst gL;exact hF) h0;have h1:=hf 1 f1 rfl;rw[o1,z1,bU (show 1<xs.length by omega)]at h1;obtain⟨a1,k1,b1⟩:=r1 (by subst gL;exact hF) h1;have h2:=hf 2 f2 rfl;rw[o2,z2,bU (show 2<xs.length by omega)]at h2;obtain⟨a2,k2,b2⟩:=r2 (by subst gL;exact hF) h2;rw[Fb cs (c0.size+c1.size) c2.size (by omega)]at k2;refine⟨(a0,(a1,a2)),?_,?_⟩
 ·exact⟨by simpa using k0,⟨by simpa [kC,jI]using k1,(by simpa [kC,jI]using k2)⟩⟩
 ·subst dB;simp only[Rows.uptoBulk,Du,dw.pair]
  have hs:(V4 Rows.uptoBulk (xs.map (·.1))).sum=Rows.uptoBulk xs[0].1+(Rows.uptoBulk xs[1].1+(Rows.uptoBulk xs[2].1)):=by obtain⟨x0,x1,x2,rfl⟩:=alz xs hxl;simp
  rw[hs];exact Zf (kT b0 (kT b1 b2))
theorem alA{α:Type}(l:List α)(h:l.length=4):∃x0 x1 x2 x3,l=[x0,x1,x2,x3]:=by
 match l,h with
 |[x0,x1,x2,x3],_=>exact⟨x0,x1,x2,x3,rfl⟩
theorem aa9{F:Nat->Prop}{P:Program}{yc qK uo yf:Type}{t:TypeId}{f0 f1 f2 f3:Field}{c0:dw yc}{c1:dw qK}{c2:dw uo}{c3:dw yf}(ht:P.underlying t=δ (.struct #[f0,f1,f2,f3]))(hz:P.cellsOf t=c0.size+c1.size+c2.size+c3.size)(o0:f0.offset=0)(o1:f1.offset=c0.size)(o2:f2.offset=c0.size+c1.size)(o3:f3.offset=c0.size+c1.size+c2.size)(z0:P.cellsOf f0.type=c0.size)(z1:P.cellsOf f1.type=c1.size)(z2:P.cellsOf f2.type=c2.size)(z3:P.cellsOf f3.type=c3.size)(r0:fP (λm=>F (m+1)) P c0 f0.type) (r1:fP (λm=>F (m+1)) P c1 f1.type) (r2:fP (λm=>F (m+1)) P c2 f2.type) (r3:fP (λm=>F (m+1)) P c3 f3.type):fP F P (c0.pair (c1.pair (c2.pair c3))) t:=by
 intro H enc w base spare held fuel cs x hF h;obtain⟨xs,m,gL,dB,hlen,hxl,hf⟩:=X0 ht h;rw[hz]at hlen;have hxl:xs.length=4:=hxl;have h0:=hf 0 f0 rfl;rw[o0,z0,bU (show 0<xs.length by omega)]at h0;obtain⟨a0,k0,b0⟩:=r0 (by subst gL;exact hF) h0;have h1:=hf 1 f1 rfl;rw[o1,z1,bU (show 1<xs.length by omega)]at h1;obtain⟨a1,k1,b1⟩:=r1 (by subst gL;exact hF) h1;have h2:=hf 2 f2 rfl;rw[o2,z2,bU (show 2<xs.length by omega)]at h2;obtain⟨a2,k2,b2⟩:=r2 (by subst gL;exact hF) h2;have h3:=hf 3 f3 rfl;rw[o3,z3,bU (show 3<xs.length by omega)]at h3;obtain⟨a3,k3,b3⟩:=r3 (by subst gL;exact hF) h3;rw[Fb cs (c0.size+c1.size+c2.size) c3.size (by omega)]at k3;refine⟨(a0,(a1,(a2,a3))),?_,?_⟩
 ·exact⟨by simpa using k0,⟨by simpa [kC,jI]using k1,⟨by simpa [kC,jI]using k2,(by simpa [kC,jI]using k3)⟩⟩⟩
 ·subst dB;simp only[Rows.uptoBulk,Du,dw.pair]
  have hs:(V4 Rows.uptoBulk (xs.map (·.1))).sum=Rows.uptoBulk xs[0].1+(Rows.uptoBulk xs[1].1+(Rows.uptoBulk xs[2].1+(Rows.uptoBulk xs[3].1))):=by obtain⟨x0,x1,x2,x3,rfl⟩:=alA xs hxl;simp
  rw[hs];exact Zf (kT b0 (kT b1 (kT b2 b3)))
theorem alB{α:Type}(l:List α)(h:l.length=5):∃x0 x1 x2 x3 x4,l=[x0,x1,x2,x3,x4]:=by
 match l,h with
 |[x0,x1,x2,x3,x4],_=>exact⟨x0,x1,x2,x3,x4,rfl⟩
theorem ala{F:Nat->Prop}{P:Program}{yc qK uo yf zn:Type}{t:TypeId}{f0 f1 f2 f3 f4:Field}{c0:dw yc}{c1:dw qK}{c2:dw uo}{c3:dw yf}{c4:dw zn}(ht:P.underlying t=δ (.struct #[f0,f1,f2,f3,f4]))(hz:P.cellsOf t=c0.size+c1.size+c2.size+c3.size+c4.size)(o0:f0.offset=0)(o1:f1.offset=c0.size)(o2:f2.offset=c0.size+c1.size)(o3:f3.offset=c0.size+c1.size+c2.size)(o4:f4.offset=c0.size+c1.size+c2.size+c3.size)(z0:P.cellsOf f0.type=c0.size)(z1:P.cellsOf f1.type=c1.size)(z2:P.cellsOf f2.type=c2.size)(z3:P.cellsOf f3.type=c3.size)(z4:P.cellsOf f4.type=c4.size)(r0:fP (λm=>F (m+1)) P c0 f0.type) (r1:fP (λm=>F (m+1)) P c1 f1.type) (r2:fP (λm=>F (m+1)) P c2 f2.type) (r3:fP (λm=>F (m+1)) P c3 f3.type) (r4:fP (λm=>F (m+1)) P c4 f4.type):fP F P (c0.pair (c1.pair (c2.pair (c3.pair c4)))) t:=by
 intro H enc w base spare held fuel cs x hF h;obtain⟨xs,m,gL,dB,hlen,hxl,hf⟩:=X0 ht h;rw[hz]at hlen;have hxl:xs.length=5:=hxl;have h0:=hf 0 f0 rfl;rw[o0,z0,bU (show 0<xs.length by omega)]at h0;obtain⟨a0,k0,b0⟩:=r0 (by subst gL;exact hF) h0;have h1:=hf 1 f1 rfl;rw[o1,z1,bU (show 1<xs.length by omega)]at h1;obtain⟨a1,k1,b1⟩:=r1 (by subst gL;exact hF) h1;have h2:=hf 2 f2 rfl;rw[o2,z2,bU (show 2<xs.length by omega)]at h2;obtain⟨a2,k2,b2⟩:=r2 (by subst gL;exact hF) h2;have h3:=hf 3 f3 rfl;rw[o3,z3,bU (show 3<xs.length by omega)]at h3;obtain⟨a3,k3,b3⟩:=r3 (by subst gL;exact hF) h3;have h4:=hf 4 f4 rfl;rw[o4,z4,bU (show 4<xs.length by omega)]at h4;obtain⟨a4,k4,b4⟩:=r4 (by subst gL;exact hF) h4;rw[Fb cs (c0.size+c1.size+c2.size+c3.size) c4.size (by omega)]at k4;refine⟨(a0,(a1,(a2,(a3,a4)))),?_,?_⟩
 ·exact⟨by simpa using k0,⟨by simpa [kC,jI]using k1,⟨by simpa [kC,jI]using k2,⟨by simpa [kC,jI]using k3,(by simpa [kC,jI]using k4)⟩⟩⟩⟩
 ·subst dB;simp only[Rows.uptoBulk,Du,dw.pair]
  have hs:(V4 Rows.uptoBulk (xs.map (·.1))).sum=Rows.uptoBulk xs[0].1+(Rows.uptoBulk xs[1].1+(Rows.uptoBulk xs[2].1+(Rows.uptoBulk xs[3].1+(Rows.uptoBulk xs[4].1)))):=by obtain⟨x0,x1,x2,x3,x4,rfl⟩:=alB xs hxl;simp
  rw[hs];exact Zf (kT b0 (kT b1 (kT b2 (kT b3 b4))))
theorem alC{α:Type}(l:List α)(h:l.length=6):∃x0 x1 x2 x3 x4 x5,l=[x0,x1,x2,x3,x4,x5]:=by
 match l,h with
 |[x0,x1,x2,x3,x4,x5],_=>exact⟨x0,x1,x2,x3,x4,x5,rfl⟩
theorem alb{F:Nat->Prop}{P:Program}{yc qK uo yf zn NH:Type}{t:TypeId}{f0 f1 f2 f3 f4 f5:Field}{c0:dw yc}{c1:dw qK}{c2:dw uo}{c3:dw yf}{c4:dw zn}{c5:dw NH}(ht:P.underlying t=δ (.struct #[f0,f1,f2,f3,f4,f5]))(hz:P.cellsOf t=c0.size+c1.size+c2.size+c3.size+c4.size+c5.size)(o0:f0.offset=0)(o1:f1.offset=c0.size)(o2:f2.offset=c0.size+c1.size)(o3:f3.offset=c0.size+c1.size+c2.size)(o4:f4.offset=c0.size+c1.size+c2.size+c3.size)(o5:f5.offset=c0.size+c1.size+c2.size+c3.size+c4.size)(z0:P.cellsOf f0.type=c0.size)(z1:P.cellsOf f1.type=c1.size)(z2:P.cellsOf f2.type=c2.size)(z3:P.cellsOf f3.type=c3.size)(z4:P.cellsOf f4.type=c4.size)(z5:P.cellsOf f5.type=c5.size)(r0:fP (λm=>F (m+1)) P c0 f0.type) (r1:fP (λm=>F (m+1)) P c1 f1.type) (r2:fP (λm=>F (m+1)) P c2 f2.type) (r3:fP (λm=>F (m+1)) P c3 f3.type) (r4:fP (λm=>F (m+1)) P c4 f4.type) (r5:fP (λm=>F (m+1)) P c5 f5.type):fP F P (c0.pair (c1.pair (c2.pair (c3.pair (c4.pair c5))))) t:=by
 intro H enc w base spare held fuel cs x hF h;obtain⟨xs,m,gL,dB,hlen,hxl,hf⟩:=X0 ht h;rw[hz]at hlen;have hxl:xs.length=6:=hxl;have h0:=hf 0 f0 rfl;rw[o0,z0,bU (show 0<xs.length by omega)]at h0;obtain⟨a0,k0,b0⟩:=r0 (by subst gL;exact hF) h0;have h1:=hf 1 f1 rfl;rw[o1,z1,bU (show 1<xs.length by omega)]at h1;obtain⟨a1,k1,b1⟩:=r1 (by subst gL;exact hF) h1;have h2:=hf 2 f2 rfl;rw[o2,z2,bU (show 2<xs.length by omega)]at h2;obtain⟨a2,k2,b2⟩:=r2 (by subst gL;exact hF) h2;have h3:=hf 3 f3 rfl;rw[o3,z3,bU (show 3<xs.length by omega)]at h3;obtain⟨a3,k3,b3⟩:=r3 (by subst gL;exact hF) h3;have h4:=hf 4 f4 rfl;rw[o4,z4,bU (show 4<xs.length by omega)]at h4;obtain⟨a4,k4,b4⟩:=r4 (by subst gL;exact hF) h4;have h5:=hf 5 f5 rfl;rw[o5,z5,bU (show 5<xs.length by omega)]at h5;obtain⟨a5,k5,b5⟩:=r5 (by subst gL;exact hF) h5;rw[Fb cs (c0.size+c1.size+c2.size+c3.size+c4.size) c5.size (by omega)]at k5;refine⟨(a0,(a1,(a2,(a3,(a4,a5))))),?_,?_⟩
 ·exact⟨by simpa using k0,⟨by simpa [kC,jI]using k1,⟨by simpa [kC,jI]using k2,⟨by simpa [kC,jI]using k3,⟨by simpa [kC,jI]using k4,(by simpa [kC,jI]using k5)⟩⟩⟩⟩⟩
 ·subst dB;simp only[Rows.uptoBulk,Du,dw.pair]
  have hs:(V4 Rows.uptoBulk (xs.map (·.1))).sum=Rows.uptoBulk xs[0].1+(Rows.uptoBulk xs[1].1+(Rows.uptoBulk xs[2].1+(Rows.uptoBulk xs[3].1+(Rows.uptoBulk xs[4].1+(Rows.uptoBulk xs[5].1))))):=by obtain⟨x0,x1,x2,x3,x4,x5,rfl⟩:=alC xs hxl;simp
  rw[hs];exact Zf (kT b0 (kT b1 (kT b2 (kT b3 (kT b4 b5)))))
theorem alD{α:Type}(l:List α)(h:l.length=7):∃x0 x1 x2 x3 x4 x5 x6,l=[x0,x1,x2,x3,x4,x5,x6]:=by
 match l,h with
 |[x0,x1,x2,x3,x4,x5,x6],_=>exact⟨x0,x1,x2,x3,x4,x5,x6,rfl⟩
theorem alc{F:Nat->Prop}{P:Program}{yc qK uo yf zn NH Z4:Type}{t:TypeId}{f0 f1 f2 f3 f4 f5 f6:Field}{c0:dw yc}{c1:dw qK}{c2:dw uo}{c3:dw yf}{c4:dw zn}{c5:dw NH}{c6:dw Z4}(ht:P.underlying t=δ (.struct #[f0,f1,f2,f3,f4,f5,f6]))(hz:P.cellsOf t=c0.size+c1.size+c2.size+c3.size+c4.size+c5.size+c6.size)(o0:f0.offset=0)(o1:f1.offset=c0.size)(o2:f2.offset=c0.size+c1.size)(o3:f3.offset=c0.size+c1.size+c2.size)(o4:f4.offset=c0.size+c1.size+c2.size+c3.size)(o5:f5.offset=c0.size+c1.size+c2.size+c3.size+c4.size)(o6:f6.offset=c0.size+c1.size+c2.size+c3.size+c4.size+c5.size)(z0:P.cellsOf f0.type=c0.size)(z1:P.cellsOf f1.type=c1.size)(z2:P.cellsOf f2.type=c2.size)(z3:P.cellsOf f3.type=c3.size)(z4:P.cellsOf f4.type=c4.size)(z5:P.cellsOf f5.type=c5.size)(z6:P.cellsOf f6.type=c6.size)(r0:fP (λm=>F (m+1)) P c0 f0.type) (r1:fP (λm=>F (m+1)) P c1 f1.type) (r2:fP (λm=>F (m+1)) P c2 f2.type) (r3:fP (λm=>F (m+1)) P c3 f3.type) (r4:fP (λm=>F (m+1)) P c4 f4.type) (r5:fP (λm=>F (m+1)) P c5 f5.type) (r6:fP (λm=>F (m+1)) P c6 f6.type):fP F P (c0.pair (c1.pair (c2.pair (c3.pair (c4.pair (c5.pair c6)))))) t:=by
 intro H enc w base spare held fuel cs x hF h;obtain⟨xs,m,gL,dB,hlen,hxl,hf⟩:=X0 ht h;rw[hz]at hlen;have hxl:xs.length=7:=hxl;have h0:=hf 0 f0 rfl;rw[o0,z0,bU (show 0<xs.length by omega)]at h0;obtain⟨a0,k0,b0⟩:=r0 (by subst gL;exact hF) h0;have h1:=hf 1 f1 rfl;rw[o1,z1,bU (show 1<xs.length by omega)]at h1;obtain⟨a1,k1,b1⟩:=r1 (by subst gL;exact hF) h1;have h2:=hf 2 f2 rfl;rw[o2,z2,bU (show 2<xs.length by omega)]at h2;obtain⟨a2,k2,b2⟩:=r2 (by subst gL;exact hF) h2;have h3:=hf 3 f3 rfl;rw[o3,z3,bU (show 3<xs.length by omega)]at h3;obtain⟨a3,k3,b3⟩:=r3 (by subst gL;exact hF) h3;have h4:=hf 4 f4 rfl;rw[o4,z4,bU (show 4<xs.length by omega)]at h4;obtain⟨a4,k4,b4⟩:=r4 (by subst gL;exact hF) h4;have h5:=hf 5 f5 rfl;rw[o5,z5,bU (show 5<xs.length by omega)]at h5;obtain⟨a5,k5,b5⟩:=r5 (by subst gL;exact hF) h5;have h6:=hf 6 f6 rfl;rw[o6,z6,bU (show 6<xs.length by omega)]at h6;obtain⟨a6,k6,b6⟩:=r6 (by subst gL;exact hF) h6;rw[Fb cs (c0.size+c1.size+c2.size+c3.size+c4.size+c5.size) c6.size (by omega)]at k6;refine⟨(a0,(a1,(a2,(a3,(a4,(a5,a6)))))),?_,?_⟩
 ·exact⟨by simpa using k0,⟨by simpa [kC,jI]using k1,⟨by simpa [kC,jI]using k2,⟨by simpa [kC,jI]using k3,⟨by simpa [kC,jI]using k4,⟨by simpa [kC,jI]using k5,(by simpa [kC,jI]using k6)⟩⟩⟩⟩⟩⟩
 ·subst dB;simp only[Rows.uptoBulk,Du,dw.pair]
  have hs:(V4 Rows.uptoBulk (xs.map (·.1))).sum=Rows.uptoBulk xs[0].1+(Rows.uptoBulk xs[1].1+(Rows.uptoBulk xs[2].1+(Rows.uptoBulk xs[3].1+(Rows.uptoBulk xs[4].1+(Rows.uptoBulk xs[5].1+(Rows.uptoBulk xs[6].1)))))):=by obtain⟨x0,x1,x2,x3,x4,x5,x6,rfl⟩:=alD xs hxl;simp
  rw[hs];exact Zf (kT b0 (kT b1 (kT b2 (kT b3 (kT b4 (kT b5 b6))))))
theorem ak5{α:Type}(l:List α)(h:l.length=10):∃x0 x1 x2 x3 x4 x5 x6 x7 x8 x9,l=[x0,x1,x2,x3,x4,x5,x6,x7,x8,x9]:=by
 match l,h with
 |[x0,x1,x2,x3,x4,x5,x6,x7,x8,x9],_=>exact⟨x0,x1,x2,x3,x4,x5,x6,x7,x8,x9,rfl⟩
theorem akM{F:Nat->Prop}{P:Program}{yc qK uo yf zn NH Z4 α7 α8 α9:Type}{t:TypeId}{f0 f1 f2 f3 f4 f5 f6 f7 f8 f9:Field}{c0:dw yc}{c1:dw qK}{c2:dw uo}{c3:dw yf}{c4:dw zn}{c5:dw NH}{c6:dw Z4}{c7:dw α7}{c8:dw α8}{c9:dw α9}(ht:P.underlying t=δ (.struct #[f0,f1,f2,f3,f4,f5,f6,f7,f8,f9]))(hz:P.cellsOf t=c0.size+c1.size+c2.size+c3.size+c4.size+c5.size+c6.size+c7.size+c8.size+c9.size)(o0:f0.offset=0)(o1:f1.offset=c0.size)(o2:f2.offset=c0.size+c1.size)(o3:f3.offset=c0.size+c1.size+c2.size)(o4:f4.offset=c0.size+c1.size+c2.size+c3.size)(o5:f5.offset=c0.size+c1.size+c2.size+c3.size+c4.size)(o6:f6.offset=c0.size+c1.size+c2.size+c3.size+c4.size+c5.size)(o7:f7.offset=c0.size+c1.size+c2.size+c3.size+c4.size+c5.size+c6.size)(o8:f8.offset=c0.size+c1.size+c2.size+c3.size+c4.size+c5.size+c6.size+c7.size)(o9:f9.offset=c0.size+c1.size+c2.size+c3.size+c4.size+c5.size+c6.size+c7.size+c8.size)(z0:P.cellsOf f0.type=c0.size)(z1:P.cellsOf f1.type=c1.size)(z2:P.cellsOf f2.type=c2.size)(z3:P.cellsOf f3.type=c3.size)(z4:P.cellsOf f4.type=c4.size)(z5:P.cellsOf f5.type=c5.size)(z6:P.cellsOf f6.type=c6.size)(z7:P.cellsOf f7.type=c7.size)(z8:P.cellsOf f8.type=c8.size)(z9:P.cellsOf f9.type=c9.size)(r0:fP (λm=>F (m+1)) P c0 f0.type) (r1:fP (λm=>F (m+1)) P c1 f1.type) (r2:fP (λm=>F (m+1)) P c2 f2.type) (r3:fP (λm=>F (m+1)) P c3 f3.type) (r4:fP (λm=>F (m+1)) P c4 f4.type) (r5:fP (λm=>F (m+1)) P c5 f5.type) (r6:fP (λm=>F (m+1)) P c6 f6.type) (r7:fP (λm=>F (m+1)) P c7 f7.type) (r8:fP (λm=>F (m+1)) P c8 f8.type) (r9:fP (λm=>F (m+1)) P c9 f9.type):fP F P (c0.pair (c1.pair (c2.pair (c3.pair (c4.pair (c5.pair (c6.pair (c7.pair (c8.pair c9))))))))) t:=by
 intro H enc w base spare held fuel cs x hF h;obtain⟨xs,m,gL,dB,hlen,hxl,hf⟩:=X0 ht h;rw[hz]at hlen;have hxl:xs.length=10:=hxl;have h0:=hf 0 f0 rfl;rw[o0,z0,bU (show 0<xs.length by omega)]at h0;obtain⟨a0,k0,b0⟩:=r0 (by subst gL;exact hF) h0;have h1:=hf 1 f1 rfl;rw[o1,z1,bU (show 1<xs.length by omega)]at h1;obtain⟨a1,k1,b1⟩:=r1 (by subst gL;exact hF) h1;have h2:=hf 2 f2 rfl;rw[o2,z2,bU (show 2<xs.length by omega)]at h2;obtain⟨a2,k2,b2⟩:=r2 (by subst gL;exact hF) h2;have h3:=hf 3 f3 rfl;rw[o3,z3,bU (show 3<xs.length by omega)]at h3;obtain⟨a3,k3,b3⟩:=r3 (by subst gL;exact hF) h3;have h4:=hf 4 f4 rfl;rw[o4,z4,bU (show 4<xs.length by omega)]at h4;obtain⟨a4,k4,b4⟩:=r4 (by subst gL;exact hF) h4;have h5:=hf 5 f5 rfl;rw[o5,z5,bU (show 5<xs.length by omega)]at h5;obtain⟨a5,k5,b5⟩:=r5 (by subst gL;exact hF) h5;have h6:=hf 6 f6 rfl;rw[o6,z6,bU (show 6<xs.length by omega)]at h6;obtain⟨a6,k6,b6⟩:=r6 (by subst gL;exact hF) h6;have h7:=hf 7 f7 rfl;rw[o7,z7,bU (show 7<xs.length by omega)]at h7;obtain⟨a7,k7,b7⟩:=r7 (by subst gL;exact hF) h7;have h8:=hf 8 f8 rfl;rw[o8,z8,bU (show 8<xs.length by omega)]at h8;obtain⟨a8,k8,b8⟩:=r8 (by subst gL;exact hF) h8;have h9:=hf 9 f9 rfl;rw[o9,z9,bU (show 9<xs.length by omega)]at h9;obtain⟨a9,k9,b9⟩:=r9 (by subst gL;exact hF) h9;rw[Fb cs (c0.size+c1.size+c2.size+c3.size+c4.size+c5.size+c6.size+c7.size+c8.size) c9.size (by omega)]at k9;refine⟨(a0,(a1,(a2,(a3,(a4,(a5,(a6,(a7,(a8,a9))))))))),?_,?_⟩
 ·exact⟨by simpa using k0,⟨by simpa [kC,jI]using k1,⟨by simpa [kC,jI]using k2,⟨by simpa [kC,jI]using k3,⟨by simpa [kC,jI]using k4,⟨by simpa [kC,jI]using k5,⟨by simpa [kC,jI]using k6,⟨by simpa [kC,jI]using k7,⟨by simpa [kC,jI]using k8,(by simpa [kC,jI]using k9)⟩⟩⟩⟩⟩⟩⟩⟩⟩
 ·subst dB;simp only[Rows.uptoBulk,Du,dw.pair]
  have hs:(V4 Rows.uptoBulk (xs.map (·.1))).sum=Rows.uptoBulk xs[0].1+(Rows.uptoBulk xs[1].1+(Rows.uptoBulk xs[2].1+(Rows.uptoBulk xs[3].1+(Rows.uptoBulk xs[4].1+(Rows.uptoBulk xs[5].1+(Rows.uptoBulk xs[6].1+(Rows.uptoBulk xs[7].1+(Rows.uptoBulk xs[8].1+(Rows.uptoBulk xs[9].1))))))))):=by obtain⟨x0,x1,x2,x3,x4,x5,x6,x7,x8,x9,rfl⟩:=ak5 xs hxl;simp
  rw[hs];exact Zf (kT b0 (kT b1 (kT b2 (kT b3 (kT b4 (kT b5 (kT b6 (kT b7 (kT b8 b9)))))))))
end
section
open Go.RowKit Go.Deep
theorem fP.imp{F:Nat->Prop}{P:Program}{α β:Type}{c:dw α}{d:dw β}{t:TypeId}(h:fP F P c t)(k:∀w cs a,c.is w cs a->∃b,d.is w cs b/\d.cC b<=c.cC a):fP F P d t:=by intro H enc w base spare held fuel cs x hF h1;obtain⟨a,ha,hb⟩:=h hF h1;obtain⟨b,h2,h3⟩:=k _ _ _ ha;exact⟨b,h2,X8 h3 hb⟩
theorem gC{α:Type}{cs a b:List α}{n:Nat}(h1:cs.take n=a)(h2:cs.drop n=b):cs=a++b:=by rw[<-h1,<-h2,Wb]
def zP:dw mS where
 size:=2
 is:=λw cs x=>cs=[.int θ x.time,.int θ x.way]/\aU x.time/\aU x.way
 len:=λh=>by obtain⟨rfl,_⟩:=h;rfl
 mono:=λh _=>h
 cC:=λx=>dP.cC x.time+(dP.cC x.way)
theorem amt:Reads Tryz.prog zP 111:=
 (Dq (F:=λ_=>True) Tryz.underlying111 (c0:=dP) (c1:=dP) (by kernel_rfl) rfl rfl (by kernel_rfl) (by kernel_rfl) (jy Tryz.underlying3) (jy Tryz.underlying3)).imp λw cs a h=>by obtain⟨a0,a1⟩:=a;obtain⟨h0,h1⟩:=h;obtain⟨e0,b0⟩:=h0;obtain⟨e1,b1⟩:=h1;have jK:=gC e0 e1;exact⟨⟨a0,a1⟩,⟨by rw[jK];rfl,b0,b1⟩,bF _⟩
theorem alL:Reads Tryz.prog (dG zP) 65:=yg Tryz.underlying65 (c:=zP) (by kernel_rfl) (by decide) amt
def aBi:dw rR where
 size:=2
 is:=λw cs x=>∃v0:Value,cs=[.int θ x.kind,v0]/\aU x.kind/\(dG zP).is w [v0] x.bV
 len:=λh=>by obtain⟨v0,rfl,_⟩:=h;rfl
 mono:=λ{w w' cs x}h g=>by obtain⟨v0,e,h0,h1⟩:=h;exact⟨v0,e,h0,((dG zP)).mono h1 g⟩
 cC:=λx=>dP.cC x.kind+((dG zP).cC x.bV)
theorem amo:Reads Tryz.prog aBi 67:=
 (Dq (F:=λ_=>True) Tryz.underlying67 (c0:=dP) (c1:=(dG zP)) (by kernel_rfl) rfl rfl (by kernel_rfl) (by kernel_rfl) (jy Tryz.underlying3) alL).imp λw cs a h=>by obtain⟨a0,a1⟩:=a;obtain⟨h0,h1⟩:=h;obtain⟨e0,b0⟩:=h0;obtain⟨s1,e1⟩:=uC.1 (((dG zP)).len h1);rw[e1]at h1;have jK:=gC e0 e1;exact⟨⟨a0,a1⟩,⟨s1,by rw[jK];rfl,b0,h1⟩,bF _⟩
def B7:dw qU where
 size:=3
 is:=λw cs x=>cs=[.int θ x.low,.int θ x.high,.string x.name]/\aU x.low/\aU x.high/\x.name.size<=maxLen
 len:=λh=>by obtain⟨rfl,_⟩:=h;rfl
 mono:=λh _=>h
 cC:=λx=>dP.cC x.low+(dP.cC x.high+(tV.cC x.name))
theorem amu:Reads Tryz.prog B7 156:=
 (OD (F:=λ_=>True) Tryz.underlying156 (c0:=dP) (c1:=dP) (c2:=tV) (by kernel_rfl) rfl rfl rfl (by kernel_rfl) (by kernel_rfl) (by kernel_rfl) (jy Tryz.underlying3) (jy Tryz.underlying3) (Fm Tryz.underlying9)).imp λw cs a h=>by obtain⟨a0,a1,a2⟩:=a;obtain⟨h0,h1,h2⟩:=h;obtain⟨e0,b0⟩:=h0;obtain⟨e1,b1⟩:=h1;obtain⟨e2,b2⟩:=h2;have qq:=gC e1 e2;have jK:=gC e0 qq;exact⟨⟨a0,a1,a2⟩,⟨by rw[jK];rfl,b0,b1,b2⟩,bF _⟩
theorem alN:Reads Tryz.prog (dG B7) 130:=yg Tryz.underlying130 (c:=B7) (by kernel_rfl) (by decide) amu
def B6:dw fO where
 size:=7
 is:=λw cs x=>∃v0:Value,cs=[.string x.name,.int θ x.group,.int θ x.ep,.int θ x.nV,.int θ x.default,.bool x.snap,v0]/\x.name.size<=maxLen/\aU x.group/\aU x.ep/\aU x.nV/\aU x.default/\(dG B7).is w [v0] x.ranges
 len:=λh=>by obtain⟨v0,rfl,_⟩:=h;rfl
 mono:=λ{w w' cs x}h g=>by obtain⟨v0,e,h0,h1,h2,h3,h4,h5⟩:=h;exact⟨v0,e,h0,h1,h2,h3,h4,((dG B7)).mono h5 g⟩
 cC:=λx=>tV.cC x.name+(dP.cC x.group+(dP.cC x.ep+(dP.cC x.nV+(dP.cC x.default+(wY.cC x.snap+((dG B7).cC x.ranges))))))
theorem ams:Reads Tryz.prog B6 132:=
 (alc (F:=λ_=>True) Tryz.underlying132 (c0:=tV) (c1:=dP) (c2:=dP) (c3:=dP) (c4:=dP) (c5:=wY) (c6:=(dG B7)) (by kernel_rfl) rfl rfl rfl rfl rfl rfl rfl (by kernel_rfl) (by kernel_rfl) (by kernel_rfl) (by kernel_rfl) (by kernel_rfl) (by kernel_rfl) (by kernel_rfl) (Fm Tryz.underlying9) (jy Tryz.underlying3) (jy Tryz.underlying3) (jy Tryz.underlying3) (jy Tryz.underlying3) (O3 Tryz.underlying4) alN).imp λw cs a h=>by obtain⟨a0,a1,a2,a3,a4,a5,a6⟩:=a;obtain⟨h0,h1,h2,h3,h4,h5,h6⟩:=h;obtain⟨e0,b0⟩:=h0;obtain⟨e1,b1⟩:=h1;obtain⟨e2,b2⟩:=h2;obtain⟨e3,b3⟩:=h3;obtain⟨e4,b4⟩:=h4;have e5:=h5;simp only[wY]at e5;obtain⟨s6,e6⟩:=uC.1 (((dG B7)).len h6);rw[e6]at h6;have Xr:=gC e5 e6;have Me:=gC e4 Xr;have F6:=gC e3 Me;have Aa:=gC e2 F6;have qq:=gC e1 Aa;have jK:=gC e0 qq;exact⟨⟨a0,a1,a2,a3,a4,a5,a6⟩,⟨s6,by rw[jK];rfl,b0,b1,b2,b3,b4,h6⟩,bF _⟩
theorem alK:Reads Tryz.prog (dG B6) 125:=yg Tryz.underlying125 (c:=B6) (by kernel_rfl) (by decide) ams
def zJ:dw eA where
 size:=3
 is:=λw cs x=>∃v0:Value,cs=[.string x.name,.int θ x.size,v0]/\x.name.size<=maxLen/\aU x.size/\(dG B6).is w [v0] x.params
 len:=λh=>by obtain⟨v0,rfl,_⟩:=h;rfl
 mono:=λ{w w' cs x}h g=>by obtain⟨v0,e,h0,h1,h2⟩:=h;exact⟨v0,e,h0,h1,((dG B6)).mono h2 g⟩
 cC:=λx=>tV.cC x.name+(dP.cC x.size+((dG B6).cC x.params))
theorem ak8:Reads Tryz.prog zJ 127:=
 (OD (F:=λ_=>True) Tryz.underlying127 (c0:=tV) (c1:=dP) (c2:=(dG B6)) (by kernel_rfl) rfl rfl rfl (by kernel_rfl) (by kernel_rfl) (by kernel_rfl) (Fm Tryz.underlying9) (jy Tryz.underlying3) alK).imp λw cs a h=>by obtain⟨a0,a1,a2⟩:=a;obtain⟨h0,h1,h2⟩:=h;obtain⟨e0,b0⟩:=h0;obtain⟨e1,b1⟩:=h1;obtain⟨s2,e2⟩:=uC.1 (((dG B6)).len h2);rw[e2]at h2;have qq:=gC e1 e2;have jK:=gC e0 qq;exact⟨⟨a0,a1,a2⟩,⟨s2,by rw[jK];rfl,b0,b1,h2⟩,bF _⟩
theorem akK:Reads Tryz.prog (dG zJ) 22:=yg Tryz.underlying22 (c:=zJ) (by kernel_rfl) (by decide) ak8
def zU:dw jk where
 size:=4
 is:=λw cs x=>cs=[.int θ x.au,.string x.jX,.int θ x.univ,.int θ x.address]/\aU x.au/\x.jX.size<=maxLen/\aU x.univ/\aU x.address
 len:=λh=>by obtain⟨rfl,_⟩:=h;rfl
 mono:=λh _=>h
 cC:=λx=>dP.cC x.au+(tV.cC x.jX+(dP.cC x.univ+(dP.cC x.address)))
theorem anQ:Reads Tryz.prog zU 129:=
 (aa9 (F:=λ_=>True) Tryz.underlying129 (c0:=dP) (c1:=tV) (c2:=dP) (c3:=dP) (by kernel_rfl) rfl rfl rfl rfl (by kernel_rfl) (by kernel_rfl) (by kernel_rfl) (by kernel_rfl) (jy Tryz.underlying3) (Fm Tryz.underlying9) (jy Tryz.underlying3) (jy Tryz.underlying3)).imp λw cs a h=>by obtain⟨a0,a1,a2,a3⟩:=a;obtain⟨h0,h1,h2,h3⟩:=h;obtain⟨e0,b0⟩:=h0;obtain⟨e1,b1⟩:=h1;obtain⟨e2,b2⟩:=h2;obtain⟨e3,b3⟩:=h3;have Aa:=gC e2 e3;have qq:=gC e1 Aa;have jK:=gC e0 qq;exact⟨⟨a0,a1,a2,a3⟩,⟨by rw[jK];rfl,b0,b1,b2,b3⟩,bF _⟩
theorem amw:Reads Tryz.prog (dG zU) 23:=yg Tryz.underlying23 (c:=zU) (by kernel_rfl) (by decide) anQ
def X6:dw iH where
 size:=2
 is:=λw cs x=>∃v0 v1:Value,cs=[v0,v1]/\(dG zJ).is w [v0] x.bA/\(dG zU).is w [v1] x.dK
 len:=λh=>by obtain⟨v0,v1,rfl,_⟩:=h;rfl
 mono:=λ{w w' cs x}h g=>by obtain⟨v0,v1,e,h0,h1⟩:=h;exact⟨v0,v1,e,((dG zJ)).mono h0 g,((dG zU)).mono h1 g⟩
 cC:=λx=>(dG zJ).cC x.bA+((dG zU).cC x.dK)
theorem api:Reads Tryz.prog X6 25:=
 (Dq (F:=λ_=>True) Tryz.underlying25 (c0:=(dG zJ)) (c1:=(dG zU)) (by kernel_rfl) rfl rfl (by kernel_rfl) (by kernel_rfl) akK amw).imp λw cs a h=>by obtain⟨a0,a1⟩:=a;obtain⟨h0,h1⟩:=h;obtain⟨s0,e0⟩:=uC.1 (((dG zJ)).len h0);rw[e0]at h0;obtain⟨s1,e1⟩:=uC.1 (((dG zU)).len h1);rw[e1]at h1;have jK:=gC e0 e1;exact⟨⟨a0,a1⟩,⟨s0,s1,by rw[jK];rfl,h0,h1⟩,bF _⟩
def Mp:dw aI where
 size:=2
 is:=λw cs x=>cs=[.int θ x.unit,.string x.param]/\aU x.unit/\x.param.size<=maxLen
 len:=λh=>by obtain⟨rfl,_⟩:=h;rfl
 mono:=λh _=>h
 cC:=λx=>dP.cC x.unit+(tV.cC x.param)
theorem adz:Reads Tryz.prog Mp 97:=
 (Dq (F:=λ_=>True) Tryz.underlying97 (c0:=dP) (c1:=tV) (by kernel_rfl) rfl rfl (by kernel_rfl) (by kernel_rfl) (jy Tryz.underlying3) (Fm Tryz.underlying9)).imp λw cs a h=>by obtain⟨a0,a1⟩:=a;obtain⟨h0,h1⟩:=h;obtain⟨e0,b0⟩:=h0;obtain⟨e1,b1⟩:=h1;have jK:=gC e0 e1;exact⟨⟨a0,a1⟩,⟨by rw[jK];rfl,b0,b1⟩,bF _⟩
def BR:dw zC where
 size:=3
 is:=λw cs x=>cs=[.int θ x.key.unit,.string x.key.param,.int θ x.level]/\aU x.key.unit/\x.key.param.size<=maxLen/\aU x.level
 len:=λh=>by obtain⟨rfl,_⟩:=h;rfl
 mono:=λh _=>h
 cC:=λx=>Mp.cC x.key+(dP.cC x.level)
theorem ak9:Reads Tryz.prog BR 162:=
 (Dq (F:=λ_=>True) Tryz.underlying162 (c0:=Mp) (c1:=dP) (by kernel_rfl) rfl rfl (by kernel_rfl) (by kernel_rfl) adz (jy Tryz.underlying3)).imp λw cs a h=>by obtain⟨a0,a1⟩:=a;obtain⟨h0,h1⟩:=h;obtain⟨e0,b0⟩:=h0;obtain⟨LP,LQ⟩:=b0;obtain⟨e1,b1⟩:=h1;have jK:=gC e0 e1;exact⟨⟨a0,a1⟩,⟨by rw[jK];rfl,LP,LQ,b1⟩,bF _⟩
theorem akL:Reads Tryz.prog (dG BR) 157:=yg Tryz.underlying157 (c:=BR) (by kernel_rfl) (by decide) ak9
def BX:dw lF where
 size:=3
 is:=λw cs x=>∃v0:Value,cs=[.int θ x.au,.string x.title,v0]/\aU x.au/\x.title.size<=maxLen/\(dG BR).is w [v0] x.kZ
 len:=λh=>by obtain⟨v0,rfl,_⟩:=h;rfl
 mono:=λ{w w' cs x}h g=>by obtain⟨v0,e,h0,h1,h2⟩:=h;exact⟨v0,e,h0,h1,((dG BR)).mono h2 g⟩
 cC:=λx=>dP.cC x.au+(tV.cC x.title+((dG BR).cC x.kZ))
theorem alM:Reads Tryz.prog BX 159:=
 (OD (F:=λ_=>True) Tryz.underlying159 (c0:=dP) (c1:=tV) (c2:=(dG BR)) (by kernel_rfl) rfl rfl rfl (by kernel_rfl) (by kernel_rfl) (by kernel_rfl) (jy Tryz.underlying3) (Fm Tryz.underlying9) akL).imp λw cs a h=>by obtain⟨a0,a1,a2⟩:=a;obtain⟨h0,h1,h2⟩:=h;obtain⟨e0,b0⟩:=h0;obtain⟨e1,b1⟩:=h1;obtain⟨s2,e2⟩:=uC.1 (((dG BR)).len h2);rw[e2]at h2;have qq:=gC e1 e2;have jK:=gC e0 qq;exact⟨⟨a0,a1,a2⟩,⟨s2,by rw[jK];rfl,b0,b1,h2⟩,bF _⟩
theorem ak7:Reads Tryz.prog (dG BX) 26:=yg Tryz.underlying26 (c:=BX) (by kernel_rfl) (by decide) alM
def Wj:dw nP where
 size:=2
 is:=λw cs x=>cs=[.int θ x.level,.int θ x.iw]/\aU x.level/\aU x.iw
 len:=λh=>by obtain⟨rfl,_⟩:=h;rfl
 mono:=λh _=>h
 cC:=λx=>dP.cC x.level+(dP.cC x.iw)
theorem amx:Reads Tryz.prog Wj 167:=
 (Dq (F:=λ_=>True) Tryz.underlying167 (c0:=dP) (c1:=dP) (by kernel_rfl) rfl rfl (by kernel_rfl) (by kernel_rfl) (jy Tryz.underlying3) (jy Tryz.underlying3)).imp λw cs a h=>by obtain⟨a0,a1⟩:=a;obtain⟨h0,h1⟩:=h;obtain⟨e0,b0⟩:=h0;obtain⟨e1,b1⟩:=h1;have jK:=gC e0 e1;exact⟨⟨a0,a1⟩,⟨by rw[jK];rfl,b0,b1⟩,bF _⟩
def Ci:dw gz where
 size:=8
 is:=λw cs x=>cs=[.int θ x.key.unit,.string x.key.param,.int θ x.value.level,.int θ x.value.iw,.bool x.release,.bool x.Bb,.int θ x.cI,.int θ x.time]/\aU x.key.unit/\x.key.param.size<=maxLen/\aU x.value.level/\aU x.value.iw/\aU x.cI/\aU x.time
 len:=λh=>by obtain⟨rfl,_⟩:=h;rfl
 mono:=λh _=>h
 cC:=λx=>Mp.cC x.key+(Wj.cC x.value+(wY.cC x.release+(wY.cC x.Bb+(dP.cC x.cI+(dP.cC x.time)))))
theorem anP:Reads Tryz.prog Ci 169:=
 (alb (F:=λ_=>True) Tryz.underlying169 (c0:=Mp) (c1:=Wj) (c2:=wY) (c3:=wY) (c4:=dP) (c5:=dP) (by kernel_rfl) rfl rfl rfl rfl rfl rfl (by kernel_rfl) (by kernel_rfl) (by kernel_rfl) (by kernel_rfl) (by kernel_rfl) (by kernel_rfl) adz amx (O3 Tryz.underlying4) (O3 Tryz.underlying4) (jy Tryz.underlying3) (jy Tryz.underlying3)).imp λw cs a h=>by obtain⟨a0,a1,a2,a3,a4,a5⟩:=a;obtain⟨h0,h1,h2,h3,h4,h5⟩:=h;obtain⟨e0,b0⟩:=h0;obtain⟨LP,LQ⟩:=b0;obtain⟨e1,b1⟩:=h1;obtain⟨aA1,WV⟩:=b1;have e2:=h2;simp only[wY]at e2;have e3:=h3;simp only[wY]at e3;obtain⟨e4,b4⟩:=h4;obtain⟨e5,b5⟩:=h5;have Me:=gC e4 e5;have F6:=gC e3 Me;have Aa:=gC e2 F6;have qq:=gC e1 Aa;have jK:=gC e0 qq;exact⟨⟨a0,a1,a2,a3,a4,a5⟩,⟨by rw[jK];rfl,LP,LQ,aA1,WV,b4,b5⟩,bF _⟩
theorem amr:Reads Tryz.prog (dG Ci) 68:=yg Tryz.underlying68 (c:=Ci) (by kernel_rfl) (by decide) anP
def Cr:dw bl where
 size:=11
 is:=λw cs x=>∃v0 v1:Value,cs=[.int θ x.au,.string x.title,.int θ x.cI,.int θ x.up,.int θ x.down,.int θ x.other,.int θ x.fA.kind,v0,.bool x.block,.int θ x.cM,v1]/\aU x.au/\x.title.size<=maxLen/\aU x.cI/\aU x.up/\aU x.down/\aU x.other/\aU x.fA.kind/\(dG zP).is w [v0] x.fA.bV/\aU x.cM/\(dG Ci).is w [v1] x.ef
 len:=λh=>by obtain⟨v0,v1,rfl,_⟩:=h;rfl
 mono:=λ{w w' cs x}h g=>by obtain⟨v0,v1,e,h0,h1,h2,h3,h4,h5,h6,h7,h8,h9⟩:=h;exact⟨v0,v1,e,h0,h1,h2,h3,h4,h5,h6,((dG zP)).mono h7 g,h8,((dG Ci)).mono h9 g⟩
 cC:=λx=>dP.cC x.au+(tV.cC x.title+(dP.cC x.cI+(dP.cC x.up+(dP.cC x.down+(dP.cC x.other+(aBi.cC x.fA+(wY.cC x.block+(dP.cC x.cM+((dG Ci).cC x.ef)))))))))
theorem aph:Reads Tryz.prog Cr 70:=
 (akM (F:=λ_=>True) Tryz.underlying70 (c0:=dP) (c1:=tV) (c2:=dP) (c3:=dP) (c4:=dP) (c5:=dP) (c6:=aBi) (c7:=wY) (c8:=dP) (c9:=(dG Ci)) (by kernel_rfl) rfl rfl rfl rfl rfl rfl rfl rfl rfl rfl (by kernel_rfl) (by kernel_rfl) (by kernel_rfl) (by kernel_rfl) (by kernel_rfl) (by kernel_rfl) (by kernel_rfl) (by kernel_rfl) (by kernel_rfl) (by kernel_rfl) (jy Tryz.underlying3) (Fm Tryz.underlying9) (jy Tryz.underlying3) (jy Tryz.underlying3) (jy Tryz.underlying3) (jy Tryz.underlying3) amo (O3 Tryz.underlying4) (jy Tryz.underlying3) amr).imp λw cs a h=>by obtain⟨a0,a1,a2,a3,a4,a5,a6,a7,a8,a9⟩:=a;obtain⟨h0,h1,h2,h3,h4,h5,h6,h7,h8,h9⟩:=h;obtain⟨e0,b0⟩:=h0;obtain⟨e1,b1⟩:=h1;obtain⟨e2,b2⟩:=h2;obtain⟨e3,b3⟩:=h3;obtain⟨e4,b4⟩:=h4;obtain⟨e5,b5⟩:=h5;obtain⟨axD,e6,b6⟩:=h6;obtain⟨avx,avy⟩:=b6;have e7:=h7;simp only[wY]at e7;obtain⟨e8,b8⟩:=h8;obtain⟨s9,e9⟩:=uC.1 (((dG Ci)).len h9);rw[e9]at h9;have awx:=gC e8 e9;have aww:=gC e7 awx;have awv:=gC e6 aww;have Xr:=gC e5 awv;have Me:=gC e4 Xr;have F6:=gC e3 Me;have Aa:=gC e2 F6;have qq:=gC e1 Aa;have jK:=gC e0 qq;exact⟨⟨a0,a1,a2,a3,a4,a5,a6,a7,a8,a9⟩,⟨axD,s9,by rw[jK];rfl,b0,b1,b2,b3,b4,b5,avx,avy,b8,h9⟩,bF _⟩
theorem anN:Reads Tryz.prog (dG Cr) 62:=yg Tryz.underlying62 (c:=Cr) (by kernel_rfl) (by decide) aph
def Cg:dw jU where
 size:=2
 is:=λw cs x=>∃v0:Value,cs=[.int θ x.au,v0]/\aU x.au/\(dG Cr).is w [v0] x.bg
 len:=λh=>by obtain⟨v0,rfl,_⟩:=h;rfl
 mono:=λ{w w' cs x}h g=>by obtain⟨v0,e,h0,h1⟩:=h;exact⟨v0,e,h0,((dG Cr)).mono h1 g⟩
 cC:=λx=>dP.cC x.au+((dG Cr).cC x.bg)
theorem anO:Reads Tryz.prog Cg 64:=
 (Dq (F:=λ_=>True) Tryz.underlying64 (c0:=dP) (c1:=(dG Cr)) (by kernel_rfl) rfl rfl (by kernel_rfl) (by kernel_rfl) (jy Tryz.underlying3) anN).imp λw cs a h=>by obtain⟨a0,a1⟩:=a;obtain⟨h0,h1⟩:=h;obtain⟨e0,b0⟩:=h0;obtain⟨s1,e1⟩:=uC.1 (((dG Cr)).len h1);rw[e1]at h1;have jK:=gC e0 e1;exact⟨⟨a0,a1⟩,⟨s1,by rw[jK];rfl,b0,h1⟩,bF _⟩
theorem amq:Reads Tryz.prog (dG Cg) 27:=yg Tryz.underlying27 (c:=Cg) (by kernel_rfl) (by decide) anO
def BO:dw iC where
 size:=3
 is:=λw cs x=>cs=[.int θ x.au,.int θ x.list,.int θ x.jT]/\aU x.au/\aU x.list/\aU x.jT
 len:=λh=>by obtain⟨rfl,_⟩:=h;rfl
 mono:=λh _=>h
 cC:=λx=>dP.cC x.au+(dP.cC x.list+(dP.cC x.jT))
theorem akJ:Reads Tryz.prog BO 46:=
 (OD (F:=λ_=>True) Tryz.underlying46 (c0:=dP) (c1:=dP) (c2:=dP) (by kernel_rfl) rfl rfl rfl (by kernel_rfl) (by kernel_rfl) (by kernel_rfl) (jy Tryz.underlying3) (jy Tryz.underlying3) (jy Tryz.underlying3)).imp λw cs a h=>by obtain⟨a0,a1,a2⟩:=a;obtain⟨h0,h1,h2⟩:=h;obtain⟨e0,b0⟩:=h0;obtain⟨e1,b1⟩:=h1;obtain⟨e2,b2⟩:=h2;have qq:=gC e1 e2;have jK:=gC e0 qq;exact⟨⟨a0,a1,a2⟩,⟨by rw[jK];rfl,b0,b1,b2⟩,bF _⟩
theorem akn:Reads Tryz.prog (dG BO) 28:=yg Tryz.underlying28 (c:=BO) (by kernel_rfl) (by decide) akJ
def agz:dw ct where
 size:=5
 is:=λw cs x=>∃v0 v1 v2 v3 v4:Value,cs=[v0,v1,v2,v3,v4]/\(dG zJ).is w [v0] x.bh.bA/\(dG zU).is w [v1] x.bh.dK/\(dG BX).is w [v2] x.cG/\(dG Cg).is w [v3] x.bZ/\(dG BO).is w [v4] x.aS
 len:=λh=>by obtain⟨v0,v1,v2,v3,v4,rfl,_⟩:=h;rfl
 mono:=λ{w w' cs x}h g=>by obtain⟨v0,v1,v2,v3,v4,e,h0,h1,h2,h3,h4⟩:=h;exact⟨v0,v1,v2,v3,v4,e,((dG zJ)).mono h0 g,((dG zU)).mono h1 g,((dG BX)).mono h2 g,((dG Cg)).mono h3 g,((dG BO)).mono h4 g⟩
 cC:=λx=>X6.cC x.bh+((dG BX).cC x.cG+((dG Cg).cC x.bZ+((dG BO).cC x.aS)))
theorem amv:Reads Tryz.prog agz 30:=
 (aa9 (F:=λ_=>True) Tryz.underlying30 (c0:=X6) (c1:=(dG BX)) (c2:=(dG Cg)) (c3:=(dG BO)) (by kernel_rfl) rfl rfl rfl rfl (by kernel_rfl) (by kernel_rfl) (by kernel_rfl) (by kernel_rfl) api ak7 amq akn).imp λw cs a h=>by obtain⟨a0,a1,a2,a3⟩:=a;obtain⟨h0,h1,h2,h3⟩:=h;obtain⟨axA,axB,e0,b0⟩:=h0;obtain⟨LP,LQ⟩:=b0;obtain⟨s1,e1⟩:=uC.1 (((dG BX)).len h1);rw[e1]at h1;obtain⟨s2,e2⟩:=uC.1 (((dG Cg)).len h2);rw[e2]at h2;obtain⟨s3,e3⟩:=uC.1 (((dG BO)).len h3);rw[e3]at h3;have Aa:=gC e2 e3;have qq:=gC e1 Aa;have jK:=gC e0 qq;exact⟨⟨a0,a1,a2,a3⟩,⟨axA,axB,s1,s2,s3,by rw[jK];rfl,LP,LQ,h1,h2,h3⟩,bF _⟩
def aAP:dw cW where
 size:=5
 is:=λw cs x=>cs=[.int θ x.time,.int θ x.kind,.int θ x.gD,.int θ x.bw,.int θ x.level]/\aU x.time/\aU x.kind/\aU x.gD/\aU x.bw/\aU x.level
 len:=λh=>by obtain⟨rfl,_⟩:=h;rfl
 mono:=λh _=>h
 cC:=λx=>dP.cC x.time+(dP.cC x.kind+(dP.cC x.gD+(dP.cC x.bw+(dP.cC x.level))))
theorem alI:Reads Tryz.prog aAP 55:=
 (ala (F:=λ_=>True) Tryz.underlying55 (c0:=dP) (c1:=dP) (c2:=dP) (c3:=dP) (c4:=dP) (by kernel_rfl) rfl rfl rfl rfl rfl (by kernel_rfl) (by kernel_rfl) (by kernel_rfl) (by kernel_rfl) (by kernel_rfl) (jy Tryz.underlying3) (jy Tryz.underlying3) (jy Tryz.underlying3) (jy Tryz.underlying3) (jy Tryz.underlying3)).imp λw cs a h=>by obtain⟨a0,a1,a2,a3,a4⟩:=a;obtain⟨h0,h1,h2,h3,h4⟩:=h;obtain⟨e0,b0⟩:=h0;obtain⟨e1,b1⟩:=h1;obtain⟨e2,b2⟩:=h2;obtain⟨e3,b3⟩:=h3;obtain⟨e4,b4⟩:=h4;have F6:=gC e3 e4;have Aa:=gC e2 F6;have qq:=gC e1 Aa;have jK:=gC e0 qq;exact⟨⟨a0,a1,a2,a3,a4⟩,⟨by rw[jK];rfl,b0,b1,b2,b3,b4⟩,bF _⟩
def Qh:dw cV where
 size:=6
 is:=λw cs x=>cs=[.int θ x.ep,.int θ x.action.time,.int θ x.action.kind,.int θ x.action.gD,.int θ x.action.bw,.int θ x.action.level]/\aU x.ep/\aU x.action.time/\aU x.action.kind/\aU x.action.gD/\aU x.action.bw/\aU x.action.level
 len:=λh=>by obtain⟨rfl,_⟩:=h;rfl
 mono:=λh _=>h
 cC:=λx=>dP.cC x.ep+(aAP.cC x.action)
theorem amp:Reads Tryz.prog Qh 61:=
 (Dq (F:=λ_=>True) Tryz.underlying61 (c0:=dP) (c1:=aAP) (by kernel_rfl) rfl rfl (by kernel_rfl) (by kernel_rfl) (jy Tryz.underlying3) alI).imp λw cs a h=>by obtain⟨a0,a1⟩:=a;obtain⟨h0,h1⟩:=h;obtain⟨e0,b0⟩:=h0;obtain⟨e1,b1⟩:=h1;obtain⟨aA1,WV,avu,avv,avw⟩:=b1;have jK:=gC e0 e1;exact⟨⟨a0,a1⟩,⟨by rw[jK];rfl,b0,aA1,WV,avu,avv,avw⟩,bF _⟩
theorem alJ:Reads Tryz.prog (dG Qh) 31:=yg Tryz.underlying31 (c:=Qh) (by kernel_rfl) (by decide) amp
end
section
open Go.RowKit Go.Deep
section
variable {c : RC}
theorem vC:aR c [] []:=by simp [aR]
theorem eO{a:AV}{v:Value}{l:an}{vs:List Value}(h:aq c a v)(k:aR c l vs):aR c (a::l) (v::vs):=by simp only[aR];exact⟨v,vs,rfl,h,k⟩
theorem iQ(k:IntKind)(n:Int):aq c (.int k n) (.int k n):=by simp [aq]
theorem PD(b:Bool):aq c (.bool b) (.bool b):=by simp [aq]
theorem DK(s:ByteArray):aq c (.str s) (.string s):=by simp [aq]
def RP{α:Type}(c:RC)(d:dw α)(e:α->an)(ok:α->Prop):Prop:=∀cs x,d.is c.w cs x->aR c (e x) cs/\ok x/\(∀v∈cs,fc v=η)
theorem aeD:∀{l:an}{vs:List Value},aR c l vs->l.length=vs.length
 |[],vs,h=>by simp only[aR]at h;subst h;rfl
 |a::l,vs,h=>by simp only[aR]at h;obtain⟨v,vs',rfl,_,h⟩:=h;simp [aeD h]
theorem aeB{b:Nat}:∀{l:an}{vs:List Value}{off:Nat},aR c l vs->(∀v∈vs,fc v=η)->(∀j,j<vs.length->c.w.cell? ⟨b,off+j,ξ⟩=vs[j]?)->bT c b off l
 |[],vs,off,h,_,_=>by simp [bT]
 |a::l,vs,off,h,ho,hc=>by simp only[aR]at h;obtain⟨v,vs',rfl,h1,h2⟩:=h;simp only[bT];refine⟨⟨v,by simpa using hc 0 (by simp),ho v (by simp),h1⟩,aeB h2 (λv hv=>ho v (by simp [hv])) λj hj=>?_⟩;have:=hc (j+1) (by simpa using hj);rw[show off+1+j=off+(j+1) by omega];simpa using this
theorem aeC{α:Type}{d:dw α}{e:α->an}{ok:α->Prop}(H:RP c d e ok){b sz:Nat}(hsz:d.size=sz):∀{l:List α}{off:Nat},(∀(i:Nat)(x:α),l[i]? =δ x->∃cs',(∀j,j<d.size->c.w.cell? ⟨b,off+(i*d.size+j),ξ⟩=cs'[j]?)/\d.is c.w cs' x)->bY c sz b off (l.map e)/\∀x∈l,ok x
 |[],off,h=>by simp [bY]
 |x::l,off,h=>by
  obtain⟨cs,h1,h2⟩:=h 0 x rfl;obtain⟨k1,k2,k3⟩:=H cs x h2;have hl:cs.length=d.size:=d.len h2
  obtain⟨r1,r2⟩:=aeC H hsz (l:=l) (off:=off+sz) (λi y hy=>by
   obtain⟨cs',q1,q2⟩:=h (i+1) y (by simpa using hy);refine⟨cs',λj hj=>?_,q2⟩;have:=q1 j hj;rw[<-hsz]
   rwa[show off+d.size+(i*d.size+j)=off+((i+1)*d.size+j) by rw[Nat.succ_mul];omega])
  refine⟨?_,λy hy=>?_⟩
  ·simp only[eo,bY];refine⟨by rw[aeD k1,hl,hsz],aeB k1 k3 λj hj=>?_,r1⟩;have:=h1 j (by rw[<-hl];exact hj);simpa using this
  ·rcases iV.1 hy with rfl|hy
   ·exact k2
   ·exact r2 y hy
theorem ars{w:World}{b off:Nat}{v:Value}(h:w.cell? ⟨b,off,ξ⟩=δ v):b<w.heap.size:=by
 rcases Nat.lt_or_ge b w.heap.size with k|k
 ·exact k
 ·simp [XV,Array.getElem?_eq_none k]at h
theorem yp{α:Type}{d:dw α}{e:α->an}{ok:α->Prop}(hX:∀b,¬c.X b)(H:RP c d e ok){sz:Nat}(hsz:d.size=sz)(h0:0<sz){v:Value}{l:List α}(h:(dG d).is c.w [v] l):aq c (sl sz e l) v/\fI ok l/\fc v=η:=by
 rcases h with⟨h1,rfl⟩|⟨b,off,sp,cap,h1,h2,h3,h4⟩
 ·simp only[List.cons.injEq,and_true]at h1;subst h1;exact⟨by simp [sl,aq,h0],⟨by simp,by simp⟩,rfl⟩
 ·simp only[List.cons.injEq,and_true]at h1;subst h1
  have AB:sp=ξ\/l=[]:=by
   cases l with
   |nil=>exact .inr rfl
   |cons x l=>exact .inl (h4 0 (by simp)).1
  have hh:∀(i:Nat)(x:α),l[i]? =δ x->∃cs',(∀j,j<d.size->c.w.cell? ⟨b,off+(i*d.size+j),ξ⟩=cs'[j]?)/\d.is c.w cs' x:=by intro i x hx;obtain⟨hi,hx⟩:=bD.1 hx;subst hx;exact(h4 i hi).2
  obtain⟨r1,r2⟩:=aeC H hsz hh;refine⟨?_,⟨by unfold maxLen at h3;unfold aZ;omega,r2⟩,rfl⟩;simp only[sl,aq];refine⟨δ ⟨b,off,sp⟩,cap,by simp,by simpa using h2,h0,?_⟩;rcases AB with rfl|rfl
  ·cases l with
   |nil=>exact .inl rfl
   |cons x l=>
    refine .inr ⟨b,off,rfl,?_,hX b,r1⟩;obtain⟨cs,q1,q2⟩:=hh 0 x rfl;have hl:cs.length=d.size:=d.len q2;have:=q1 0 (by omega);obtain⟨y,hy⟩:∃y,cs[0]? =δ y:=⟨cs[0],bU (by omega)⟩
    rw[hy]at this;exact ars this
  ·exact .inl rfl
theorem wR:∀v∈([]:List Value),fc v=η:=by simp
theorem ff{v:Value}{vs:List Value}(h:fc v=η)(k:∀x∈vs,fc x=η):∀x∈v::vs,fc x=η:=by
 intro x hx;rcases iV.1 hx with rfl|hx
 ·exact h
 ·exact k x hx
theorem aqQ:RP c zP gY afk:=by rintro cs x ⟨rfl,h0,h1⟩;exact⟨(eO (iQ _ _) (eO (iQ _ _) vC)),⟨h0,h1⟩,(ff rfl (ff rfl wR))⟩
theorem aqR:RP c B7 ou VZ:=by rintro cs x ⟨rfl,h0,h1,h2⟩;exact⟨(eO (iQ _ _) (eO (iQ _ _) (eO (DK _) vC))),⟨h0,h1,(show kj _ by unfold kj aZ;have:=h2;unfold maxLen at this;omega)⟩,(ff rfl (ff rfl (ff rfl wR)))⟩
theorem aqP(hX:∀b,¬c.X b):RP c B6 gm afj:=by rintro cs x ⟨v0,rfl,h0,h1,h2,h3,h4,h6⟩;obtain⟨r6,o6,n6⟩:=yp hX aqR (sz:=3) rfl (by decide) h6;exact⟨(eO (DK _) (eO (iQ _ _) (eO (iQ _ _) (eO (iQ _ _) (eO (iQ _ _) (eO (PD _) (eO r6 vC))))))),⟨(show kj _ by unfold kj aZ;have:=h0;unfold maxLen at this;omega),h1,h2,h3,h4,o6⟩,(ff rfl (ff rfl (ff rfl (ff rfl (ff rfl (ff rfl (ff n6 wR)))))))⟩
theorem anS(hX:∀b,¬c.X b):RP c zJ dF Pe:=by rintro cs x ⟨v0,rfl,h0,h1,h2⟩;obtain⟨r2,o2,n2⟩:=yp hX (aqP hX) (sz:=7) rfl (by decide) h2;exact⟨(eO (DK _) (eO (iQ _ _) (eO r2 vC))),⟨(show kj _ by unfold kj aZ;have:=h0;unfold maxLen at this;omega),h1,o2⟩,(ff rfl (ff rfl (ff n2 wR)))⟩
theorem asW:RP c zU dr agp:=by rintro cs x ⟨rfl,h0,h1,h2,h3⟩;exact⟨(eO (iQ _ _) (eO (DK _) (eO (iQ _ _) (eO (iQ _ _) vC)))),⟨h0,(show kj _ by unfold kj aZ;have:=h1;unfold maxLen at this;omega),h2,h3⟩,(ff rfl (ff rfl (ff rfl (ff rfl wR))))⟩
theorem anT:RP c BR tv adq:=by rintro cs x ⟨rfl,h0,h1,h2⟩;exact⟨(eO (iQ _ _) (eO (DK _) (eO (iQ _ _) vC))),⟨⟨h0,(show kj _ by unfold kj aZ;have:=h1;unfold maxLen at this;omega)⟩,h2⟩,(ff rfl (ff rfl (ff rfl wR)))⟩
theorem apm(hX:∀b,¬c.X b):RP c BX fk BQ:=by rintro cs x ⟨v0,rfl,h0,h1,h2⟩;obtain⟨r2,o2,n2⟩:=yp hX anT (sz:=3) rfl (by decide) h2;exact⟨(eO (iQ _ _) (eO (DK _) (eO r2 vC))),⟨h0,(show kj _ by unfold kj aZ;have:=h1;unfold maxLen at this;omega),o2⟩,(ff rfl (ff rfl (ff n2 wR)))⟩
theorem asV:RP c Ci gE Qq:=by rintro cs x ⟨rfl,h0,h1,h2,h3,h6,h7⟩;exact⟨(eO (iQ _ _) (eO (DK _) (eO (iQ _ _) (eO (iQ _ _) (eO (PD _) (eO (PD _) (eO (iQ _ _) (eO (iQ _ _) vC)))))))),⟨⟨h0,(show kj _ by unfold kj aZ;have:=h1;unfold maxLen at this;omega)⟩,⟨h2,h3⟩,h6,h7⟩,(ff rfl (ff rfl (ff rfl (ff rfl (ff rfl (ff rfl (ff rfl (ff rfl wR))))))))⟩
theorem auf(hX:∀b,¬c.X b):RP c Cr bn D6:=by rintro cs x ⟨v0,v1,rfl,h0,h1,h2,h3,h4,h5,h6,h7,h9,MJ⟩;obtain⟨r7,o7,n7⟩:=yp hX aqQ (sz:=2) rfl (by decide) h7;obtain⟨jf,o10,n10⟩:=yp hX asV (sz:=8) rfl (by decide) MJ;exact⟨(eO (iQ _ _) (eO (DK _) (eO (iQ _ _) (eO (iQ _ _) (eO (iQ _ _) (eO (iQ _ _) (eO (iQ _ _) (eO r7 (eO (PD _) (eO (iQ _ _) (eO jf vC))))))))))),⟨h0,(show kj _ by unfold kj aZ;have:=h1;unfold maxLen at this;omega),h2,h3,h4,h5,⟨h6,o7⟩,h9,o10⟩,(ff rfl (ff rfl (ff rfl (ff rfl (ff rfl (ff rfl (ff rfl (ff n7 (ff rfl (ff rfl (ff n10 wR)))))))))))⟩
theorem asU(hX:∀b,¬c.X b):RP c Cg eZ Qp:=by rintro cs x ⟨v0,rfl,h0,h1⟩;obtain⟨r1,o1,n1⟩:=yp hX (auf hX) (sz:=11) rfl (by decide) h1;exact⟨(eO (iQ _ _) (eO r1 vC)),⟨h0,o1⟩,(ff rfl (ff n1 wR))⟩
theorem amA:RP c BO cr aco:=by rintro cs x ⟨rfl,h0,h1,h2⟩;exact⟨(eO (iQ _ _) (eO (iQ _ _) (eO (iQ _ _) vC))),⟨h0,h1,h2⟩,(ff rfl (ff rfl (ff rfl wR)))⟩
theorem aqS(hX:∀b,¬c.X b):RP c agz bu rQ:=by rintro cs x ⟨v0,v1,v2,v3,v4,rfl,h0,h1,h2,h3,h4⟩;obtain⟨r0,o0,n0⟩:=yp hX (anS hX) (sz:=3) rfl (by decide) h0;obtain⟨r1,o1,n1⟩:=yp hX asW (sz:=4) rfl (by decide) h1;obtain⟨r2,o2,n2⟩:=yp hX (apm hX) (sz:=3) rfl (by decide) h2;obtain⟨r3,o3,n3⟩:=yp hX (asU hX) (sz:=2) rfl (by decide) h3;obtain⟨r4,o4,n4⟩:=yp hX amA (sz:=3) rfl (by decide) h4;exact⟨(eO r0 (eO r1 (eO r2 (eO r3 (eO r4 vC))))),⟨⟨o0,o1⟩,o2,o3,o4⟩,(ff n0 (ff n1 (ff n2 (ff n3 (ff n4 wR)))))⟩
theorem aqO:RP c Qh dW DI:=by rintro cs x ⟨rfl,h0,h1,h2,h3,h4,h5⟩;exact⟨(eO (iQ _ _) (eO (iQ _ _) (eO (iQ _ _) (eO (iQ _ _) (eO (iQ _ _) (eO (iQ _ _) vC)))))),⟨h0,⟨h1,h2,h3,h4,h5⟩⟩,(ff rfl (ff rfl (ff rfl (ff rfl (ff rfl (ff rfl wR))))))⟩
theorem aug{α:Type}{d:dw α}{e:α->an}{ok:α->Prop}(H:RP c d e ok){cs:Array Value}{x:α}(h:d.is c.w cs.toList x):aq c (.agg (e x)) (.agg cs)/\ok x:=by obtain⟨h1,h2,h3⟩:=H _ _ h;simp only[aq];exact⟨⟨cs,rfl,h1,h3⟩,h2⟩
end
end
section
open Go.RowKit
def base (W:World):RC:=ctx ⟨W,[],λ_=>False,aK⟩ W [] dV
theorem afS(W:World):∀b,¬(base W).X b:=by
 rintro b (k|⟨p,hp,_⟩|⟨i,k⟩)
 ·exact k
 ·cases hp
 ·cases k
theorem aqj{n:FuncId}{m:an->Heap->aC}{nB:an}(hs:Sound Tryz.prog aK n m)(hc:∀us w,(callFunc n us).run Tryz.prog w=.ok (.enter n us) w)(W:World)(hT:LN W (λ_=>False)) (vs:Array Value) (hr:aR (base W) nB vs.toList) (hm:m nB []=δ (.bool η,[])):
  Calls Tryz.prog n vs W λe W'=>e=.returned (.bool η)/\Below W.heap.size W W':=by
 have hZ:yS ⟨W,[],λ_=>False,aK⟩:=⟨λ_(k:False)=>k.elim,hT.to (bF _) (λ_ _ _=>rfl) λb _ k=>by rcases k with k|⟨p,hp,_⟩;exact k;cases hp⟩
 have hh0:jA (ctx ⟨W,[],λ_=>False,aK⟩ W [] dV) []:=by
  refine⟨rfl,λi j p q hp=>?_,λi p x hp=>?_⟩
  ·simp [ctx]at hp
  ·simp [ctx]at hp
 rcases hs _ _ _ _ hm with⟨g,h1,h2⟩|hv
 case inr=>
  obtain⟨v,w',E',k1,_⟩:=hv ⟨W,[],λ_=>False,aK⟩ vs rfl hZ hh0 hr;rw[hc]at k1;injection k1 with k1
  cases k1
 have hg:g=n:=by
  have e1:=h1 #[] W;rw[hc #[] W]at e1;injection e1 with e1
  injection e1 with e1
  exact e1.symm
 subst hg
 have hh:jA (ctx ⟨W,[],λ_=>False,aK⟩ W [] dV) []:=by
  refine⟨rfl,λi j p q hp=>?_,λi p x hp=>?_⟩
  ·simp [ctx]at hp
  ·simp [ctx]at hp
 refine(h2 ⟨W,[],λ_=>False,aK⟩ vs rfl hZ hh hr).mono ?_;rintro e w' ⟨v,E',rfl,ho,_,hv⟩;simp only[aq]at hv;subst hv;exact⟨rfl,ho.os,ho.tape,ho.output,ho.size,λk hk=>ho.stay k hk (λp hp=>by cases hp)⟩
end
section
open Go.RowKit
theorem asj{n:FuncId}{m:an->Heap->aC}{nB:an}(hs:Sound Tryz.prog aK n m)(hc:∀us w,(callFunc n us).run Tryz.prog w=.ok (.enter n us) w)(W:World)(vs:Array Value)(hr:aR (base W) nB vs.toList)(hm:m nB []=δ (.bool η,[])):
  Calls Tryz.prog n vs W λe W'=>e=.returned (.bool η)/\Below W.heap.size W W':=aqj hs hc W trivial vs hr hm
end
end
end Go.Proofs.YtmjgmpmhipenjaaGreat
