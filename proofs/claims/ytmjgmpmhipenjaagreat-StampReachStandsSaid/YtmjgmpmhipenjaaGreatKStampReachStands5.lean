/- Parts of the proof of StampReachStands, in order. -/
import Derived.Test.YtmjgmpmhipenjaaGreatKStampReachStands4
namespace Go.Proofs.YtmjgmpmhipenjaaGreat
set_option linter.unusedVariables false
set_option linter.unusedSimpArgs false
set_option linter.unusedSectionVars false
set_option maxRecDepth 1000000
noncomputable section
open A renaming az->Φ,loop->p7,append->Uv,cQ->YS,cond->Γ,lb->ZE,deref->χ,quiet->wh,nn->Wo,bQ->UM,bH->Wr,look->WK,fD->UC,cell->Θ,wrap->Ω,bC->SD,elems->T9,add->Z8,ak->φ,lss->Sq,entries->Tn,aN->p5,aF->l7,cells->ψ,tab->ZG,fR->Uj,fin->l6,cU->UZ,storeAt->l8,find->XS,bW->UT,dZ->ZY
open List renaming map_map->Zc,take_add_one->S2,set_cons_succ->aBU,getElem?_set_ne->ZN,set_set->aBV,any_eq_true->Tg,length_cons->R7,map_nil->Wf,length->VN,length_set->VA,nil_append->Tp,find?_some->aCW,map_set->aC3,drop_length->WU,filterMap_append->ZV,set_cons_zero->aCg,filterMap_nil->ZP,map_append->V8,exists_of_findSome?_eq_some->aCl,foldl_nil->aB4,take_length->Uo,append_nil->TU,mem_filterMap->YQ,drop_eq_getElem_cons->Xo,getElem?_drop->YF,map_congr_left->TA,filterMap_cons->SU,length_nil->TZ,length_append->Ve,getElem_mem->UO,drop_zero->Tq,find?->S4,pairwise_append->aCr,map->V4,getElem_of_mem->Yj,mem_singleton->Un,find?_eq_none->U0,length_map->Z7,getD_eq_getElem?_getD->aCN,flatMap_cons->Vi
open AV renaming aA->i6,om->Vq,ah->ε,rp->Sf,op->S7,agg->Λ,bool->i7,sl->SQ,aM->XF,lbx->p6,int->Z6,np->Wp
open Nat renaming lt_irrefl->aCp,mul_left_comm->Zv,zero_add->WW,sub_self->Wz,mul_assoc->aB3,not_lt_zero->aBP
open Option renaming map_none->SX,none->ξ,getD_none->Va,some->δ,bind->aB5,getD_some->SG,toList_some->Zh
open Classical renaming choose_spec->ZR,choose->V7
open Bool renaming false_eq_true->UP,and_false->Tb,eq_false_iff->aB0,not_eq_true'->XX,false_and->Uu,not_true->Xk,not_false->U6,false->ι,true->η
open aT renaming map->YE,box->Sd
open AX renaming normal->l9,exit->Ψ,ret->n9
open Decidable renaming not_not->aC2
open Option.some renaming injEq->Δ
open Int renaming le_refl->Y7,lt_irrefl->WG,toNat_natCast->Tl
open List.Pairwise renaming nil->SE
open IntKind renaming i64->θ
open Go.IntKind renaming i64->θ
section
open HP
def EO(a b:Int):Int:=(2*(a*b)+65535) / 131070
theorem aqT{a b:Int}(h1:0<=a/\a<=65535)(h2:0<=b/\b<=65535):Ks a b=δ (EO a b,0):=by
 have m:=DS h1.1 h1.2 h2.1 h2.2;unfold Ks;rw[ado h1 h2,aP,aL (λq=>q rfl)];unfold Dt HW EO;rw[show θ.wrap (a*b)=a*b from cO (by unfold aU;omega),show θ.wrap (2*(a*b))=2*(a*b)from cO (by unfold aU;omega),show θ.wrap (2*(a*b)+65535)=2*(a*b)+65535 from cO (by unfold aU;omega),show θ.wrap (2*65535)=131070 from cO (by unfold aU;omega)]
 have q1:Jn (2*(a*b)+65535) 131070=δ ((2*(a*b)+65535) / 131070):=by unfold Jn;rw[aL (by decide),Int.tdiv_eq_ediv_of_nonneg (by omega),cO (by unfold aU;omega)]
 have q2:Jo (2*(a*b)+65535) 131070=δ ((2*(a*b)+65535) % 131070):=by unfold Jo;rw[aL (by decide),Int.tmod_eq_emod_of_nonneg (by omega)]
 rw[q1,aP,q2,aP,aL (by omega)];rfl
theorem asX{a b:Int}(h1:0<=a/\a<=65535)(h2:0<=b/\b<=65535)(σ:Heap):OA [.ah a,.ah b] σ=δ (.aM [.ah (EO a b),.ah 0],σ):=ak3 (aqT h1 h2)
theorem auh{a b:Int}(h1:0<=a/\a<=65535)(h2:0<=b/\b<=65535):0<=EO a b/\EO a b<=65535:=by have m:=DS h1.1 h1.2 h2.1 h2.2;unfold EO;omega
theorem as6{a b:Int}(ha:0<=a/\a<=65535)(hb:0<=b/\b<=65535){n d:Nat}(hnd:n<=d)(hd:0<d):0<=Gj a b n d/\Gj a b n d<=65535:=by
 unfold Gj
 have key:∀m:Nat,(2*m*n+d) / (2*d)<=m:=λm=>by
  refine Nat.le_of_lt_succ ((Nat.div_lt_iff_lt_mul (by omega)).2 ?_);have:m*n<=m*d:=Nat.mul_le_mul_left _ hnd;have e1:2*m*n=2*(m*n):=aB3 _ _ _;have e2:(m+1)*(2*d)=2*(m*d)+2*d:=by rw[gu,Zv];omega
  rw[e1,e2];omega
 split
 ·have:=key (b-a).toNat;generalize (2*(b-a).toNat*n+d) / (2*d)=q at this ⊢;omega
 ·have k:=key (a-b).toNat;have:(2*(a-b).toNat*n+d-1) / (2*d)<=(2*(a-b).toNat*n+d) / (2*d):=Nat.div_le_div_right (by omega);generalize (2*(a-b).toNat*n+d) / (2*d)=q at this k;generalize (2*(a-b).toNat*n+d-1) / (2*d)=q' at this ⊢;omega
theorem atW{f:iF}(h:uB f)(t:Int):0<=GX f t/\GX f t<=65535:=by
 obtain⟨a1,a2⟩:=h.a;obtain⟨b1,b2⟩:=h.b;obtain⟨s1,s2⟩:=h.s;obtain⟨d1,d2⟩:=h.d;obtain⟨t1,t2⟩:=h.t;have he:=h.e;unfold GX;split
 ·exact⟨b1,b2⟩
 split
 ·exact⟨a1,a2⟩
 obtain⟨_,l1,l2,_⟩:=ahp h.c (p:=(t-(f.start+f.cI)).toNat) (q:=f.time.toNat) (by omega) (by omega) (by omega) [];exact as6 ⟨a1,a2⟩ ⟨b1,b2⟩ l1 l2
theorem IN{r:cS}(h:uB r.gG)(c:Int):0<=xU r c/\xU r c<=65535:=atW h _
structure wX (b : bk) (t : Int) : Prop where
 runs:∀k r,dO k (b.runs.getD [])=δ r->uB r.gG
 eF:0<=b.eF/\b.eF<=65535
 sM:0<=dU b.aJ t
def gH(d:bB)(k:aI):Int×Int×Bool:=match dO k (d.params.getD [])with
 |none=>(0,0,ι)
 |some p=>(p.group,p.default,p.snap)
abbrev FP:an:=[dY,(ε 0),(ε 0),(ε 0),(ε 0),aY,i6]
def kV(d:bB)(k:aI):an:=match dO k (d.params.getD [])with
 |none=>FP
 |some p=>gm p
theorem aqp(d:bB)(k:aI)(σ:Heap):WK (.s [0,2]) (oS (λx=>Λ (aV x)) (λx=>Λ (gm x)) d.params) (.agg (aV k)) (.agg FP) σ=δ (.agg (kV d k)):=by rw[ap7 tI k _ rfl];unfold kV;cases dO k (d.params.getD [])<;>rfl
theorem Lk(d:bB)(k:aI):ψ 7 (.agg (kV d k))=δ (kV d k):=by unfold kV;cases dO k (d.params.getD [])<;>rfl
theorem agC(d:bB)(k:aI):Φ 0 (kV d k) FP=δ (kV d k):=by
 unfold kV;cases dO k (d.params.getD [])
 ·rfl
 ·exact Pk _ _ rfl
theorem DU(d:bB)(k:aI):φ 1 (kV d k)=δ (.ah (gH d k).1):=by unfold kV gH;cases dO k (d.params.getD [])<;>rfl
theorem at6(d:bB)(k:aI):φ 4 (kV d k)=δ (.ah (gH d k).2.1):=by unfold kV gH;cases dO k (d.params.getD [])<;>rfl
theorem at7(d:bB)(k:aI):φ 5 (kV d k)=δ (.bool (gH d k).2.2):=by unfold kV gH;cases dO k (d.params.getD [])<;>rfl
structure Gv where
 out:Int
 owner:Int
 pri:Int
 mm:Int
def Jg (g:Int) (b:bk) (r:cS) (c:Int):Int:=if g=1 then EO (xU r c) b.eF else xU r c
def tJ (g:Int) (k:aI) (t:Int) (s:Gv) (b:bk):Gv:=
 if(dX b k (dU b.aJ t)).2=ι\/b.jT<s.pri then s
 else if s.pri<b.jT\/(g=1/\s.out<Jg g b (dX b k (dU b.aJ t)).1 (dU b.aJ t))\/(¬g=1/\s.mm<(dX b k (dU b.aJ t)).1.mm)then⟨Jg g b (dX b k (dU b.aJ t)).1 (dU b.aJ t),b.au,b.jT,(dX b k (dU b.aJ t)).1.mm⟩
 else s
def C9 (d:bB) (bs:List bk) (k:aI) (t:Int):Gv:=bs.foldl (tJ (gH d k).1 k t) ⟨(gH d k).2.1,0,-1,0⟩
theorem iM(cs:an):ZE (.lbx cs)=δ cs:=rfl
theorem B0{b:bk}{t:Int}(h:wX b t){k:aI}(hd:(dX b k (dU b.aJ t)).2=η):uB (dX b k (dU b.aJ t)).1.gG:=by
 have h:=h.runs k;revert hd h;unfold dX;generalize dO k (b.runs.getD [])=o;cases o with
 |none=>intro hd;cases hd
 |some r=>intro _ h;exact h r rfl
theorem apP(b:bk)(σ:Heap):((χ (.rp ((aQ b).drop 0)) σ).bind λc=>l7 0 3 c)=δ (.agg (wS b.aJ)):=rfl
theorem amd{d:bB}{s:dA}{k:aI}{t:Int}(hs:s.aD.length<=aZ){i:Nat}{b:bk}(hb:s.aD[i]? =δ b)(ho:wX b t)(m:Gv)(σ:Heap):(J3 (Sf (DN s)) (ε t) (ε (s.aD.length:Int))) [.lbx (aV k),.lbx (kV d k),.ah m.out,.ah m.owner,.ah m.pri,.ah m.mm,.ah (i:Int)] σ=δ (.normal,[.lbx (aV k),.lbx (kV d k),.ah (tJ (gH d k).1 k t m b).out,.ah (tJ (gH d k).1 k t m b).owner,.ah (tJ (gH d k).1 k t m b).pri,.ah (tJ (gH d k).1 k t m b).mm,.ah ((i+1:Nat):Int)],σ):=by
 try unfold J3
 simp only[bM,cg];rw[gZ hb,bS,cK,uG,bS,nU,bS,abF,bS,gy hb,bS,uG,bS,nU,bS,apP,bS,LA,bS];simp only;rw[iM,bS,uA,bS,apW,bS];simp only;rw[jZ,bS,ext1,bS,zD,bS,BS _ _ rfl,bS,vX,bS];unfold tJ;cases hd:(dX b k (dU b.aJ t)).2
 ·rw[aO (.inl rfl)];simp only[U6,Ax,bS,nJ];rw[cK,fK hb hs,bS]
 have hok:=B0 ho hd;have hbd:=IN hok (dU b.aJ t);simp only[Xk,gF,bS,uG,nU,Kw,lp,nI];by_cases hp:b.jT<m.pri
 ·rw[cB hp,cK,fK hb hs,bS,aO (.inr hp)]
 rw[cm hp,cD,aL (λq=>q.elim (λq=>by cases q) hp),ym,bS,Le hok ho.sM,bS];simp only;rw[iM,bS,bS,bS,DU,bS,gK,bS];generalize hr:(dX b k (dU b.aJ t)).1=r at hok hbd ⊢;generalize hg:(gH d k).1=g;unfold Jg;by_cases h1:g=1
 ·rw[cB h1,cK];simp only[uG,bS,nU,al3,asX hbd ho.eF,jZ,ext1,aO h1];generalize EO (xU r (dU b.aJ t)) b.eF=n;by_cases h2:m.pri<b.jT
  ·simp only[cB h2,Cm,Ax,gU,bS,nJ,iM,bM,cg,cT,uG,nU,OI,Kw,Ic,aO (Or.inl h2),fK hb hs]
  simp only[cm h2,Cm,gF,gT,bS,nI,nJ,iM,DU,hg,gK,cB h1,bM,cg];by_cases h3:m.out<n
  ·have hc:m.pri<b.jT\/(g=1/\m.out<n)\/(¬g=1/\m.mm<r.mm):=.inr (.inl ⟨h1,h3⟩);simp only[cB h3,Ax,gU,bS,nJ,cT,uG,nU,OI,Kw,iM,Ic,aO hc,fK hb hs,bM,cg]
  ·have hc:¬(m.pri<b.jT\/(g=1/\m.out<n)\/(¬g=1/\m.mm<r.mm)):=λq=>q.elim h2 λq=>q.elim (λq=>h3 q.2) λq=>q.1 h1
   simp only[cm h3,gF,yX,gU,bS,nI,cF,iM,DU,hg,fN,decide_not,cB h1,Xk,aL hc,fK hb hs,bM,cg]
 ·rw[cm h1,cD];simp only[uG,bS,nU,aL h1];generalize xU r (dU b.aJ t)=n;by_cases h2:m.pri<b.jT
  ·simp only[cB h2,Cm,Ax,gU,bS,nJ,iM,bM,cg,cT,uG,nU,OI,Kw,Ic,aO (Or.inl h2),fK hb hs]
  simp only[cm h2,Cm,gF,yX,gU,bS,nI,iM,DU,hg,gK,fN,decide_not,cm h1,U6,gT,bM,cg,Ic];by_cases h4:m.mm<r.mm
  ·have hc:m.pri<b.jT\/(g=1/\m.out<n)\/(¬g=1/\m.mm<r.mm):=.inr (.inr ⟨h1,h4⟩);simp only[cB h4,nJ,bS,cT,uG,nU,OI,Kw,iM,Ic,aO hc,fK hb hs,bM,cg]
  ·have hc:¬(m.pri<b.jT\/(g=1/\m.out<n)\/(¬g=1/\m.mm<r.mm)):=λq=>q.elim h2 λq=>q.elim (λq=>h1 q.1) λq=>h4 q.2
   simp only[cm h4,nJ,bS,cF,aL hc,fK hb hs,bM,cg]
theorem amc{d:bB}{s:dA}{k:aI}{t:Int}(hs:s.aD.length<=aZ)(ho:∀b∈s.aD,wX b t)(m:Gv)(σ:Heap):∃q,p7 (J3 (Sf (DN s)) (ε t) (ε (s.aD.length:Int))) [.lbx (aV k),.lbx (kV d k),.ah m.out,.ah m.owner,.ah m.pri,.ah m.mm,.ah 0] σ=δ q/\∃u,q=(.exit 0,[.lbx (aV k),.lbx (kV d k),.ah (s.aD.foldl (tJ (gH d k).1 k t) m).out,.ah (s.aD.foldl (tJ (gH d k).1 k t) m).owner,.ah (s.aD.foldl (tJ (gH d k).1 k t) m).pri,.ah (s.aD.foldl (tJ (gH d k).1 k t) m).mm,u],σ):=by
 refine nO (λz v w=>∃(i:Nat)(x:Gv),v=[.lbx (aV k),.lbx (kV d k),.ah x.out,.ah x.owner,.ah x.pri,.ah x.mm,.ah (i:Int)]/\w=σ/\z=s.aD.length-i/\i<=s.aD.length/\(s.aD.drop i).foldl (tJ (gH d k).1 k t) x=s.aD.foldl (tJ (gH d k).1 k t) m) ?_ (n:=s.aD.length) ⟨0,m,rfl,rfl,rfl,kD _,rfl⟩;rintro z v w ⟨i,x,rfl,rfl,hz,hi,hT⟩;by_cases h:i<s.aD.length
 ·have hb:s.aD[i]? =δ s.aD[i]:=bU h;refine .inl ⟨s.aD.length-(i+1),_,_,by omega,amd hs hb (ho _ (UO h)) x w,i+1,tJ (gH d k).1 k t x s.aD[i],rfl,rfl,rfl,by omega,?_⟩;rw[Xo h]at hT;exact hT
 ·have:i=s.aD.length:=by omega
  subst this;rw[WU]at hT;simp only[aB4]at hT;subst hT;try unfold J3
  simp only[bM,cg];rw[iu,bS,cD];exact .inr ⟨_,rfl,by simp,_,rfl⟩
theorem aq5{s:List Sh}{ro:Sh}{r:AV->AV->AV->AV->Heap->aC}{x y z u v v':AV}{σ:Heap}(h:[x,y,z,u].any A.own=ι)(e1:UZ s [x,y,z,u]=[x,y,z,u])(e2:Wo ro v=v')(e:r x y z u σ=δ (v,σ)):Ω η s ro (A.An r) [x,y,z,u] σ=δ (v',σ):=by refine wrap_eq h ?_ e2;rw[e1];exact e
theorem aqv{d:bB}{s:dA}{k:aI}{t:Int}(hs:s.aD.length<=aZ)(ho:∀b∈s.aD,wX b t)(σ:Heap):Ka [.rp (vJ d),.rp (DN s),.agg (aV k),.ah t] σ=δ (.aM [.ah (C9 d s.aD k t).out,.ah (C9 d s.aD k t).owner],σ):=by refine aq5 rfl rfl (iI _) ?_;unfold aau;rw[Iv,bS,uG,bS,nU,bS,al4,bS,uA,bS,aqp,bS,Lk,bS,agC,bS,at6,bS,uG,bS,nU,bS,abF,bS,fJ,bS];refine C0 (yw (amc (d:=d) hs ho ⟨(gH d k).2.1,0,-1,0⟩ σ) ?_);rintro q ⟨u,rfl⟩;simp only[mB,bM,cg];exact⟨_,bL _ _,rfl⟩
end
section
open HP
def nA(l:List cW):Int:=match l.getLast? with
 |none=>0
 |some a=>a.time
theorem afO(d:bB)(hl:d.bP.length<=aZ)(σ:Heap):BJ [.rp (vJ d)] σ=δ (.ah (nA d.bP),σ):=by
 refine Fu rfl rfl (iI _) ?_;unfold aaF nA;rw[uG,bS,nU,bS,abE,bS,fJ,bS,gK,bS];by_cases h:d.bP.length=0
 ·rw[cB (by omega),cK,vQ h];exact bL _ _
 ·have hx:d.bP[d.bP.length-1]? =δ (d.bP[d.bP.length-1]'(by omega)):=bU _
  rw[cm (by omega),cD];simp only[uG,nU,bS,abE,fJ];rw[mV,cO (by unfold aU;unfold aZ at hl;omega),bS,show((d.bP.length:Int) -1)=((d.bP.length-1:Nat):Int) by omega,gy hx,bS,nU,bS,List.getLast?_eq_getElem?,hx]
  exact(congrArg (aB5 · λx=>l6 σ x σ) (show((χ (.rp ((bz (d.bP[d.bP.length-1]'(by omega))).drop 0)) σ).bind λc=>φ 0 c)=δ (.ah (d.bP[d.bP.length-1]'(by omega)).time)from rfl)).trans (bL _ _)
def rX(l:List cW)(t:Int):Int:=if aX t 0 36000000=η then(if decide (t<nA l)=η then 7 else 0)else 1
theorem aei(t:Int)(σ:Heap):Kr [.ah t] σ=δ (.bool (aX t 0 36000000),σ):=by refine Fu rfl rfl (iI _) ?_;unfold aa8;rw[kJ,bS];exact bL _ _
theorem ah8(a b:Int):(((((Θ (.ah a)).bind λv=>δ [v]).bind λc7=>(Φ 0 c7 [(ε 0),(ε 0)]).bind λc8=>((Θ (.ah b)).bind λv=>δ [v]).bind λc9=>(Φ 1 c9 c8).bind λfM=>δ fM).bind λcs=>δ (SQ 1 (gd 1 2 cs))))=δ (sl 1 nT [a,b]):=rfl
theorem aun(d:bB)(hl:d.bP.length<=aZ)(t:Int)(σ:Heap):Kf [.rp (vJ d),.ah t] σ=δ (.ah (rX d.bP t),σ):=by refine Fv (z:=.aA) rfl rfl (iI _) ?_;unfold aaG rX;rw[aei,bS];simp only;rw[vX,bS,oZ,bS];simp only;rw[afO d hl,bS];simp only;rw[lp,bS,oZ,bS];simp only;generalize aX t 0 36000000=w;generalize decide (t<nA d.bP)=e;rw[ah8,bS,wO _ (by show 2<=aZ;decide),bS];cases w<;>cases e<;>exact bL _ _
end
section
open HP
def Lm(g:Int)(x:bl)(eD to c:Int):iF:=⟨eD,to,c,x.cI,if g=1 then(if to<eD then x.down else x.up)else x.other,x.fA⟩
def Qj(x:bl)(k:aI)(f:iF):iF:=match x.ef.find? (λm=>decide (m.key=k))with
 |none=>f
 |some m=>if m.Bb=η then{f with cI:=m.cI,time:=m.time}else f
def IJ(snap:Bool)(f:iF):iF:=if snap=η then{f with time:=0}else f
def DY(d:bB)(x:bl)(k:aI)(eD to c:Int):iF:=vU (IJ (gH d k).2.2 (Qj x k (Lm (gH d k).1 x eD to c)))
theorem ap4(m:gz)(k:aI)(σ:Heap):Hu [.agg (gE m),.rp (aV k)] σ=δ (.bool (decide (m.key=k)),σ):=by refine Qb rfl ?_;unfold aak;rw[show ψ 8 (.agg (gE m))=δ (gE m)from rfl,bS,show l7 0 2 (gE m)=δ (.agg (aV m.key))from rfl,bS,pQ,bS,uA,bS,af2,bS];exact bL _ _
theorem aur{ro:Sh}{r:AV->AV->AV->AV->AV->AV->Heap->aC}{x y z u p q v v':AV}{σ σ':Heap}(e2:Wo ro v=v')(e:r x y z u p q σ=δ (v,σ')):Ω ι [] ro (A.Br r) [x,y,z,u,p,q] σ=δ (v',σ'):=by have:A.Br r [x,y,z,u,p,q] σ=δ (v,σ'):=e;simp only[Ω,Uu,bK,UZ,this,cq,e2]
theorem aql(eD to c:Int)(x:bl):((((Θ (.ah eD)).bind λv=>δ [v]).bind λc6=>(Φ 0 c6 [(ε 0),(ε 0),(ε 0),(ε 0),(ε 0),(ε 0),i6]).bind λc7=>((Θ (.ah to)).bind λv=>δ [v]).bind λc8=>(Φ 1 c8 c7).bind λc9=>((Θ (.ah c)).bind λv=>δ [v]).bind λfM=>(Φ 2 fM c9).bind λgn=>((Θ (.ah x.cI)).bind λv=>δ [v]).bind λfq=>(Φ 3 fq gn).bind λjr=>((Θ (.ah x.other)).bind λv=>δ [v]).bind λjN=>(Φ 4 jN jr).bind λkF=>(ψ 2 (.agg (nv x.fA))).bind λoO=>(Φ 5 oO kF).bind λmL=>δ mL).bind λcs=>δ (Λ cs))=δ (.agg (gA ⟨eD,to,c,x.cI,x.other,x.fA⟩)):=rfl
theorem af3(g:iF)(σ:Heap):(((ZE (.lbx (gA g))).bind λqy=>l7 0 7 qy).bind λqJ=>(yh [qJ] σ).bind λAG=>(ZE (.lbx B8)).bind λoQ=>(ψ 7 AG.1).bind λqz=>(Φ 0 qz oQ).bind λsJ=>(l7 0 7 sJ).bind λx90=>l6 σ x90 AG.2)=δ (.agg (gA (vU g)),σ):=by rw[iM,bS,Is,bS,azn,bS];simp only;rw[iM,bS,Fq,bS,PJ _ _ rfl,bS,Is,bS];exact bL _ _
theorem ac2(d:bB)(k:aI)(f1:iF)(σ:Heap):((φ 5 (kV d k)).bind λoW=>(Γ oW (δ ([(p6 B8),(p6 (gA {f1 with time:=0}))],σ)) (δ ([(p6 B8),(p6 (gA f1))],σ))).bind λnu=>((ZE (aj nu.1 1)).bind λqy=>l7 0 7 qy).bind λqJ=>(yh [qJ] nu.2).bind λAG=>(ZE (aj nu.1 0)).bind λoQ=>(ψ 7 AG.1).bind λqz=>(Φ 0 qz oQ).bind λsJ=>(l7 0 7 sJ).bind λx90=>l6 σ x90 AG.2)=δ (.agg (gA (vU (IJ (gH d k).2.2 f1))),σ):=by
 rw[at7,bS];unfold IJ;cases(gH d k).2.2
 ·rw[cD,bS];simp only[bM,cg];exact af3 f1 σ
 ·rw[cK,bS];simp only[bM,cg];exact af3 {f1 with time:=0} σ
theorem ad7(d:bB)(k:aI)(f1:iF)(σ:Heap):((φ 5 (kV d k)).bind λoW=>(Γ oW (((Θ (ε 0)).bind λv=>δ [v]).bind λCS=>(Φ 4 CS (gA f1)).bind λAr=>δ ([(p6 B8),(p6 Ar)],σ)) (δ ([(p6 B8),(p6 (gA f1))],σ))).bind λnu=>((ZE (aj nu.1 1)).bind λqy=>l7 0 7 qy).bind λqJ=>(yh [qJ] nu.2).bind λAG=>(ZE (aj nu.1 0)).bind λoQ=>(ψ 7 AG.1).bind λqz=>(Φ 0 qz oQ).bind λsJ=>(l7 0 7 sJ).bind λx90=>l6 σ x90 AG.2)=δ (.agg (gA (vU (IJ (gH d k).2.2 f1))),σ):=by rw[qX,bS,LL,bS];exact ac2 d k f1 σ
theorem atB{p q pm:AV}(d:bB)(x:bl)(hm:x.ef.length<=aZ)(k:aI)(eD to c:Int)(σ:Heap)(h1:SD p=δ p)(h2:p5 10 p=δ q)(h3:((χ q σ).bind λc=>φ 0 c)=δ pm) (h4:WK (.s [0,2]) pm (.agg (aV k)) (.agg FP) σ=δ (.agg (kV d k))):HH [p,.agg (bn x),.agg (aV k),.ah eD,.ah to,.ah c] σ=δ (.agg (gA (DY d x k eD to c)),σ):=by
 refine aur (v:=.agg (gA (DY d x k eD to c))) rfl ?_;unfold SS DY;rw[PR,bS,Iv,bS,bS,UY,bS,adx,bS,Tr,bS,aql,bS,Fq,bS,PJ _ _ rfl,bS,h1,bS,h2,bS,h3,bS,pQ,bS,uA,bS,h4,bS,Lk,bS,agC,bS,DU,bS,gK,bS];have GN:∀w,JU (ZG (λ_ _=>ξ) [(349,Hu)]) [sl 8 gE x.ef,.fn 349 [.rp (aV k)]] w=δ (.ah (jM (λm:gz=>decide (m.key=k)) x.ef),w):=λw=>aiD _ x.ef hm _ _ _ w λm _=>ap4 m k w
 have A1:∀(f0:iF),(Γ (.bool (decide ((gH d k).1=1))) ((φ 3 (bn x)).bind λiN=>((Θ iN).bind λv=>δ [v]).bind λuL=>(Φ 4 uL (gA f0)).bind λkg=>(Sq (.ah to) (.ah eD)).bind λgX=>(Γ gX ((φ 4 (bn x)).bind λx38=>((Θ x38).bind λv=>δ [v]).bind λmY=>(Φ 4 mY kg).bind λBu=>δ ([(p6 (bn x)),(p6 B8),(p6 Bu),(p6 (kV d k))],σ)) (δ ([(p6 (bn x)),(p6 B8),(p6 kg),(p6 (kV d k))],σ))).bind λjV=>δ ([(aj jV.1 0),(aj jV.1 1),(aj jV.1 2),(aj jV.1 3)],jV.2)) (δ ([(p6 (bn x)),(p6 B8),(p6 (gA f0)),(p6 (kV d k))],σ)))=δ ([(p6 (bn x)),(p6 B8),(p6 (gA {f0 with time:=if(gH d k).1=1 then(if to<eD then x.down else x.up)else f0.time})),(p6 (kV d k))],σ):=by
  intro f0;by_cases h1:(gH d k).1=1
  ·simp only[cB h1,cT,adw,bS,qX,LL,lp,aO h1];by_cases h2:to<eD
   ·simp only[cB h2,cT,azY,bS,qX,LL,aO h2,bM,cg]
   ·simp only[cm h2,cF,bS,aL h2,bM,cg]
  ·simp only[cm h1,cF,aL h1]
 rw[A1,bS];simp only[bM,cg,iM,bS,acp,GN,qp];unfold Qj;change _=δ (Λ (gA (vU (IJ (gH d k).2.2 (match x.ef.find? (λm=>decide (m.key=k))with|none=>_|some m=>_)))),σ);rcases wL (λm:gz=>decide (m.key=k)) x.ef with⟨e1,_,e2⟩|⟨j,m,e1,e2,e3,e4,_⟩
 ·rw[e1,e2];simp only[show decide ((0:Int)<=-1)=ι from cm (by decide),yX,gU,bS,nI,cF,bM,cg,iM];exact ad7 d k _ σ
 ·rw[e3,e4];simp only[cB (show(0:Int)<=(j:Int) by omega),gT,bS,gy e1,nU,nJ,show((χ (.rp ((gE m).drop 5)) σ).bind λc=>φ 0 c)=δ (.bool m.Bb)from rfl];cases m.Bb
  ·simp only[cF,bS,bM,cg,iM];exact ad7 d k _ σ
  ·simp only[cT,bS,show((χ (.rp ((gE m).drop 6)) σ).bind λc=>φ 0 c)=δ (.ah m.cI)from rfl,show((χ (.rp ((gE m).drop 7)) σ).bind λc=>φ 0 c)=δ (.ah m.time)from rfl,qX,ahk,LL,bM,cg,iM];exact ac2 d k ⟨eD,to,c,m.cI,m.time,x.fA⟩ σ
end
section
open HP
def eH(p:aI×cS):AV×AV:=(.agg (aV p.1),.agg (fQ p.2))
theorem abV{α β:Type}(f:α->β):∀(l:List α){L:List β},L.Perm (l.map f)->∃l':List α,l'.Perm l/\l'.map f=L
 |[],L,h=>⟨[],.refl _,by have:=List.Perm.eq_nil h;rw[this];rfl⟩
 |x::l,L,h=>by have hx:f x∈L:=h.mem_iff.2 (by simp);obtain⟨s,t,rfl⟩:=List.append_of_mem hx;have h2:(s++t).Perm (l.map f):=(List.perm_cons (f x)).1 (List.perm_middle.symm.trans h);obtain⟨l',k1,k2⟩:=abV f l h2;obtain⟨a,b,rfl,e1,e2⟩:=List.map_eq_append_iff.1 k2;exact⟨a++x::b,List.perm_middle.trans (k1.cons x),by simp [e1,e2]⟩
theorem aA5(l:List (aI×cS)):∃l':List (aI×cS),l'.Perm l/\l'.map eH=A.Bf (l.map eH):=abV eH l (UK (l.map eH))
def Ed (l:List (aI×cS)):List (aI×cS):=V7 (aA5 l)
theorem azQ(l:List (aI×cS)):(Ed l).Perm l:=(ZR (aA5 l)).1
theorem adZ(l:List (aI×cS)):(Ed l).map eH=A.Bf (l.map eH):=(ZR (aA5 l)).2
theorem apK(l:List (aI×cS)):A.Bf ((Ed l).map eH)=(Ed l).map eH:=by rw[adZ];exact acV (UK _)
theorem adY{a b:aI}(h:Λ (aV a)=Λ (aV b)):a=b:=by
 injection h with h
 simp only[aV,List.cons.injEq,Z6.injEq,AV.str.injEq,and_true,true_and]at h;obtain⟨u,p⟩:=a;obtain⟨u',p'⟩:=b;simp only at h;rw[h.1,h.2]
theorem auI{l:List (aI×cS)}(h:(l.map (·.1)).Nodup):IU (l.map eH):=by
 refine⟨λp hp=>?_,?_⟩
 ·obtain⟨q,_,rfl⟩:=fL.1 hp;exact⟨q.1.unit,q.1.param,rfl⟩
 ·rw[Zc];have e:((·.1)∘eH)=(λk:aI=>Λ (aV k))∘(λp:aI×cS=>p.1):=rfl;rw[e,<-Zc];exact List.pairwise_map.2 (List.Pairwise.imp (λq e=>q (adY e)) h)
def FT(o:Option (List (aI×cS))):Prop:=∀l,o=δ l->(l.map (·.1)).Nodup/\A.Bf (l.map eH)=l.map eH
theorem afX{l:List (aI×cS)}(h:(l.map (·.1)).Nodup):A.can (.fm (l.map eH))=.fm (A.Bf (l.map eH)):=by unfold A.can;exact aO (auI h)
theorem arn{o:Option (List (aI×cS))}(h:FT o):A.can (oS (λx=>Λ (aV x)) (λx=>Λ (fQ x)) o)=oS (λx=>Λ (aV x)) (λx=>Λ (fQ x)) o:=by
 cases o with
 |none=>rfl
 |some l=>obtain⟨h1,h2⟩:=h l rfl;show A.can (.fm (l.map eH))=.fm (l.map eH);rw[afX h1,h2]
theorem aoq{b:bk}(h:FT b.runs):(aQ b).map A.can=aQ b:=by unfold aQ;simp only[eo,Wf,arn h];rfl
def Es(d:bB)(e:bI):Int:=(zL d.setup.cG e.key e.value).1
def I7 (d:bB) (s:dA) (b:bk) (k:aI) (t c:Int):Int:=if(dX b k c).2=η then xU (dX b k c).1 c else if ¬(gH d k).1=1 then(C9 d s.aD k t).out else 0
def Ba (d:bB) (s:dA) (b:bk) (x:bl) (t c:Int) (e:bI):cS:=
 if(dX b e.key c).2=η/\(dX b e.key c).1.ending=ι/\(dX b e.key c).1.gG.to=Es d e then(dX b e.key c).1
 else⟨DY d x e.key (I7 d s b e.key t c) (Es d e) c,s.au,ι⟩
def vE (d:bB) (s:dA) (b:bk) (x:bl) (c:Int) (seen:List bI) (k:aI):Option cS:=
 if(dX b k c).2=ι\/(mT seen k).isSome=η\/¬(gH d k).1=1 then ξ
 else δ (if(dX b k c).1.ending=η then(dX b k c).1 else⟨vU ⟨xU (dX b k c).1 c,0,c,x.cI,x.down,x.fA⟩,s.au,η⟩)
def zT(b:bk)(x:bl):List bI:=(AT b.bg x.au).1
def FE (d:bB) (s:dA) (b:bk) (x:bl) (t:Int):List (aI×cS):=(zT b x).map (λe=>(e.key,Ba d s b x t (dU b.aJ t) e))++(b.runs.getD []).filterMap (λp=>(vE d s b x (dU b.aJ t) (zT b x) p.1).map (λr=>(p.1,r)))
def lM (d:bB) (s:dA) (b:bk) (x:bl) (to t:Int):bk:=
 {b with aJ:=⟨dU b.aJ t,t,ι⟩,bw:=to,runs:=δ (Ed (FE d s b x t)),cM:=if 0<=x.cM/\to+1<(b.bg.length:Int)then θ.wrap (dU b.aJ t+x.cM)else -1}
abbrev aBc:Sh:=.p I3
abbrev afC:Sh:=.p [(.s 10),.k,.k,.k]
structure uK (p : AV) (d : bB) (σ : Heap) : Prop where
 nc:SD p=δ p
 f2:∃q1 q2,p5 4 p=δ q1/\p5 2 q1=δ q2/\∀ex,((χ q2 (σ++ex)).bind λc=>φ 0 c)=δ (sl 3 fk d.setup.cG)
 f10:∃q pm,p5 10 p=δ q/\∀ex,((χ q (σ++ex)).bind λc=>φ 0 c)=δ pm/\∀k,WK (.s [0,2]) pm (.agg (aV k)) (.agg FP) (σ++ex)=δ (.agg (kV d k))
 lt:∀ex,Lt (σ++ex) aBc p (.rp (vJ d))
theorem aoG(l:List bk)(σ:Heap)(n d:Nat):A.ku σ n d (l.map aQ)=δ (l.map aQ):=QX BN l σ n d
abbrev ck(v:AV)(s:dA):an:=[v,.ah s.au,.ah s.vK,.bool s.black]
theorem aqt{W:Heap}{ids br g:Nat}{s:dA}(h1:W[ids]? =δ (.box (ck (.os br g 10 0 s.aD.length) s)))(h2:W[br]? =δ (.arr g 10 (s.aD.map aQ))):Lt W afC (.op ids 0) (.rp (DN s)):=by refine⟨⟨.rp (DN s),?_,rfl,rfl⟩,rfl,λh=>by cases h⟩;have q:=Qk (c:=aQ) (sz:=10) (l:=s.aD) BN h2 (n:=0) (by omega) 6;simp only[Wr,aBP,if_false,h1,Tq,ck,A.wZ,q,aP,cq];rfl
theorem aqu{W:Heap}{pd ps:AV}{d:bB}{s:dA}{k:aI}{t:Int}(hd:Lt W aBc pd (.rp (vJ d)))(hs':Lt W afC ps (.rp (DN s)))(hs:s.aD.length<=aZ)(ho:∀b∈s.aD,wX b t):Ka [pd,ps,.agg (aV k),.ah t] W=δ (.aM [.ah (C9 d s.aD k t).out,.ah (C9 d s.aD k t).owner],W):=
 Bk (dR:=[pd,ps,.agg (aV k),.ah t]) (ts:=[.rp (vJ d),.rp (DN s),.agg (aV k),.ah t]) ⟨hd,hs',D4 (vF (DE k)) rfl,agl t,trivial⟩ (λσ=>aqv (d:=d) hs ho σ) rfl
def Eh(p:aI×Bool):AV×AV:=(.agg (aV p.1),.bool p.2)
abbrev rG(σ:Heap)(m1:List (aI×cS))(m2:List (aI×Bool)):Heap:=σ++[.map (m1.map eH),.map (m2.map Eh)]
theorem auP(σ:Heap)(m1:List (aI×cS))(m2:List (aI×Bool)):(rG σ m1 m2)[σ.length]? =δ (.map (m1.map eH)):=by rw[iz (bF _),Wz];rfl
theorem auQ(σ:Heap)(m1:List (aI×cS))(m2:List (aI×Bool)):(rG σ m1 m2)[σ.length+1]? =δ (.map (m2.map Eh)):=by rw[iz (by omega),show σ.length+1-σ.length=1 by omega];rfl
theorem agd(σ:Heap)(m1:List (aI×cS))(m2:List (aI×Bool))(k:aI)(r:cS):A.iX (.s [0,2]) (.om σ.length) (.agg (aV k)) (.agg (fQ r)) (rG σ m1 m2)=δ (rG σ (eT k r m1) m2):=by rw[BW _ rfl (auP σ m1 m2),show A.upd (.s [0,2]) (.agg (aV k)) (.agg (fQ r)) (m1.map eH)=δ ((eT k r m1).map eH)from FO (eK:=λk=>Λ (aV k)) (eV:=λr=>Λ (fQ r)) tI k r m1,cq,pJ _ _ (bF _),Wz];rfl
theorem atH(σ:Heap)(m1:List (aI×cS))(m2:List (aI×Bool))(k:aI)(r:Bool):A.iX (.s [0,2]) (.om (σ.length+1)) (.agg (aV k)) (.bool r) (rG σ m1 m2)=δ (rG σ m1 (eT k r m2)):=by rw[BW _ rfl (auQ σ m1 m2),show A.upd (.s [0,2]) (.agg (aV k)) (.bool r) (m2.map Eh)=δ ((eT k r m2).map Eh)from FO (eK:=λk=>Λ (aV k)) (eV:=λr=>i7 r) tI k r m2,cq,pJ _ _ (by omega),show σ.length+1-σ.length=1 by omega];rfl
structure Js (p : AV) (b : bk) (σ : Heap) : Prop where
 nc:SD p=δ p
 f:∀o,∃q,p5 o p=δ q/\∀ex,χ q (σ++ex)=δ ((aQ b).drop o)
theorem bRd{σ:Heap}{br g ib:Nat}{l:List bk}{b:bk}(h:σ[br]? =δ (.arr g 10 (l.map aQ)))(hb:l[ib]? =δ b):Js (.oe br g ib 0) b σ:=by refine⟨rfl,λo=>⟨.oe br g ib o,by simp [p5],λex=>?_⟩⟩;have hl:=(bD.1 h).1;simp only[χ,iG hl,h,if_true,qo,hb,cq]
theorem azm{σ:Heap}{p:AV}{b:bk}(h:Js p b σ)(k:aI)(c:Int)(ex:Heap):uq [p,.agg (aV k),.ah c] (σ++ex)=δ (.aM [.agg (fQ (dX b k c).1),.bool (dX b k c).2],σ++ex):=by obtain⟨q,h2,h3⟩:=h.f 9;refine aBq b k c (σ++ex) h.nc h2 ?_;rw[h3 ex];exact HX b (σ:=[])
theorem atA{σ:Heap}{p:AV}{d:bB}(h:uK p d σ)(x:bl)(hm:x.ef.length<=aZ)(k:aI)(eD to c:Int)(ex:Heap):HH [p,.agg (bn x),.agg (aV k),.ah eD,.ah to,.ah c] (σ++ex)=δ (.agg (gA (DY d x k eD to c)),σ++ex):=by obtain⟨q,pm,h2,h3⟩:=h.f10;exact atB d x hm k eD to c (σ++ex) h.nc h2 (h3 ex).1 ((h3 ex).2 k)
theorem VT(f:iF)(n:Int)(b:Bool):(((ψ 7 (.agg (gA f))).bind λGI=>(Φ 0 GI [(ε 0),(ε 0),(ε 0),(ε 0),(ε 0),(ε 0),i6,(ε 0),aY]).bind λAs=>((Θ (.ah n)).bind λv=>δ [v]).bind λCU=>(Φ 7 CU As).bind λCn=>((Θ (i7 b)).bind λv=>δ [v]).bind λFW=>(Φ 8 FW Cn).bind λLR=>δ LR).bind λcs=>δ (Λ cs))=δ (.agg (fQ ⟨f,n,b⟩)):=rfl
theorem go_step1{d:bB}{s:dA}{σ:Heap}{pd bp:AV}{ids br g:Nat}{b:bk}{x:bl}{t:Int}(hd:uK pd d σ)(h1:σ[ids]? =δ (.box (ck (.os br g 10 0 s.aD.length) s)))(h2:σ[br]? =δ (.arr g 10 (s.aD.map aQ)))(hb:b∈s.aD)(Bw:Js bp b σ)(hs:s.aD.length<=aZ)(ho:∀b∈s.aD,wX b t)(hp:fI BQ d.setup.cG)(hx:x.ef.length<=aZ){seen:List bI}(C8:seen.length<=aZ){i:Nat}{e:bI}(he:seen[i]? =δ e)(m1:List (aI×cS))(m2:List (aI×Bool)):(J8 pd (S7 ids 0) bp (ε t) (ε (dU b.aJ t)) (σ.length+1) σ.length (ε (seen.length:Int)) (sl 5 dS seen)) [.lbx (bn x),.ah (i:Int)] (rG σ m1 m2)=δ (.normal,[.lbx (bn x),.ah ((i+1:Nat):Int)],rG σ (eT e.key (Ba d s b x t (dU b.aJ t) e) m1) (eT e.key η m2)):=by
 obtain⟨c,hc⟩:∃c,c=dU b.aJ t:=⟨_,rfl⟩
 have ED:=ho b hb;have Cu:=ED.sM;have GL:(dX b e.key c).2=η->uB (dX b e.key c).1.gG:=λq=>by rw[hc]at q ⊢;exact B0 ED q
 rw[<-hc]at Cu;rw[<-hc];obtain⟨q1,q2,f1,f2,f3⟩:=hd.f2;obtain⟨JO,pm,g1,g2⟩:=hd.f10;have h1':∀ex,(σ++ex)[ids]? =δ (.box (ck (.os br g 10 0 s.aD.length) s)):=λex=>by rw[iG (bD.1 h1).1];exact h1
 have h2':∀ex,(σ++ex)[br]? =δ (.arr g 10 (s.aD.map aQ)):=λex=>by rw[iG (bD.1 h2).1];exact h2
 try unfold J8
 simp only[bM,cg];rw[gZ he,bS,cK,gy he,bS,pQ];simp only[bS,show l7 0 5 (dS e)=δ (.agg (dS e))from rfl,show ψ 5 (.agg (dS e))=δ (dS e)from rfl,show Φ 0 (dS e) [(ε 0),dY,(ε 0),(ε 0),(ε 0)]=δ (dS e)from rfl,show l7 0 2 (dS e)=δ (.agg (aV e.key))from rfl,show l7 2 2 (dS e)=δ (.agg (yt e.value))from rfl];rw[atH,bS];simp only[hd.nc,bS,f1,f2,f3,dL (abl (aeP d.setup.cG hp e.key e.value)),jZ,ext1];rw[azm Bw,bS];simp only[jZ,ext1,bS,zD,BS _ _ (show pI.length=9 from rfl)]
 have tail:∀(W:Heap)(eD:Int)(hW:W=rG σ m1 (eT e.key η m2)),((ZE (p6 (dS e))).bind λ_=>δ 0).bind (λar6=>((ZE (p6 (dS e))).bind λuR=>l7 ar6 2 uR).bind λxZ=>((ZE (.lbx (bn x))).bind λqz=>l7 0 11 qz).bind λvr=>((ZE (p6 (dS e))).bind λ_=>δ (0)).bind λZH=>((ZE (p6 (dS e))).bind λsK=>l7 ZH 2 sK).bind λx91=>(wh (HH [pd,vr,x91,.ah eD,.ah (Es d e),.ah c] W) W).bind λvu=>(SD (S7 ids 0)).bind λx93=>(p5 1 x93).bind λzm=>((χ zm W).bind λsL=>φ 0 sL).bind λx96=>
   (((ψ 7 vu).bind λGI=>(Φ 0 GI [(ε 0),(ε 0),(ε 0),(ε 0),(ε 0),(ε 0),i6,(ε 0),aY]).bind λAs=>((Θ x96).bind λv=>δ [v]).bind λCU=>(Φ 7 CU As).bind λCn=>((Θ aY).bind λv=>δ [v]).bind λFW=>(Φ 8 FW Cn).bind λLR=>δ LR).bind λcs=>δ (Λ cs)).bind λCF=>(A.iX (.s [0,2]) (Vq σ.length) xZ CF W).bind λaAN=>(Z8 (ε (i:Int)) (ε 1)).bind λGk=>δ (l9,[(.lbx (bn x)),Gk],aAN))=δ (.normal,[.lbx (bn x),.ah ((i+1:Nat):Int)],rG σ (eT e.key ⟨DY d x e.key eD (Es d e) c,s.au,ι⟩ m1) (eT e.key η m2)):=by
  intro W eD hW;subst hW;simp only[iM,bS,show l7 0 2 (dS e)=δ (.agg (aV e.key))from rfl,show l7 0 11 (bn x)=δ (.agg (bn x))from rfl,dL (atA hd x hx e.key eD (Es d e) c _)];rw[show SD (.op ids 0)=δ (.op ids 0)from rfl,bS,show p5 1 (.op ids 0)=δ (.op ids 1)from rfl,bS,show((χ (.op ids 1) (rG σ m1 (eT e.key η m2))).bind λsL=>φ 0 sL)=δ (.ah s.au)from by simp only[χ,h1'];rfl,bS,VT,bS,agd,bS,fK he C8,bS]
 unfold Ba;by_cases nF:(dX b e.key c).2=η
 ·have hfo:=GL nF;rw[nF];cases EF:(dX b e.key c).1.ending
  case false=>
   simp only[gT,bS,KJ,EF,vX,U6,nJ,anE,gK];by_cases hto:(dX b e.key c).1.gG.to=Es d e
   ·rw[show(zL d.setup.cG e.key e.value).1=Es d e from rfl,cB hto,cK,aO ⟨trivial,trivial,hto⟩];simp only[ym,bS];rw[agd,bS,fK he C8,bS]
   ·rw[show(zL d.setup.cG e.key e.value).1=Es d e from rfl,cm hto,cD,aL (λq=>hto q.2.2),cK];simp only[ym,bS,Le hfo Cu,bM,cg];have:=tail _ (xU (dX b e.key c).1 c) rfl;unfold I7;rw[aO nF];exact this
  case true=>
   simp only[gT,yX,bS,KJ,EF,vX,Xk,nJ,nI];rw[cD,aL (λq=>by cases q.2.1),cK];simp only[ym,bS,Le hfo Cu,bM,cg];have:=tail _ (xU (dX b e.key c).1 c) rfl;unfold I7;rw[aO nF];exact this
 ·have F8:(dX b e.key c).2=ι:=by simpa using nF
  rw[F8];simp only[yX,gU,bS,nI];rw[cD,aL (λq=>by cases q.1),cD];simp only[hd.nc,bS,g1,g2,show l7 0 2 (dS e)=δ (.agg (aV e.key))from rfl,Lk,DU,fN];by_cases hg:(gH d e.key).1=1
  ·rw[cm (λq=>q hg),cD];simp only[bS,bM,cg];have:=tail _ 0 rfl;unfold I7;rw[aL nF,aL (λq=>q hg)];exact this
  ·rw[cB hg,cK];simp only[bS,aqu (hd.lt _) (aqt (h1' _) (h2' _)) hs ho,jZ,ext1,bM,cg];have:=tail _ (C9 d s.aD e.key t).out rfl;unfold I7;rw[aL nF,aO hg];exact this
end
section
open HP
theorem Lx{κ ν:Type}[DecidableEq κ]{k:κ}{v:ν}:∀{l:List (κ×ν)},(∀p∈l,p.1≠k)->eT k v l=l++[(k,v)]
 |[],_=>rfl
 |(k',v')::r,h=>by rw[eT,aL (λe=>h (k',v') (by simp) e.symm),Lx λp hp=>h p (by simp [hp])];rfl
theorem I2{κ ν:Type}[DecidableEq κ]{k:κ}{v:ν}:∀{l:List (κ×ν)},dO k l=δ v->(k,v)∈l
 |[],h=>by cases h
 |(k',v')::r,h=>by
  rw[dO]at h;by_cases e:k=k'
  ·rw[aO e]at h;injection h with h;subst h;subst e;simp
  ·rw[aL e]at h;exact rA _ (I2 h)
theorem apw{seen:List bI}(h:oL seen){i:Nat}{e:bI}(he:seen[i]? =δ e):∀a∈seen.take i,a.key≠e.key:=by
 have hp:(seen.take (i+1)).Pairwise λa b=>gr a.key b.key=η:=List.Pairwise.sublist (List.take_sublist _ _) h
 rw[S2,he]at hp;intro a ha q;have:=(aCr.1 hp).2.2 a ha e (by simp);rw[q,BV]at this;cases this
theorem go_loop1{d:bB}{s:dA}{σ:Heap}{pd bp:AV}{ids br g:Nat}{b:bk}{x:bl}{t:Int}(hd:uK pd d σ)(h1:σ[ids]? =δ (.box (ck (.os br g 10 0 s.aD.length) s)))(h2:σ[br]? =δ (.arr g 10 (s.aD.map aQ)))(hb:b∈s.aD)(Bw:Js bp b σ)(hs:s.aD.length<=aZ)(ho:∀b∈s.aD,wX b t)(hp:fI BQ d.setup.cG)(hx:x.ef.length<=aZ){seen:List bI}(C8:seen.length<=aZ)(xM:oL seen):p7 (J8 pd (S7 ids 0) bp (ε t) (ε (dU b.aJ t)) (σ.length+1) σ.length (ε (seen.length:Int)) (sl 5 dS seen)) [.lbx (bn x),.ah 0] (rG σ [] [])=δ (.exit 0,[.lbx (bn x),.ah (seen.length:Int)],rG σ (seen.map (λe=>(e.key,Ba d s b x t (dU b.aJ t) e))) (seen.map (λe=>(e.key,η)))):=by
 refine C0 (nO (Q:=λq=>q=(.exit 0,[.lbx (bn x),.ah (seen.length:Int)],rG σ (seen.map (λe=>(e.key,Ba d s b x t (dU b.aJ t) e))) (seen.map (λe=>(e.key,η))))) (λz v w=>∃i:Nat,i<=seen.length/\v=[.lbx (bn x),.ah (i:Int)]/\w=rG σ ((seen.take i).map (λe=>(e.key,Ba d s b x t (dU b.aJ t) e))) ((seen.take i).map (λe=>(e.key,η)))/\z=seen.length-i) ?_ (n:=seen.length) ⟨0,kD _,rfl,rfl,rfl⟩);rintro z v w ⟨i,hi,rfl,rfl,hz⟩;by_cases h:i<seen.length
 ·have he:seen[i]? =δ seen[i]:=bU h;have hk:=apw xM he;refine .inl ⟨seen.length-(i+1),_,_,by omega,go_step1 hd h1 h2 hb Bw hs ho hp hx C8 he _ _,i+1,h,rfl,?_,rfl⟩;rw[Lx (λp hp=>by obtain⟨a,ha,rfl⟩:=fL.1 hp;exact hk a ha),Lx (λp hp=>by obtain⟨a,ha,rfl⟩:=fL.1 hp;exact hk a ha),S2,he];simp only[V8,Zh,eo,Wf]
 ·have:i=seen.length:=by omega
  subst this;refine .inr ⟨_,?_,by simp,rfl⟩;try unfold J8
  simp only[bM,cg];rw[iu,bS,cD,Uo]
abbrev uT(σ:Heap)(m1:List (aI×cS))(m2:List (aI×Bool))(c l:List (AV×AV)):Heap:=σ++[.map (m1.map eH),.map (m2.map Eh),.it c l]
theorem agc(σ:Heap)(m1:List (aI×cS))(m2:List (aI×Bool))(c l:List (AV×AV)):(uT σ m1 m2 c l)[σ.length+2]? =δ (.it c l):=by rw[iz (by omega),show σ.length+2-σ.length=2 by omega];rfl
theorem arZ(σ:Heap)(m1:List (aI×cS))(m2:List (aI×Bool))(c l c' l':List (AV×AV)):(uT σ m1 m2 c l).set (σ.length+2) (.it c' l')=uT σ m1 m2 c' l':=by rw[pJ _ _ (by omega),show σ.length+2-σ.length=2 by omega];rfl
theorem atG(σ:Heap)(m1:List (aI×cS))(m2:List (aI×Bool))(c l:List (AV×AV))(k:aI)(r:cS):A.iX (.s [0,2]) (.om σ.length) (.agg (aV k)) (.agg (fQ r)) (uT σ m1 m2 c l)=δ (uT σ (eT k r m1) m2 c l):=by rw[BW _ rfl (show(uT σ m1 m2 c l)[σ.length]? =δ (.map (m1.map eH)) by rw[iz (bF _),Wz];rfl),show A.upd (.s [0,2]) (.agg (aV k)) (.agg (fQ r)) (m1.map eH)=δ ((eT k r m1).map eH)from FO (eK:=λk=>Λ (aV k)) (eV:=λr=>Λ (fQ r)) tI k r m1,cq,pJ _ _ (bF _),Wz];rfl
theorem atF(σ:Heap)(m1:List (aI×cS))(m2:List (aI×Bool))(c l:List (AV×AV))(k:aI):WK (.s [0,2]) (.om (σ.length+1)) (.agg (aV k)) (.bool ι) (uT σ m1 m2 c l)=δ (.bool ((dO k m2).getD ι)):=by
 have h:(uT σ m1 m2 c l)[σ.length+1]? =δ (.map (m2.map Eh)):=by rw[iz (by omega),show σ.length+1-σ.length=1 by omega];rfl
 simp only[WK,show A.kK (.s [0,2]) (.agg (aV k))=η from rfl,cA,Tn,h,aP,show XS (.s [0,2]) (.agg (aV k)) (m2.map Eh)=δ ((dO k m2).map i7)from DP (eK:=λk=>Λ (aV k)) (eV:=λr=>i7 r) tI k m2,cq];cases dO k m2<;>rfl
theorem aq3(seen:List bI)(k:aI):(dO k (seen.map (λe=>(e.key,η)))).getD ι=(mT seen k).isSome:=by
 induction seen with
 |nil=>rfl
 |cons e l ih=>
  rw[eo,dO];unfold mT at ih ⊢;rw[List.find?_cons];by_cases h:k=e.key
  ·rw[aO h,cB h.symm];rfl
  ·rw[aL h,cm (λq=>h q.symm)];exact ih
theorem aqo(eD c:Int)(x:bl):((((Θ (.ah eD)).bind λv=>δ [v]).bind λEc=>(Φ 0 Ec [(ε 0),(ε 0),(ε 0),(ε 0),(ε 0),(ε 0),i6]).bind λL3=>((Θ (.ah c)).bind λv=>δ [v]).bind λL4=>(Φ 2 L4 L3).bind λL5=>((Θ (.ah x.cI)).bind λv=>δ [v]).bind λXh=>(Φ 3 Xh L5).bind λL6=>((Θ (.ah x.down)).bind λv=>δ [v]).bind λXi=>(Φ 4 Xi L6).bind λL7=>(ψ 2 (.agg (nv x.fA))).bind λF1=>(Φ 5 F1 L7).bind λCp=>δ Cp).bind λcs=>δ (Λ cs))=δ (.agg (gA ⟨eD,0,c,x.cI,x.down,x.fA⟩)):=rfl
theorem acB(o:Option (List (aI×cS))):A.yx (oS (λx=>Λ (aV x)) (λx=>Λ (fQ x)) o)=δ ((o.getD []).map eH):=by cases o<;>rfl
theorem Lj{W:Heap}{br g ib o:Nat}{rows:List an}{row row' new:an}(h:W[br]? =δ (.arr g 10 rows))(hr:rows[ib]? =δ row)(hs:Φ o new row=δ row'):l8 (.oe br g ib o) new W=δ (W.set br (.arr g 10 (rows.set ib row'))):=by simp only[l8,h,if_true,hr,aP,hs,cq]
theorem ac8{W:Heap}{n:Nat}{B:aT}:∀{τ:Heap}{i:Nat}{ex:Heap}{b:aT},τ[i]? =δ b->B≠b->A.yC W n τ (τ.set i B++ex)=(A.Ei W n B).map (λB'=>τ.set i B')
 |[],i,ex,b,h,_=>by cases h
 |a::τ,0,ex,b,h,hn=>by
  injection h with h
  subst h;rw[aCg,mq];simp only[A.yC,aL hn]
  have key:∀τ:Heap,A.yC W n τ (τ++ex)=δ τ:=by
   intro τ;induction τ with
   |nil=>simp [A.yC]
   |cons y τ ih=>simp only[mq,A.yC,if_true,aP,ih,cq]
  rw[key];cases A.Ei W n B<;>rfl
 |a::τ,i+1,ex,b,h,hn=>by rw[aBU,mq];simp only[A.yC,if_true,aP];rw[ac8 (i:=i) (b:=b) h hn];cases A.Ei W n B<;>rfl
theorem atD{W:Heap}{n:Nat}{l:List (aI×cS)}(h:W[n]? =δ (.map (l.map eH)))(d:Nat):Wr W n (d+1) (.om n)=δ (.fm (l.map eH)):=by simp only[Wr,aCp,if_false,h];rw[PW d (λp hp=>by obtain⟨q,_,rfl⟩:=fL.1 hp;exact⟨vF (DE _),vF (aef _)⟩)];rfl
theorem ac9{W:Heap}{n d:Nat}{row' ahi:an}(hrow:UC W n d row'=δ ahi):∀{l:List bk}{ib:Nat},A.ku W n d ((l.map aQ).set ib row')=δ ((l.map aQ).set ib ahi)
 |[],ib=>by simp [A.ku]
 |b::l,0=>by simp only[eo,aCg,A.ku,hrow,aP,aoG l W n d,cq]
 |b::l,ib+1=>by simp only[eo,aBU,A.ku,BN b W n d,aP,ac9 hrow (l:=l),cq]
theorem aBE{σ:Heap}{ex:Heap}{br g ib:Nat}{l:List bk}{b b':bk}{m R:List (aI×cS)}(h2:σ[br]? =δ (.arr g 10 (l.map aQ)))(hb:l[ib]? =δ b)(hcan:∀b∈l,FT b.runs)(hR:b'.runs=δ (Ed R))(hm:m.Perm R)(hnd:(m.map (·.1)).Nodup)(hex:ex[0]? =δ (.map (m.map eH))):
  A.Cs σ (.aM []) ((σ++ex).set br (.arr g 10 ((l.map aQ).set ib [.ah b'.aJ.shown,.ah b'.aJ.since,.bool b'.aJ.gQ,.ah b'.au,.ah b'.jT,sl 11 bn b'.bg,.ah b'.bw,.ah b'.eF,.ah b'.cM,.om σ.length])))=δ (.aM [],σ.set br (.arr g 10 ((l.set ib b').map aQ))):=by
 have hl:=(bD.1 h2).1;have hib:=(bD.1 hb).1;obtain⟨row,hrow⟩:∃row:an,row=[.ah b'.aJ.shown,.ah b'.aJ.since,.bool b'.aJ.gQ,.ah b'.au,.ah b'.jT,sl 11 bn b'.bg,.ah b'.bw,.ah b'.eF,.ah b'.cM,.om σ.length]:=⟨_,rfl⟩
 rw[<-hrow];rw[List.set_append_left _ _ hl];obtain⟨W,hW⟩:∃W,W=σ.set br (.arr g 10 ((l.map aQ).set ib row))++ex:=⟨_,rfl⟩
 have hWn:W[σ.length]? =δ (.map (m.map eH)):=by rw[hW,iz (by simp),VA,Wz];exact hex
 have hne:aT.arr g 10 ((l.map aQ).set ib row)≠.arr g 10 (l.map aQ):=by
  intro q;injection q with _ _ q
  have q2:((l.map aQ).set ib row)[ib]? =(l.map aQ)[ib]? :=by rw[q]
  rw[oF (by simpa using hib),qo,hb,cq]at q2;injection q2 with q2
  rw[hrow]at q2;unfold aQ at q2;simp only[List.cons.injEq,and_true]at q2;have:=q2.2.2.2.2.2.2.2.2.2;revert this;cases b.runs<;>intro this<;>cases this
 have hfr:UC W σ.length 8 row=δ [.ah b'.aJ.shown,.ah b'.aJ.since,.bool b'.aJ.gQ,.ah b'.au,.ah b'.jT,sl 11 bn b'.bg,.ah b'.bw,.ah b'.eF,.ah b'.cM,.fm (m.map eH)]:=by rw[hrow];simp only[UC,cN _ _ W σ.length 8,AZ _ W σ.length 8,qZ Lb _ W σ.length 8,atD hWn 7,aP,cq]
 have hB:A.Ei W σ.length (.arr g 10 ((l.map aQ).set ib row))=δ (.arr g 10 ((l.set ib b').map aQ)):=by
  simp only[A.Ei,ac9 hfr,cq];congr 2;rw[aC3,aC3,Zc];have e1:l.map ((λx=>x.map A.can)∘aQ)=l.map aQ:=TA λb hb=>aoq (hcan b hb)
  rw[e1];congr 1;unfold aQ;rw[hR];simp only[eo,Wf,afX hnd,acV (hm.map eH),<-adZ];rfl
 unfold A.Cs;rw[<-hW];conv=>lhs;arg 1;rw[hW]
 rw[ac8 h2 hne,<-hW,hB];simp only[cq,aP];have:Wr W σ.length 8 (.aM [])=δ (.aM []):=by simp [Wr,UC]
 rw[this];rfl
end
section
open HP
theorem auq{ro:Sh}{r:AV->AV->AV->AV->AV->Heap->aC}{x y z u p v v':AV}{σ σ':Heap}(e2:Wo ro v=v')(e:r x y z u p σ=δ (v,σ')):Ω ι [] ro (A.wj r) [x,y,z,u,p] σ=δ (v',σ'):=by have:A.wj r [x,y,z,u,p] σ=δ (v,σ'):=e;simp only[Ω,Uu,bK,UZ,this,cq,e2]
abbrev Bn(c t:Int)(b:bk)(bw cM:Int)(rv:AV):an:=[.ah c,.ah t,.bool ι,.ah b.au,.ah b.jT,sl 11 bn b.bg,.ah bw,.ah b.eF,.ah cM,rv]
theorem Pn{d:bB}{s:dA}{b:bk}{x:bl}{c:Int}{seen:List bI}:∀(l:List (aI×cS)),∀p∈l.filterMap (λp=>(vE d s b x c seen p.1).map (λr=>(p.1,r))),(mT seen p.1).isSome=ι/\p.1∈l.map (·.1):=by
 intro l p hp;obtain⟨q,hq,h⟩:=YQ.1 hp;obtain⟨r,hr,rfl⟩:=eP.1 h;refine⟨?_,fL.2 ⟨q,hq,rfl⟩⟩;unfold vE at hr;split at hr
 ·cases hr
 ·rename_i h;simp only[not_or]at h;simpa using h.2.1
theorem UE{d:bB}{s:dA}{b:bk}{x:bl}{c:Int}{seen:List bI}:∀{l:List (aI×cS)},(l.map (·.1)).Nodup->((l.filterMap (λp=>(vE d s b x c seen p.1).map (λr=>(p.1,r)))).map (·.1)).Nodup
 |[],_=>by simp
 |p::l,h=>by
  rw[eo,rB]at h;rw[SU];cases hs:vE d s b x c seen p.1 with
  |none=>simp only[SX];exact UE h.2
  |some r=>simp only[cq,eo,rB];refine⟨λq=>?_,UE h.2⟩;obtain⟨z,hz,GV⟩:=fL.1 q;have:=(Pn l z hz).2;rw[GV]at this;exact h.1 this
theorem adB{seen:List bI}{k:aI}(h:(mT seen k).isSome=ι):∀e∈seen,e.key≠k:=by intro e he q;unfold mT at h;rw[Option.isSome_eq_false_iff,Option.isNone_iff_eq_none,U0]at h;exact h e he (by simpa using q)
theorem an0{seen:List bI}(h:oL seen):(seen.map (·.key)).Nodup:=by unfold oL at h;rw[List.nodup_iff_pairwise_ne,List.pairwise_map];exact h.imp λ{a b}q e=>by rw[e,BV]at q;cases q
theorem go_nodup{d:bB}{s:dA}{b:bk}{x:bl}{t c:Int}{seen:List bI}(xM:oL seen){l:List (aI×cS)}(hl:(l.map (·.1)).Nodup):((seen.map (λe=>(e.key,Ba d s b x t c e))++l.filterMap (λp=>(vE d s b x c seen p.1).map (λr=>(p.1,r)))).map (·.1)).Nodup:=by rw[V8,Zc,List.nodup_append];refine⟨an0 xM,UE hl,λa ha b' hb' q=>?_⟩;subst q;obtain⟨e,he,rfl⟩:=fL.1 ha;obtain⟨z,hz,GV⟩:=fL.1 hb';exact adB (Pn l z hz).1 e he (by rw[GV];rfl)
theorem agb{d:bB}{s:dA}{σ:Heap}{pd:AV}{ids br g ib to:Nat}{b:bk}{x:bl}{t:Int}(hd:uK pd d σ)(h1:σ[ids]? =δ (.box (ck (.os br g 10 0 s.aD.length) s)))(h2:σ[br]? =δ (.arr g 10 (s.aD.map aQ)))(hb:s.aD[ib]? =δ b)(Zq:b.bg[to]? =δ x)(hs:s.aD.length<=aZ)(ho:∀b∈s.aD,wX b t)(hp:fI BQ d.setup.cG)(Rx:fI D6 b.bg)(xM:oL (zT b x))(C8:(zT b x).length<=aZ)(hcan:∀b∈s.aD,FT b.runs):
  wG [pd,.op ids 0,.ah (ib:Int),.ah (to:Int),.ah t] σ=δ (.aM [],σ.set br (.arr g 10 ((s.aD.set ib (lM d s b x to t)).map aQ))):=by
 refine auq (iI _) ?_;have yZ:b∈s.aD:=cE hb;have hxm:x∈b.bg:=cE Zq;have hox:=Rx.2 x hxm;have hxi:aU x.au:=hox.1;have axa:x.ef.length<=aZ:=(abQ hox).1;have Bw:Js (.oe br g ib 0) b σ:=bRd h2 hb;have hlb:=(bD.1 hb).1;have hlt:=(bD.1 h2).1;have hls:=(bD.1 h1).1;have ED:=ho b yZ;have Cu:=ED.sM;have gV:b.bg.length<=aZ:=Rx.1;have hto:=(bD.1 Zq).1
 have GP:((b.runs.getD []).map (·.1)).Nodup:=by
  cases hr:b.runs with
  |none=>simp
  |some l=>exact(hcan b yZ l hr).1
 have GL:∀k,(dX b k (dU b.aJ t)).2=η->uB (dX b k (dU b.aJ t)).1.gG:=λk q=>B0 ED q
 have rd:∀o ex,χ (.oe br g ib o) (σ++ex)=δ ((aQ b).drop o):=λo ex=>by
  obtain⟨q,e1,e2⟩:=Bw.f o;have:q=.oe br g ib o:=by simp [p5]at e1;exact e1.symm
  rw[<-this];exact e2 ex
 have RS:∀o,χ (.oe br g ib o) σ=δ ((aQ b).drop o):=λo=>by have:=rd o [];rwa[TU]at this
 unfold azC
 rw[show SD (.op ids 0)=δ (.op ids 0)from rfl,bS,show p5 0 (.op ids 0)=δ (.op ids 0)from rfl,bS,show((χ (.op ids 0) σ).bind λc=>φ 0 c)=δ (.os br g 10 0 s.aD.length)from by simp only[χ,h1];rfl,bS,show UM 10 (.os br g 10 0 s.aD.length) (.ah (ib:Int))=δ (.oe br g ib 0)from by
  have:((ib:Int)<(s.aD.length:Int)):=by omega
  simp [UM,A.idx,this],bS]
 simp only[show SD (.oe br g ib 0)=δ (.oe br g ib 0)from rfl,bS,show ∀o,p5 o (.oe br g ib 0)=δ (.oe br g ib o)from λo=>by simp [p5],RS];rw[show φ 0 ((aQ b).drop 5)=δ (sl 11 bn b.bg)from rfl,bS,gy Zq,bS,pQ,bS,show l7 0 11 (bn x)=δ (.agg (bn x))from rfl,bS,PR,bS,IE _ _ rfl,bS,show l7 0 3 ((aQ b).drop 0)=δ (.agg (wS b.aJ))from rfl,bS,LA,bS];simp only[RS,bS];rw[show φ 0 ((aQ b).drop 5)=δ (sl 11 bn b.bg)from rfl,bS,UX,bS,dL (arb Rx hxi σ),bS,jZ,bS,ext1,bS,show(AT b.bg x.au).1=zT b x from rfl,fJ,bS];rw[show(σ++[YE []])++[YE []]=rG σ [] []from by rw[kS];rfl,show(σ++[YE []]).length=σ.length+1 from by simp];refine(congrArg (λz=>aB5 z _) (go_loop1 hd h1 h2 yZ Bw hs ho hp axa C8 xM)).trans ?_;rw[bS];simp only[mB,rd,bS];rw[show φ 0 ((aQ b).drop 9)=δ (oS (λx=>Λ (aV x)) (λx=>Λ (fQ x)) b.runs)from HX b (σ:=[]),bS,acB,bS];obtain⟨seen,FM⟩:∃seen,seen=zT b x:=⟨_,rfl⟩
 obtain⟨c,hc⟩:∃c,c=dU b.aJ t:=⟨_,rfl⟩
 have EH:FE d s b x t=seen.map (λe=>(e.key,Ba d s b x t c e))++(b.runs.getD []).filterMap (λp=>(vE d s b x c seen p.1).map (λr=>(p.1,r))):=by rw[FM,hc];rfl
 rw[<-FM]at xM C8;rw[<-hc]at Cu GL;rw[<-FM,<-hc];obtain⟨es,AB⟩:∃es,es=b.runs.getD []:=⟨_,rfl⟩
 rw[<-AB]at GP EH;rw[<-AB];obtain⟨m1,hm1⟩:∃m1,m1=seen.map (λe=>(e.key,Ba d s b x t c e)):=⟨_,rfl⟩
 obtain⟨m2,hm2⟩:∃m2,m2=seen.map (λe=>(e.key,η)):=⟨_,rfl⟩
 rw[<-hm1]at EH;rw[<-hm1,<-hm2];have hWl:(rG σ m1 m2).length=σ.length+2:=by simp
 rw[hWl,show rG σ m1 m2++[aT.it [] (es.map eH)]=uT σ m1 m2 [] (es.map eH)from by rw[kS];rfl];obtain⟨st,hst⟩:∃st,st=λp:aI×cS=>(vE d s b x c seen p.1).map (λr=>(p.1,r)):=⟨_,rfl⟩
 rw[<-hst]at EH;refine aBu (α:=aI×cS) (enc:=eH) (it:=σ.length+2) (es:=es) _ _ (λ_ _ _=>rfl) (λdn lf w W=>w=[.lbx (bn x)]/\∃cu,W=uT σ (m1++dn.filterMap st) m2 cu (lf.map eH)) ?_ ?_ ?_ ?_
 ·rintro dn lf w W ⟨rfl,cu,rfl⟩;exact⟨cu,agc _ _ _ _ _⟩
 ·rintro dn lf w W j p Ce ⟨rfl,cu,rfl⟩ hj;rw[arZ]
  have hpk:∀q∈m1++dn.filterMap st,st p≠ξ->q.1≠p.1:=by
   intro q hq hsp e
   have hpn:(mT seen p.1).isSome=ι:=by
    have:p.1∈[p].map (·.1):=by simp
    obtain⟨r,hr⟩:=Option.ne_none_iff_exists'.1 hsp;rw[hst]at hr;have:=(Pn (d:=d) (s:=s) (b:=b) (x:=x) (c:=c) (seen:=seen) [p] r (YQ.2 ⟨p,by simp,hr⟩)).1;obtain⟨r',_,hr'⟩:=eP.1 hr;rw[<-hr']at this;exact this
   rcases jJ.1 hq with hq|hq
   ·rw[hm1]at hq;obtain⟨e',he',rfl⟩:=fL.1 hq;exact adB hpn e' he' e
   ·rw[hst]at hq;have hk:=(Pn dn q hq).2;rw[e]at hk;have hnd:((dn++lf).map (·.1)).Nodup:=(Ce.map (·.1)).nodup_iff.2 GP;rw[V8,List.nodup_append]at hnd;exact hnd.2.2 p.1 hk p.1 (fL.2 ⟨p,cE hj,rfl⟩) rfl
  obtain⟨W,hW⟩:∃W,W=uT σ (m1++dn.filterMap st) m2 [eH p] ((lf.eraseIdx j).map eH):=⟨_,rfl⟩
  rw[<-hW]
  have Mi:A.yu (.op (σ.length+2) 0) W=δ (.aM [.agg (aV p.1),.agg (fQ p.2)]):=by rw[hW];simp only[A.yu,agc];rfl
  refine⟨[.lbx (bn x)],uT σ (m1++(dn++[p]).filterMap st) m2 [eH p] ((lf.eraseIdx j).map eH),λK=>?_,rfl,_,rfl⟩;rw[Mi,bS,jZ,bS,Iv,bS,Li _ _ rfl,bS,uA,bS];have Xz:∀k,uq [.oe br g ib 0,.agg (aV k),.ah c] W=δ (.aM [.agg (fQ (dX b k c).1),.bool (dX b k c).2],W):=λk=>by rw[hW];exact azm Bw k c _
  rw[Xz,bS];simp only[jZ,ext1,bS,zD,BS _ _ (show pI.length=9 from rfl),vX];obtain⟨JO,pm,g1,g2⟩:=hd.f10;have g3:((χ JO W).bind λc=>φ 0 c)=δ pm:=by rw[hW];exact(g2 _).1
  have g4:WK (.s [0,2]) pm (.agg (aV p.1)) (.agg FP) W=δ (.agg (kV d p.1)):=by rw[hW];exact(g2 _).2 p.1
  have g5:WK (.s [0,2]) (.om (σ.length+1)) (.agg (aV p.1)) (.bool ι) W=δ (.bool (mT seen p.1).isSome):=by rw[hW,atF,hm2,aq3]
  have skip:st p=ξ->K (.normal,[.lbx (bn x)],W)=K (.normal,[.lbx (bn x)],uT σ (m1++(dn++[p]).filterMap st) m2 [eH p] ((lf.eraseIdx j).map eH)):=by intro h;rw[hW,ZV,SU,h,ZP,TU]
  by_cases nF:(dX b p.1 c).2=η
  case neg=>
   have F8:(dX b p.1 c).2=ι:=by simpa using nF
   rw[F8];simp only[U6,Ax,gU,bS,nJ,cT,bM];exact skip (by rw[hst];simp only[vE,F8,true_or,if_true,SX])
  rw[nF];simp only[Xk,gF,bS,nI,g5,uA];by_cases Zp:(mT seen p.1).isSome=η
  ·rw[Zp];simp only[Ax,gU,bS,nJ,cT,bM];exact skip (by rw[hst];simp only[vE,Zp,true_or,or_true,if_true,SX])
  have ahZ:(mT seen p.1).isSome=ι:=by simpa using Zp
  rw[ahZ];simp only[gF,bS,nI,hd.nc,g1,g3,g4,uA,Lk,DU,fN];by_cases C5:(gH d p.1).1=1
  case neg=>
   rw[cB C5];simp only[cT,bM];exact skip (by rw[hst];simp only[vE,C5,not_false_eq_true,or_true,if_true,SX])
  rw[cm (λq=>q C5)];simp only[cF,KJ,bS,vX];have hfo:=GL p.1 nF
  have D0:¬((dX b p.1 c).2=ι\/(mT seen p.1).isSome=η\/¬(gH d p.1).1=1):=by rw[nF,ahZ,C5];simp
  have last:∀r:cS,st p=δ (p.1,r)->((A.iX (.s [0,2]) (.om σ.length) (.agg (aV p.1)) (.agg (fQ r)) W).bind λXv=>K (.normal,[.lbx (bn x)],Xv))=K (.normal,[.lbx (bn x)],uT σ (m1++(dn++[p]).filterMap st) m2 [eH p] ((lf.eraseIdx j).map eH)):=by intro r hr;rw[hW,atG,bS,Lx (λq hq=>hpk q hq (by rw[hr];simp)),ZV,SU,hr,ZP,kS]
  cases EF:(dX b p.1 c).1.ending
  case true=>
   simp only[Xk,cF,bS,bM,cg,iM,uA,ym];exact last _ (by rw[hst];simp only[vE,aL D0,EF,if_true,cq])
  case false=>
   simp only[U6,cT,bS,ym,dL (Le hfo Cu W),bM,cg,iM,UY,azY,Tr];rw[aqo,bS,Fq,bS,PJ _ _ rfl,bS,Is,bS,dL (azn _ W),bS]
   rw[show p5 1 (.op ids 0)=δ (.op ids 1)from rfl,bS,show((χ (.op ids 1) W).bind λL8=>φ 0 L8)=δ (.ah s.au)from by
    rw[hW];simp only[χ,iG hls,h1];rfl,bS,VT,bS,zD,bS,BS _ _ rfl,bS,bS]
   simp only[bM,cg,iM,bS,uA,ym];exact last _ (by rw[hst];simp only[vE,aL D0,EF,cq];rfl)
 ·rintro dn w W Ce ⟨rfl,cu,rfl⟩;simp only[mB];obtain⟨m,hm⟩:∃m,m=m1++dn.filterMap st:=⟨_,rfl⟩
  rw[<-hm];obtain⟨ex,hex⟩:∃ex:Heap,ex=[.map (m.map eH),.map (m2.map Eh),.it cu (([]:List (aI×cS)).map eH)]:=⟨_,rfl⟩
  rw[show uT σ m m2 cu (([]:List (aI×cS)).map eH)=σ++ex from by rw[hex]]
  have hmp:m.Perm (FE d s b x t):=by rw[EH,hm];exact(Ce.filterMap st).append_left m1
  have hnd:(m.map (·.1)).Nodup:=by rw[hm,hm1,hst];exact go_nodup xM ((Ce.map (·.1)).nodup_iff.2 GP)
  rw[show((((Θ (ε c)).bind λv=>δ [v]).bind λF2=>(Φ 0 F2 [(ε 0),(ε 0),aY]).bind λF3=>((Θ (ε t)).bind λv=>δ [v]).bind λF4=>(Φ 1 F4 F3).bind λL9=>((Θ aY).bind λv=>δ [v]).bind λMa=>(Φ 2 Ma L9).bind λMb=>δ Mb).bind λcs=>δ (Λ cs))=δ (.agg [.ah c,.ah t,.bool ι])from rfl,bS];try simp only[show SD (.oe br g ib 0)=δ (.oe br g ib 0)from rfl,bS,show ∀o,p5 o (.oe br g ib 0)=δ (.oe br g ib o)from λo=>by simp [p5]]
  rw[show ψ 3 (.agg [.ah c,.ah t,.bool ι])=δ [.ah c,.ah t,.bool ι]from rfl,bS];have JH:(σ++ex)[br]? =δ (.arr g 10 (s.aD.map aQ)):=by rw[iG hlt];exact h2
  have M1:(s.aD.map aQ)[ib]? =δ (aQ b):=by rw[qo,hb];rfl
  have hlm:ib<(s.aD.map aQ).length:=by simpa using hlb
  have RB:br<(σ++ex).length:=by simp;omega
  have chain:∀(o:Nat)(row row' new:an),Φ o new row=δ row'->l8 (.oe br g ib o) new ((σ++ex).set br (.arr g 10 ((s.aD.map aQ).set ib row)))=δ ((σ++ex).set br (.arr g 10 ((s.aD.map aQ).set ib row'))):=by intro o row row' new hsp;rw[Lj (W:=(σ++ex).set br (.arr g 10 ((s.aD.map aQ).set ib row))) (rows:=(s.aD.map aQ).set ib row) (oF RB) (oF hlm) hsp,aBV,aBV]
  obtain⟨rv,Zm⟩:∃rv,rv=oS (λx=>Λ (aV x)) (λx=>Λ (fQ x)) b.runs:=⟨_,rfl⟩
  rw[Lj (row':=[.ah c,.ah t,.bool ι,.ah b.au,.ah b.jT,sl 11 bn b.bg,.ah b.bw,.ah b.eF,.ah b.cM,rv]) JH M1 (by rw[Zm];rfl),bS];rw[qX,bS,chain 6 _ (Bn c t b to b.cM rv) _ rfl,bS];rw[show((Θ (Vq σ.length)).bind λv=>δ [v])=δ [.om σ.length]from rfl,bS,chain 9 _ (Bn c t b to b.cM (.om σ.length)) _ rfl,bS];rw[qX,bS,chain 8 _ (Bn c t b to (-1) (.om σ.length)) _ rfl,bS];simp only[bM,iM,bS,ady,qp];have fin:=λ(fo:Int)(hfo:(lM d s b x to t).cM=fo)=>aBE (σ:=σ) (ex:=ex) (b':=lM d s b x to t) (m:=m) (R:=FE d s b x t) h2 hb hcan rfl hmp hnd (by rw[hex];rfl)
  have hrow:[ε (lM d s b x to t).aJ.shown,.ah (lM d s b x to t).aJ.since,.bool (lM d s b x to t).aJ.gQ,.ah (lM d s b x to t).au,.ah (lM d s b x to t).jT,sl 11 bn (lM d s b x to t).bg,.ah (lM d s b x to t).bw,.ah (lM d s b x to t).eF,.ah (lM d s b x to t).cM,.om σ.length]=Bn c t b to (lM d s b x to t).cM (.om σ.length):=by rw[hc];rfl
  have fin:=aBE (σ:=σ) (ex:=ex) (b':=lM d s b x to t) (m:=m) (R:=FE d s b x t) h2 hb hcan rfl hmp hnd (by rw[hex];rfl);rw[hrow]at fin;have Em:(lM d s b x to t).cM=if 0<=x.cM/\(to:Int)+1<(b.bg.length:Int)then θ.wrap (c+x.cM)else -1:=by rw[hc];rfl
  by_cases EG:0<=x.cM
  ·rw[cB EG];simp only[gT,bS,show SD (.oe br g ib 0)=δ (.oe br g ib 0)from rfl,show ∀o,p5 o (.oe br g ib 0)=δ (.oe br g ib o)from λo=>by simp [p5]];rw[QM (by unfold aZ at gV;omega),bS]
   rw[show((χ (.oe br g ib 5) ((σ++ex).set br (.arr g 10 ((s.aD.map aQ).set ib (Bn c t b to (-1) (.om σ.length)))))).bind λaAe=>φ 0 aAe)=δ (sl 11 bn b.bg)from by
    simp only[χ,oF RB,if_true,oF hlm,cq];rfl,bS,fJ,bS,lp,bS,nJ,bS]
   by_cases rI:(to:Int)+1<(b.bg.length:Int)
   ·rw[cB (by omega),cK];rw[aO ⟨EG,rI⟩]at Em;rw[Em]at fin;rw[lU,bS,qX,bS,chain 8 _ (Bn c t b to (θ.wrap (c+x.cM)) (.om σ.length)) _ rfl,bS,bS];exact fin
   ·rw[cm (by omega),cD,bS];rw[aL (λq=>rI q.2)]at Em;rw[Em]at fin;exact fin
  ·rw[cm EG];simp only[yX,gU,bS,nI,cF];rw[aL (λq=>EG q.1)]at Em;rw[Em]at fin;exact fin
 ·refine⟨rfl,[],?_⟩;rw[ZP,TU]
end
section
open HP
def A5 (d:bB) (s:dA) (b:bk) (c lv:Int) (k:aI):Option cS:=
 if(dX b k c).2=ι\/¬(gH d k).1=1 then ξ
 else δ ⟨vU ⟨xU (dX b k c).1 c,0,c,0,lv,⟨1,[]⟩⟩,s.au,η⟩
def Lh (d:bB) (s:dA) (b:bk) (a:cW):List (aI×cS):=(b.runs.getD []).filterMap (λp=>(A5 d s b (dU b.aJ a.time) a.level p.1).map (λr=>(p.1,r)))
def vZ (d:bB) (s:dA) (b:bk) (a:cW):bk:={b with aJ:=⟨dU b.aJ a.time,a.time,ι⟩,bw:=-1,cM:=-1,runs:=δ (Ed (Lh d s b a))}
abbrev yL(σ:Heap)(m:List (aI×cS))(c l:List (AV×AV)):Heap:=σ++[.map (m.map eH),.it c l]
theorem afy(σ:Heap)(m:List (aI×cS))(c l:List (AV×AV)):(yL σ m c l)[σ.length+1]? =δ (.it c l):=by rw[iz (by omega),show σ.length+1-σ.length=1 by omega];rfl
theorem aqI(σ:Heap)(m:List (aI×cS))(c l c' l':List (AV×AV)):(yL σ m c l).set (σ.length+1) (.it c' l')=yL σ m c' l':=by rw[pJ _ _ (by omega),show σ.length+1-σ.length=1 by omega];rfl
theorem aub(σ:Heap)(m:List (aI×cS))(c l:List (AV×AV))(k:aI)(r:cS):A.iX (.s [0,2]) (.om σ.length) (.agg (aV k)) (.agg (fQ r)) (yL σ m c l)=δ (yL σ (eT k r m) c l):=by rw[BW _ rfl (show(yL σ m c l)[σ.length]? =δ (.map (m.map eH)) by rw[iz (bF _),Wz];rfl),show A.upd (.s [0,2]) (.agg (aV k)) (.agg (fQ r)) (m.map eH)=δ ((eT k r m).map eH)from FO (eK:=λk=>Λ (aV k)) (eV:=λr=>Λ (fQ r)) tI k r m,cq,pJ _ _ (bF _),Wz];rfl
theorem aeA{d:bB}{s:dA}{b:bk}{c lv:Int}:∀(l:List (aI×cS)),∀p∈l.filterMap (λp=>(A5 d s b c lv p.1).map (λr=>(p.1,r))),p.1∈l.map (·.1):=by intro l p hp;obtain⟨q,hq,h⟩:=YQ.1 hp;obtain⟨r,hr,rfl⟩:=eP.1 h;exact fL.2 ⟨q,hq,rfl⟩
theorem Pj{d:bB}{s:dA}{b:bk}{c lv:Int}:∀{l:List (aI×cS)},(l.map (·.1)).Nodup->((l.filterMap (λp=>(A5 d s b c lv p.1).map (λr=>(p.1,r)))).map (·.1)).Nodup
 |[],_=>by simp
 |p::l,h=>by
  rw[eo,rB]at h;rw[SU];cases hs:A5 d s b c lv p.1 with
  |none=>simp only[SX];exact Pj h.2
  |some r=>simp only[cq,eo,rB];refine⟨λq=>?_,Pj h.2⟩;obtain⟨z,hz,GV⟩:=fL.1 q;have:=aeA l z hz;rw[GV]at this;exact h.1 this
theorem aqn(eD c lv:Int):((((Θ (.ah eD)).bind λv=>δ [v]).bind λuO=>(Φ 0 uO [(ε 0),(ε 0),(ε 0),(ε 0),(ε 0),(ε 0),i6]).bind λxC=>((Θ (.ah c)).bind λv=>δ [v]).bind λMD=>(Φ 2 MD xC).bind λuP=>((Θ (.ah lv)).bind λv=>δ [v]).bind λrE=>(Φ 4 rE uP).bind λpP=>(ψ 2 (.agg [.ah 1,.aA])).bind λsI=>(Φ 5 sI pP).bind λlX=>δ lX).bind λcs=>δ (Λ cs))=δ (.agg [.ah eD,.ah 0,.ah c,.ah 0,.ah lv,.ah 1,.aA]):=rfl
theorem arA(eD c lv:Int)(σ:Heap):yh [.agg [.ah eD,.ah 0,.ah c,.ah 0,.ah lv,.ah 1,.aA]] σ=δ (.agg (gA (vU ⟨eD,0,c,0,lv,⟨1,[]⟩⟩)),σ):=by have h:=azn ⟨eD,0,c,0,lv,⟨1,[]⟩⟩ σ;rw[<-h];exact azs rfl rfl rfl
theorem apj{d:bB}{s:dA}{σ:Heap}{pd:AV}{ids br g ib:Nat}{b:bk}{a:cW}(hd:uK pd d σ)(h1:σ[ids]? =δ (.box (ck (.os br g 10 0 s.aD.length) s)))(h2:σ[br]? =δ (.arr g 10 (s.aD.map aQ)))(hb:s.aD[ib]? =δ b)(ED:wX b a.time)(hcan:∀b∈s.aD,FT b.runs):
  J9 [pd,.op ids 0,.oe br g ib 0,.agg (bz a)] σ=δ (.aM [],σ.set br (.arr g 10 ((s.aD.set ib (vZ d s b a)).map aQ))):=by
 have aup:∀{r:AV->AV->AV->AV->Heap->aC}{x y z u:AV}{σ σ':Heap},r x y z u σ=δ (.aM [],σ')->Ω ι [] .k (A.An r) [x,y,z,u] σ=δ (.aM [],σ'):=by intro r x y z u σ σ' e;have:A.An r [x,y,z,u] σ=δ (.aM [],σ'):=e;simp only[Ω,Uu,bK,UZ,this,cq,iI]
 refine aup ?_;have yZ:b∈s.aD:=cE hb;have Bw:Js (.oe br g ib 0) b σ:=bRd h2 hb;have hlb:=(bD.1 hb).1;have hlt:=(bD.1 h2).1;have hls:=(bD.1 h1).1;have Cu:=ED.sM
 have GP:((b.runs.getD []).map (·.1)).Nodup:=by
  cases hr:b.runs with
  |none=>simp
  |some l=>exact(hcan b yZ l hr).1
 have GL:∀k,(dX b k (dU b.aJ a.time)).2=η->uB (dX b k (dU b.aJ a.time)).1.gG:=λk q=>B0 ED q
 have rd:∀o ex,χ (.oe br g ib o) (σ++ex)=δ ((aQ b).drop o):=λo ex=>by
  obtain⟨q,e1,e2⟩:=Bw.f o;have:q=.oe br g ib o:=by simp [p5]at e1;exact e1.symm
  rw[<-this];exact e2 ex
 have RS:∀o,χ (.oe br g ib o) σ=δ ((aQ b).drop o):=λo=>by have:=rd o [];rwa[TU]at this
 unfold SB;rw[show ψ 5 (.agg (bz a))=δ (bz a)from rfl,bS];simp only[show SD (.oe br g ib 0)=δ (.oe br g ib 0)from rfl,bS,show ∀o,p5 o (.oe br g ib 0)=δ (.oe br g ib o)from λo=>by simp [p5],RS,rd];rw[show l7 0 3 ((aQ b).drop 0)=δ (.agg (wS b.aJ))from rfl,bS,show φ 0 (bz a)=δ (.ah a.time)from rfl,bS,dL (LA _ _ σ),bS];rw[show φ 0 ((aQ b).drop 9)=δ (oS (λx=>Λ (aV x)) (λx=>Λ (fQ x)) b.runs)from HX b (σ:=[]),bS,acB,bS];obtain⟨c,hc⟩:∃c,c=dU b.aJ a.time:=⟨_,rfl⟩
 have EH:Lh d s b a=(b.runs.getD []).filterMap (λp=>(A5 d s b c a.level p.1).map (λr=>(p.1,r))):=by rw[hc];rfl
 rw[<-hc]at Cu GL;rw[<-hc];obtain⟨es,AB⟩:∃es,es=b.runs.getD []:=⟨_,rfl⟩
 rw[<-AB]at GP EH;rw[<-AB];rw[show(σ++[YE []]).length=σ.length+1 from by simp,show(σ++[YE []])++[aT.it [] (es.map eH)]=yL σ [] [] (es.map eH)from by rw[kS];rfl];obtain⟨st,hst⟩:∃st,st=λp:aI×cS=>(A5 d s b c a.level p.1).map (λr=>(p.1,r)):=⟨_,rfl⟩
 rw[<-hst]at EH;refine aBu (α:=aI×cS) (enc:=eH) (it:=σ.length+1) (es:=es) _ _ (λ_ _ _=>rfl) (λdn lf w W=>w=[.lbx (bz a)]/\∃cu,W=yL σ (dn.filterMap st) cu (lf.map eH)) ?_ ?_ ?_ ?_
 ·rintro dn lf w W ⟨rfl,cu,rfl⟩;exact⟨cu,afy _ _ _ _⟩
 ·rintro dn lf w W j p Ce ⟨rfl,cu,rfl⟩ hj;rw[aqI]
  have hpk:∀q∈dn.filterMap st,q.1≠p.1:=by intro q hq e;rw[hst]at hq;have hk:=aeA dn q hq;rw[e]at hk;have hnd:((dn++lf).map (·.1)).Nodup:=(Ce.map (·.1)).nodup_iff.2 GP;rw[V8,List.nodup_append]at hnd;exact hnd.2.2 p.1 hk p.1 (fL.2 ⟨p,cE hj,rfl⟩) rfl
  obtain⟨W,hW⟩:∃W,W=yL σ (dn.filterMap st) [eH p] ((lf.eraseIdx j).map eH):=⟨_,rfl⟩
  rw[<-hW]
  have Mi:A.yu (.op (σ.length+1) 0) W=δ (.aM [.agg (aV p.1),.agg (fQ p.2)]):=by rw[hW];simp only[A.yu,afy];rfl
  refine⟨[.lbx (bz a)],yL σ ((dn++[p]).filterMap st) [eH p] ((lf.eraseIdx j).map eH),λK=>?_,rfl,_,rfl⟩;rw[Mi,bS,jZ,bS,Iv,bS,Li _ _ rfl,bS,uA,bS];have Xz:∀k,uq [.oe br g ib 0,.agg (aV k),.ah c] W=δ (.aM [.agg (fQ (dX b k c).1),.bool (dX b k c).2],W):=λk=>by rw[hW];exact azm Bw k c _
  rw[Xz,bS];simp only[jZ,ext1,bS,zD,BS _ _ (show pI.length=9 from rfl),vX];obtain⟨JO,pm,g1,g2⟩:=hd.f10;have g3:((χ JO W).bind λc=>φ 0 c)=δ pm:=by rw[hW];exact(g2 _).1
  have g4:WK (.s [0,2]) pm (.agg (aV p.1)) (.agg FP) W=δ (.agg (kV d p.1)):=by rw[hW];exact(g2 _).2 p.1
  have skip:st p=ξ->K (.normal,[.lbx (bz a)],W)=K (.normal,[.lbx (bz a)],yL σ ((dn++[p]).filterMap st) [eH p] ((lf.eraseIdx j).map eH)):=by intro h;rw[hW,ZV,SU,h,ZP,TU]
  by_cases nF:(dX b p.1 c).2=η
  case neg=>
   have F8:(dX b p.1 c).2=ι:=by simpa using nF
   rw[F8];simp only[U6,Ax,gU,bS,nJ,cT,bM];exact skip (by rw[hst];simp only[A5,F8,true_or,if_true,SX])
  rw[nF];simp only[Xk,gF,bS,nI,hd.nc,g1,g3,g4,uA,Lk,DU,fN];by_cases C5:(gH d p.1).1=1
  case neg=>
   rw[cB C5];simp only[cT,bM];exact skip (by rw[hst];simp only[A5,C5,not_false_eq_true,or_true,if_true,SX])
  rw[cm (λq=>q C5)];simp only[cF,bS,ym,dL (Le (GL p.1 nF) Cu W),bM,iM,show φ 4 (bz a)=δ (.ah a.level)from rfl]
  have D0:¬((dX b p.1 c).2=ι\/¬(gH d p.1).1=1):=by rw[nF,C5];simp
  rw[show((((Θ (ε 1)).bind λv=>δ [v]).bind λmN=>(Φ 0 mN [(ε 0),i6]).bind λsH=>δ sH).bind λcs=>δ (Λ cs))=δ (.agg [.ah 1,.aA])from rfl,bS,aqn,bS,dL (arA _ _ _ W),bS]
  rw[show SD (.op ids 0)=δ (.op ids 0)from rfl,bS,show p5 1 (.op ids 0)=δ (.op ids 1)from rfl,bS,show((χ (.op ids 1) W).bind λL8=>φ 0 L8)=δ (.ah s.au)from by
    rw[hW];simp only[χ,iG hls,h1];rfl,bS,VT,bS]
  have hr:st p=δ (p.1,⟨vU ⟨xU (dX b p.1 c).1 c,0,c,0,a.level,⟨1,[]⟩⟩,s.au,η⟩):=by rw[hst];simp only[A5,aL D0,cq]
  rw[hW,aub,bS,Lx hpk,ZV,SU,hr,ZP]
 ·rintro dn w W Ce ⟨rfl,cu,rfl⟩;simp only[mB];obtain⟨m,hm⟩:∃m,m=dn.filterMap st:=⟨_,rfl⟩
  rw[<-hm];obtain⟨ex,hex⟩:∃ex:Heap,ex=[.map (m.map eH),.it cu (([]:List (aI×cS)).map eH)]:=⟨_,rfl⟩
  rw[show yL σ m cu (([]:List (aI×cS)).map eH)=σ++ex from by rw[hex]]
  have hmp:m.Perm (Lh d s b a):=by rw[EH,hm];exact Ce.filterMap st
  have hnd:(m.map (·.1)).Nodup:=by rw[hm,hst];exact Pj ((Ce.map (·.1)).nodup_iff.2 GP)
  simp only[bM,iM,bS,show φ 0 (bz a)=δ (.ah a.time)from rfl];rw[show((((Θ (ε c)).bind λv=>δ [v]).bind λF2=>(Φ 0 F2 [(ε 0),(ε 0),aY]).bind λF3=>((Θ (ε a.time)).bind λv=>δ [v]).bind λF4=>(Φ 1 F4 F3).bind λL9=>((Θ aY).bind λv=>δ [v]).bind λMa=>(Φ 2 Ma L9).bind λMb=>δ Mb).bind λcs=>δ (Λ cs))=δ (.agg [.ah c,.ah a.time,.bool ι])from rfl,bS];rw[show ψ 3 (.agg [.ah c,.ah a.time,.bool ι])=δ [.ah c,.ah a.time,.bool ι]from rfl,bS];have JH:(σ++ex)[br]? =δ (.arr g 10 (s.aD.map aQ)):=by rw[iG hlt];exact h2
  have M1:(s.aD.map aQ)[ib]? =δ (aQ b):=by rw[qo,hb];rfl
  have hlm:ib<(s.aD.map aQ).length:=by simpa using hlb
  have RB:br<(σ++ex).length:=by simp;omega
  have chain:∀(o:Nat)(row row' new:an),Φ o new row=δ row'->l8 (.oe br g ib o) new ((σ++ex).set br (.arr g 10 ((s.aD.map aQ).set ib row)))=δ ((σ++ex).set br (.arr g 10 ((s.aD.map aQ).set ib row'))):=by intro o row row' new hsp;rw[Lj (W:=(σ++ex).set br (.arr g 10 ((s.aD.map aQ).set ib row))) (rows:=(s.aD.map aQ).set ib row) (oF RB) (oF hlm) hsp,aBV,aBV]
  obtain⟨rv,Zm⟩:∃rv,rv=oS (λx=>Λ (aV x)) (λx=>Λ (fQ x)) b.runs:=⟨_,rfl⟩
  rw[Lj (row':=[.ah c,.ah a.time,.bool ι,.ah b.au,.ah b.jT,sl 11 bn b.bg,.ah b.bw,.ah b.eF,.ah b.cM,rv]) JH M1 (by rw[Zm];rfl),bS];rw[qX,bS,chain 6 _ (Bn c a.time b (-1) b.cM rv) _ rfl,bS];rw[bS,chain 8 _ (Bn c a.time b (-1) (-1) rv) _ rfl,bS];rw[show((Θ (Vq σ.length)).bind λv=>δ [v])=δ [.om σ.length]from rfl,bS,chain 9 _ (Bn c a.time b (-1) (-1) (.om σ.length)) _ rfl,bS];have hrow:[ε (vZ d s b a).aJ.shown,.ah (vZ d s b a).aJ.since,.bool (vZ d s b a).aJ.gQ,.ah (vZ d s b a).au,.ah (vZ d s b a).jT,sl 11 bn (vZ d s b a).bg,.ah (vZ d s b a).bw,.ah (vZ d s b a).eF,.ah (vZ d s b a).cM,.om σ.length]=Bn c a.time b (-1) (-1) (.om σ.length):=by rw[hc];rfl
  have fin:=aBE (σ:=σ) (ex:=ex) (b':=vZ d s b a) (m:=m) (R:=Lh d s b a) h2 hb hcan rfl hmp hnd (by rw[hex];rfl);rw[hrow]at fin;exact fin
 ·refine⟨rfl,[],?_⟩;rw[ZP]
end
section
open HP
structure agI (x : bl) : Prop where
 d:0<=x.cI/\x.cI<=36000000
 u:0<=x.up/\x.up<=36000000
 n:0<=x.down/\x.down<=36000000
 o:0<=x.other/\x.other<=36000000
 f:-1<=x.cM/\x.cM<=36000000
 c:qV x.fA=0
 m:∀m∈x.ef,(0<=m.cI/\m.cI<=36000000)/\(0<=m.time/\m.time<=36000000)
 k:∀m∈x.ef,0<=m.key.unit/\m.key.unit<=1000000
theorem rq{n lo hi:Int}(h:aX n lo hi=η):lo<=n/\n<=hi:=by unfold aX at h;simpa using h
theorem aed{l:List bl}(h:qi l=0){x:bl}(hx:x∈l):agI x:=by
 unfold qi at h;split at h
 ·cases h
 by_cases h2:iW (xx l) l 0=0;case neg=>rw[aO h2]at h;exact absurd h h2
 obtain⟨i,hi,e⟩:=Yj hx;have hc:=(wM l 0).1 h2 i x (by rw[<-e];exact bU hi);unfold xx at hc;split at hc
 ·cases hc
 split at hc
 ·cases hc
 split at hc
 ·cases hc
 split at hc
 ·cases hc
 rename_i h4;split at hc
 ·rename_i h5;exact absurd hc h5
 rename_i h5;split at hc
 ·cases hc
 simp only[Bool.or_eq_true,XX,not_or,Bool.not_eq_false]at h4;obtain⟨⟨⟨⟨a1,a2⟩,a3⟩,a4⟩,a5⟩:=h4;refine⟨rq a1,rq a2,rq a3,rq a4,rq a5,aC2.1 h5,λm hm=>?_,λm hm=>?_⟩;all_goals obtain⟨j,hj,e⟩:=Yj hm
 case refine_2=>
  unfold DR at hc;have ng:=(wM x.ef 0).1 hc j m (by rw[<-e];exact bU hj);unfold IW at ng;split at ng
  ·cases ng
  ·rename_i q;simp only[XX,Bool.not_eq_false]at q;have:=rq q;omega
 unfold DR at hc;have ng:=(wM x.ef 0).1 hc j m (by rw[<-e];exact bU hj);unfold IW at ng;split at ng
 ·cases ng
 split at ng
 ·cases ng
 split at ng
 ·cases ng
 split at ng
 ·cases ng
 split at ng
 ·cases ng
 split at ng
 ·cases ng
 rename_i h6;simp only[Bool.or_eq_true,XX,not_or,Bool.not_eq_false]at h6;exact⟨rq h6.1,rq h6.2⟩
theorem ab4{P:aI->Prop}:∀{l:List bl}{st:List bI},(∀c∈l,∀m∈c.ef,P m.key)->(∀e∈st,P e.key)->∀e∈l.foldl IF st,P e.key
 |[],st,_,h=>h
 |c::l,st,hl,h=>by
  refine ab4 (l:=l) (λc' qA=>hl c' (rA _ qA)) ?_
  have key:∀(ms:List gz)(st:List bI),(∀m∈ms,P m.key)->(∀e∈st,P e.key)->∀e∈ms.foldl (yF c.au) st,P e.key:=by
   intro ms;induction ms with
   |nil=>intro st _ h;exact h
   |cons m ms ih=>
    intro st hm h;refine ih _ (λm' hm'=>hm m' (rA _ hm')) ?_
    have h1:∀e∈(if Mh st m.key=η then st.eraseIdx (qt st m.key)else st),P e.key:=by
     intro e he;split at he
     ·exact h e (List.mem_of_mem_eraseIdx he)
     ·exact h e he
    intro e he;unfold yF at he;simp only at he;split at he
    ·exact h1 e he
    ·rcases jJ.1 he with he|he
     ·rcases jJ.1 he with he|he
      ·exact h1 e (xq he)
      ·rw[Un.1 he];exact hm m (by simp)
     ·exact h1 e (List.mem_of_mem_drop he)
  exact key c.ef st (hl c (by simp)) h
def Cf(l:List bl):List aI:=l.flatMap λc=>c.ef.map (·.key)
theorem acj{l:List bl}(h:qi l=0){k:aI}(hk:k∈Cf l):0<=k.unit/\k.unit<=1000000:=by obtain⟨c,hc,hm⟩:=List.mem_flatMap.1 hk;obtain⟨m,hm',rfl⟩:=fL.1 hm;exact(aed h hc).k m hm'
theorem aqU{b:bk}{x:bl}{e:bI}(he:e∈zT b x):e.key∈Cf b.bg:=by
 unfold zT AT at he;split at he
 ·simp at he
 split at he
 ·simp at he
 exact ab4 (P:=λk=>k∈Cf b.bg) (λc hc m hm=>List.mem_flatMap.2 ⟨c,xq hc,fL.2 ⟨m,hm,rfl⟩⟩) (by simp) e he
theorem Vw(b:bk)(x:bl):oL (zT b x)/\(zT b x).length<=600000000:=by
 unfold zT AT;split
 ·exact⟨SE,by simp⟩
 rename_i hz;split
 ·exact⟨SE,by simp⟩
 have hg:=PX (aC2.1 hz);have hlen:=hg.len;exact akZ (l:=b.bg.take (mX b.bg x.au+1)) (by simp;omega) (λc hc=>(hg.mv c (xq hc)).1)
structure uE (N : Int) (b : bk) : Prop where
 uh:fI D6 b.bg
 eD:qi b.bg=0
 can:FT b.runs
 runs:∀k r,(k,r)∈b.runs.getD []->uB r.gG/\k∈Cf b.bg
 eF:0<=b.eF/\b.eF<=65535
 sM:0<=b.aJ.shown/\b.aJ.shown<=b.aJ.since/\b.aJ.since<=N
 bw:-1<=b.bw/\b.bw<(b.bg.length:Int)
 sO:b.cM<0\/(b.bw+1<(b.bg.length:Int)/\dU b.aJ N<=b.cM/\b.cM<=72000000)
structure kU (N : Int) (s : dA) : Prop where
 n:0<=N/\N<=36000000
 len:s.aD.length<=40
 bs:∀b∈s.aD,uE N b
 vK:0<=s.vK/\s.vK<=65535
structure yG (d : bB) : Prop where
 pre:fI BQ d.setup.cG
 lev:∀k v,0<=(zL d.setup.cG k v).1/\(zL d.setup.cG k v).1<=65535
 par:∀k,0<=(gH d k).2.1/\(gH d k).2.1<=65535
theorem FC{N t:Int}{b:bk}(h:0<=b.aJ.shown/\b.aJ.shown<=b.aJ.since/\b.aJ.since<=N)(h1:N<=t)(h2:t<=36000000):dU b.aJ t=(if b.aJ.gQ=η then b.aJ.shown else b.aJ.shown+t-b.aJ.since)/\0<=dU b.aJ t/\dU b.aJ t<=t:=by
 obtain⟨a1,a2,a3⟩:=h;unfold dU;split
 ·exact⟨rfl,a1,by omega⟩
 ·rw[show θ.wrap (b.aJ.shown+t)=b.aJ.shown+t from cO (by unfold aU;omega),cO (by unfold aU;omega)];exact⟨rfl,by omega,by omega⟩
theorem uE.ok{N t:Int}{b:bk}(h:uE N b)(h1:N<=t)(h2:t<=36000000):wX b t:=
 ⟨λk r hr=>(h.runs k r (I2 hr)).1,h.eF,(FC h.sM h1 h2).2.1⟩
theorem az2{N:Int}{b:bk}(h:uE N b)(hN:N<=36000000):gq b=if b.cM<0\/b.aJ.gQ=η then -1 else b.aJ.since+b.cM-b.aJ.shown:=by
 obtain⟨a1,a2,a3⟩:=h.sM;unfold gq;split
 ·rfl
 ·rename_i q;rcases h.sO with h3|⟨h3,h4,h5⟩
  ·exact absurd (.inl h3) q
  ·have:=(FC h.sM (Y7 N) hN).2;rw[show θ.wrap (b.aJ.since+b.cM)=b.aJ.since+b.cM from cO (by unfold aU;omega),cO (by unfold aU;omega)]
theorem uE.mono{N N':Int}{b:bk}(h:uE N b)(h1:N<=N')(h2:N'<=36000000)(hd:gq b<0\/N'<=gq b):uE N' b:=by
 obtain⟨a1,a2,a3⟩:=h.sM;refine⟨h.uh,h.eD,h.can,h.runs,h.eF,⟨a1,a2,by omega⟩,h.bw,?_⟩;rcases h.sO with h3|⟨h3,h4,h5⟩
 ·exact .inl h3
 ·by_cases hf:b.cM<0
  ·exact .inl hf
  refine .inr ⟨h3,?_,h5⟩;have e1:=(FC h.sM (Y7 N) (by omega)).1;have e2:=(FC (t:=N') h.sM h1 h2).1;have e3:=az2 h (by omega);rw[e2];rw[e1]at h4;by_cases hs:b.aJ.gQ=η
  ·rw[aO hs]at h4 ⊢;exact h4
  ·rw[aL hs]at h4 ⊢;rw[aL (λq=>q.elim hf hs)]at e3;omega
theorem PU{f:iF}(ha:0<=f.eD/\f.eD<=65535)(hb:0<=f.to/\f.to<=65535)(hs:0<=f.start/\f.start<=36000000)(hd:0<=f.cI/\f.cI<=36000000)(ht:0<=f.time/\f.time<=36000000)(hc:qV f.fA=0):uB (vU f):=by
 have e1:mn f.start 36000000=f.start:=by unfold mn;rw[aL (by omega)]
 have e2:θ.wrap (36000000-f.start)=36000000-f.start:=cO (by unfold aU;omega);have e3:0<=mn f.cI (36000000-f.start)/\mn f.cI (36000000-f.start)<=36000000-f.start:=by unfold mn;split<;>omega
 have e4:θ.wrap (36000000-f.start-mn f.cI (36000000-f.start))=36000000-f.start-mn f.cI (36000000-f.start):=cO (by unfold aU;omega);have e5:0<=mn f.time (36000000-f.start-mn f.cI (36000000-f.start))/\mn f.time (36000000-f.start-mn f.cI (36000000-f.start))<=36000000-f.start-mn f.cI (36000000-f.start):=by unfold mn;split<;>omega
 unfold vU;rw[e1,e2,e4];exact⟨ha,hb,hs,⟨e3.1,by show mn f.cI _<=_;omega⟩,⟨e5.1,by show mn f.time _<=_;omega⟩,by show f.start+mn f.cI _+mn f.time _<=_;omega,hc⟩
theorem ap3{d:bB}{x:bl}(hx:agI x)(k:aI){eD to c:Int}(ha:0<=eD/\eD<=65535)(hb:0<=to/\to<=65535)(hc:0<=c/\c<=36000000):uB (DY d x k eD to c):=by
 unfold DY
 have h0:0<=(Lm (gH d k).1 x eD to c).time/\(Lm (gH d k).1 x eD to c).time<=36000000:=by
  unfold Lm;simp only;split
  ·split
   ·exact hx.n
   ·exact hx.u
  ·exact hx.o
 have h1:∃dl tm,Qj x k (Lm (gH d k).1 x eD to c)=⟨eD,to,c,dl,tm,x.fA⟩/\(0<=dl/\dl<=36000000)/\0<=tm/\tm<=36000000:=by
  unfold Qj;split
  ·exact⟨_,_,rfl,hx.d,h0⟩
  ·rename_i m hm;split
   ·have:=hx.m m (zV hm);exact⟨_,_,rfl,this.1,this.2⟩
   ·exact⟨_,_,rfl,hx.d,h0⟩
 obtain⟨dl,tm,e,hd,ht⟩:=h1;rw[e];unfold IJ;split
 ·exact PU ha hb hc hd (by simp) hx.c
 ·exact PU ha hb hc hd ht hx.c
theorem asr{g:Int}{b:bk}{r:cS}(hr:uB r.gG)(hf:0<=b.eF/\b.eF<=65535)(c:Int):0<=Jg g b r c/\Jg g b r c<=65535:=by
 unfold Jg;split
 ·exact auh (IN hr c) hf
 ·exact IN hr c
theorem atX{d:bB}(hd:yG d){k:aI}{t:Int}:∀{bs:List bk},(∀b∈bs,wX b t)->0<=(C9 d bs k t).out/\(C9 d bs k t).out<=65535:=by
 intro bs hb;unfold C9
 have key:∀(l:List bk)(m:Gv),(∀b∈l,wX b t)->(0<=m.out/\m.out<=65535)->0<=(l.foldl (tJ (gH d k).1 k t) m).out/\(l.foldl (tJ (gH d k).1 k t) m).out<=65535:=by
  intro l;induction l with
  |nil=>intro m _ h;exact h
  |cons b l ih=>
   intro m hl h;rw[List.foldl_cons];refine ih _ (λb hb=>hl b (by simp [hb])) ?_;have JG:=hl b (by simp);unfold tJ;split
   ·exact h
   ·rename_i hq;split
    ·have nF:(dX b k (dU b.aJ t)).2=η:=by
      cases h:(dX b k (dU b.aJ t)).2
      ·exact absurd (.inl h) hq
      ·rfl
     exact asr (B0 JG nF) JG.eF _
    ·exact h
 exact key bs _ hb (hd.par k)
theorem ad0{l:List (aI×cS)}(h:(l.map (·.1)).Nodup):FT (δ (Ed l)):=by
 intro l' e;injection e with e
 subst e;exact⟨((azQ l).map (·.1)).nodup_iff.2 h,apK l⟩
theorem OU{N:Int}{b:bk}(h:uE N b):((b.runs.getD []).map (·.1)).Nodup:=by
 cases hr:b.runs with
 |none=>simp
 |some l=>exact(h.can l hr).1
theorem ae6{d:bB}(hd:yG d){s:dA}{N t:Int}(hs:kU N s)(h1:N<=t)(h2:t<=36000000){b:bk}(hb:b∈s.aD){to:Nat}{x:bl}(hx:b.bg[to]? =δ x):uE t (lM d s b x (to:Int) t):=by
 have hB:=hs.bs b hb;have hN:=hs.n;have hto:=(bD.1 hx).1;have GU:=aed hB.eD (cE hx);obtain⟨c0,c1,c2⟩:=FC hB.sM h1 h2;have hob:∀b∈s.aD,wX b t:=λb hb=>(hs.bs b hb).ok h1 h2
 have JG:=hob b hb;refine⟨hB.uh,hB.eD,ad0 (go_nodup (Vw b x).1 (OU hB)),λk r hkr=>?_,hB.eF,⟨c1,c2,Y7 _⟩,⟨by show -1<=(to:Int);omega,by show(to:Int)<_;exact_mod_cast hto⟩,?_⟩
 ·have hm:(k,r)∈FE d s b x t:=(azQ _).mem_iff.1 hkr;unfold FE at hm;rcases jJ.1 hm with hm|hm
  ·obtain⟨e,he,q⟩:=fL.1 hm;injection q with q1 q2
   subst q2;refine⟨?_,by rw[<-q1];exact aqU he⟩;unfold Ba;split
   ·rename_i hq;exact B0 JG hq.1
   ·refine ap3 GU _ ?_ (hd.lev _ _) ⟨c1,by omega⟩;unfold I7;split
    ·rename_i hq;exact IN (B0 JG hq) _
    ·split
     ·exact atX hd hob
     ·simp
  ·obtain⟨p,hp,q⟩:=YQ.1 hm;obtain⟨r',hr',q⟩:=eP.1 q;injection q with q1 q2
   subst q2;refine⟨?_,by rw[<-q1];exact(hB.runs p.1 p.2 hp).2⟩;unfold vE at hr';split at hr'
   ·cases hr'
   ·rename_i hq;injection hr' with hr'
    subst hr'
    have nF:(dX b p.1 (dU b.aJ t)).2=η:=by
     cases h:(dX b p.1 (dU b.aJ t)).2
     ·exact absurd (.inl h) hq
     ·rfl
    have hfo:=B0 JG nF;split
    ·exact hfo
    ·exact PU (IN hfo _) (by simp) ⟨c1,by show dU b.aJ t<=_;omega⟩ GU.d GU.n GU.c
 ·show(lM d s b x (to:Int) t).cM<0\/_;by_cases hf:0<=x.cM/\(to:Int)+1<(b.bg.length:Int)
  ·have hxf:=GU.f
   have e:(lM d s b x (to:Int) t).cM=dU b.aJ t+x.cM:=by show(if 0<=x.cM/\(to:Int)+1<(b.bg.length:Int)then θ.wrap (dU b.aJ t+x.cM)else -1)=_;rw[aO hf,cO (by unfold aU;omega)]
   refine .inr ⟨hf.2,?_,by rw[e];omega⟩;rw[e]
   have:dU (lM d s b x (to:Int) t).aJ t=dU b.aJ t:=by show dU ⟨dU b.aJ t,t,ι⟩ t=_;generalize dU b.aJ t=c at c1 c2;show θ.wrap (θ.wrap (c+t) -t)=_;rw[show θ.wrap (c+t)=c+t from cO (by unfold aU;omega),cO (by unfold aU;omega)];omega
   rw[this];omega
  ·refine .inl ?_;show(if 0<=x.cM/\(to:Int)+1<(b.bg.length:Int)then θ.wrap (dU b.aJ t+x.cM)else -1)<0;rw[aL hf];decide
def BU(t:Int)(i:Nat)(b:bk)(st:Int×Int):Int×Int:=if 0<=gq b/\gq b<=t/\(st.1<0\/gq b<st.2)then((i:Int),gq b)else st
def rZ(t:Int):List bk->Nat->Int×Int->Int×Int
 |[],_,st=>st
 |b::r,i,st=>rZ t r (i+1) (BU t i b st)
def Ly(t:Int)(pre:List bk)(st:Int×Int):Prop:=(st.1<0/\∀b∈pre,¬(0<=gq b/\gq b<=t))\/∃(j:Nat)(b:bk),pre[j]? =δ b/\st=((j:Int),gq b)/\0<=gq b/\gq b<=t/\∀b'∈pre,0<=gq b'->gq b'<=t->gq b<=gq b'
theorem am9{t:Int}{pre:List bk}{b:bk}{st:Int×Int}(h:Ly t pre st):Ly t (pre++[b]) (BU t pre.length b st):=by
 unfold BU;by_cases hc:0<=gq b/\gq b<=t/\(st.1<0\/gq b<st.2)
 ·rw[aO hc];refine .inr ⟨pre.length,b,by simp,rfl,hc.1,hc.2.1,λb' hb' q1 q2=>?_⟩;rcases jJ.1 hb' with hb'|hb'
  ·rcases h with⟨_,k⟩|⟨j,b0,k1,k2,k3,k4,k5⟩
   ·exact absurd ⟨q1,q2⟩ (k b' hb')
   ·rcases hc.2.2 with q|q
    ·rw[k2]at q;simp only at q;omega
    ·rw[k2]at q;simp only at q;have:=k5 b' hb' q1 q2;omega
  ·simp only[Un]at hb';subst hb';exact Y7 _
 ·rw[aL hc];rcases h with⟨k0,k⟩|⟨j,b0,k1,k2,k3,k4,k5⟩
  ·refine .inl ⟨k0,λb' hb' q=>?_⟩;rcases jJ.1 hb' with hb'|hb'
   ·exact k b' hb' q
   ·simp only[Un]at hb';subst hb';exact hc ⟨q.1,q.2,.inl k0⟩
  ·refine .inr ⟨j,b0,?_,k2,k3,k4,λb' hb' q1 q2=>?_⟩
   ·rw[iG (bD.1 k1).1];exact k1
   ·rcases jJ.1 hb' with hb'|hb'
    ·exact k5 b' hb' q1 q2
    ·simp only[Un]at hb';subst hb';by_cases q:gq b'<gq b0
     ·exact absurd ⟨q1,q2,.inr (by rw[k2];exact q)⟩ hc
     ·omega
theorem aeW{t:Int}:∀{l pre:List bk}{st:Int×Int},Ly t pre st->Ly t (pre++l) (rZ t l pre.length st)
 |[],pre,st,h=>by rw[TU];exact h
 |b::l,pre,st,h=>by have:=aeW (l:=l) (am9 (b:=b) h);rw[kS,Ve]at this;exact this
def xh (d:bB) (t:Int) (s:dA):Option dA:=
 if(rZ t s.aD 0 (-1,0)).1<0 then ξ
 else(s.aD[(rZ t s.aD 0 (-1,0)).1.toNat]?).bind λb=>(b.bg[(b.bw+1).toNat]?).map λx=>
  {s with au:=θ.wrap (s.au+1),aD:=s.aD.set (rZ t s.aD 0 (-1,0)).1.toNat (lM d {s with au:=θ.wrap (s.au+1)} b x (b.bw+1) (rZ t s.aD 0 (-1,0)).2)}
def yq (d:bB) (t:Int):Nat->dA->dA
 |0,s=>s
 |n+1,s=>match xh d t s with
  |none=>s
  |some s'=>yq d t n s'
def QE(b:bk):Nat:=((b.bg.length:Int) -b.bw).toNat
def zS(l:List bk):Nat:=(l.map QE).sum
def jB (d:bB) (s:dA) (t:Int):dA:=yq d t (zS s.aD) s
theorem aoT{l:List bk}{i:Nat}{b b':bk}(h:l[i]? =δ b)(hl:QE b'<QE b):zS (l.set i b')<zS l:=by
 unfold zS;induction l generalizing i with
 |nil=>cases h
 |cons y l ih=>
  cases i with
  |zero=>
   injection h with h
   subst h;simp only[aCg,eo,List.sum_cons];omega
  |succ i=>have:=ih (i:=i) h;simp only[aBU,eo,List.sum_cons];omega
theorem Vy{N:Int}{s:dA}(h:kU N s)(n:Int):kU N {s with au:=n}:=⟨h.n,h.len,h.bs,h.vK⟩
theorem adL{N N':Int}{s:dA}(h:kU N s)(h1:N<=N')(h2:N'<=36000000)(hd:∀b∈s.aD,gq b<0\/N'<=gq b):kU N' s:=
 ⟨⟨by have:=h.n;omega,h2⟩,h.len,λb hb=>(h.bs b hb).mono h1 h2 (hd b hb),h.vK⟩
theorem PG{N:Int}{s:dA}(h:kU N s)(i:Nat){b:bk}(hb:uE N b)(n:Int):kU N {s with au:=n,aD:=s.aD.set i b}:=
 ⟨h.n,by show(s.aD.set i b).length<=40;rw[VA];exact h.len,λb' hb'=>by
  rcases List.mem_or_eq_of_mem_set hb' with q|q
  ·exact h.bs b' q
  ·rw[q];exact hb,h.vK⟩
theorem aBs{d:bB}(hd:yG d){s:dA}{N t:Int}(hs:kU N s)(h1:N<=t)(h2:t<=36000000):
  ((rZ t s.aD 0 (-1,0)).1<0/\xh d t s=ξ/\kU t s)\/
  ∃(f:Nat)(b:bk)(x:bl)(to:Nat)(tm:Int),rZ t s.aD 0 (-1,0)=((f:Int),tm)/\s.aD[f]? =δ b/\b.bw+1=(to:Int)/\b.bg[to]? =δ x/\N<=tm/\tm<=t/\(∀b∈s.aD,uE tm b)/\kU tm {s with au:=θ.wrap (s.au+1)}/\
   xh d t s=δ {s with au:=θ.wrap (s.au+1),aD:=s.aD.set f (lM d {s with au:=θ.wrap (s.au+1)} b x (to:Int) tm)}/\
   kU tm {s with au:=θ.wrap (s.au+1),aD:=s.aD.set f (lM d {s with au:=θ.wrap (s.au+1)} b x (to:Int) tm)}/\
   zS (s.aD.set f (lM d {s with au:=θ.wrap (s.au+1)} b x (to:Int) tm))<zS s.aD:=by
 have hD:Ly t s.aD (rZ t s.aD 0 (-1,0)):=by have:=aeW (t:=t) (l:=s.aD) (pre:=[]) (st:=(-1,0)) (.inl ⟨by decide,by simp⟩);simpa using this
 have hmin:∀b∈s.aD,gq b<0\/N<=gq b:=by
  intro b hb;have hB:=hs.bs b hb;rw[az2 hB hs.n.2];split
  ·exact .inl (by decide)
  ·rename_i q;right;rcases hB.sO with h3|⟨h3,h4,h5⟩
   ·exact absurd (.inl h3) q
   ·rw[(FC hB.sM (Y7 N) hs.n.2).1,aL (λz=>q (.inr z))]at h4;omega
 rcases hD with⟨k0,k⟩|⟨f,b,k1,k2,k3,k4,k5⟩
 ·refine .inl ⟨k0,?_,adL hs h1 h2 λb hb=>?_⟩
  ·unfold xh;rw[aO k0]
  ·have:=k b hb;omega
 ·have yZ:=cE k1;have hB:=hs.bs b yZ;have hN:=hs.n;have me:N<=gq b:=by rcases hmin b yZ with q|q<;>omega
  have Em:¬(b.cM<0\/b.aJ.gQ=η):=by intro q;have e:=az2 hB hN.2;rw[aO q]at e;omega
  have Rx:b.bw+1<(b.bg.length:Int):=by
   rcases hB.sO with h3|⟨h3,_⟩
   ·exact absurd (.inl h3) Em
   ·exact h3
  have hc1:=hB.bw;have hto:(b.bw+1).toNat<b.bg.length:=by omega
  have hx:b.bg[(b.bw+1).toNat]? =δ b.bg[(b.bw+1).toNat]:=bU hto
  have hmono:kU (gq b) {s with au:=θ.wrap (s.au+1)}:=Vy (adL hs me (by omega) λb' hb'=>by
   rcases hmin b' hb' with q|q
   ·exact .inl q
   ·by_cases q2:gq b'<=t
    ·exact .inr (k5 b' hb' (by omega) q2)
    ·exact .inr (by omega)) _
  have hci:((b.bw+1).toNat:Int)=b.bw+1:=by omega
  refine .inr ⟨f,b,b.bg[(b.bw+1).toNat],(b.bw+1).toNat,gq b,k2,k1,hci.symm,hx,me,k4,hmono.bs,hmono,?_,?_,aoT k1 ?_⟩
  ·unfold xh;rw[k2];simp only;rw[aL (by omega),Tl,k1,aP,hx,cq,hci]
  ·exact PG (s:={s with au:=θ.wrap (s.au+1)}) hmono f (ae6 hd hmono (Y7 _) (by omega) yZ hx) _
  ·unfold QE;show((b.bg.length:Int) -(((b.bw+1).toNat:Nat):Int)).toNat<_;omega
theorem ab2{d:bB}(hd:yG d){t:Int}(h2:t<=36000000):∀(n:Nat){s:dA}{N:Int},kU N s->N<=t->zS s.aD<=n->kU t (yq d t n s)
 |0,s,N,hs,h1,hn=>by
  rcases aBs hd hs h1 h2 with⟨_,_,h⟩|⟨f,b,x,to,tm,_,_,_,_,_,_,_,_,_,_,hl⟩
  ·exact h
  ·omega
 |n+1,s,N,hs,h1,hn=>by
  unfold yq;rcases aBs hd hs h1 h2 with⟨_,e,h⟩|⟨f,b,x,to,tm,_,_,_,_,_,k,_,_,e,h,hl⟩
  ·rw[e];exact h
  ·rw[e];exact ab2 hd h2 n h k (by show zS (s.aD.set f _)<=n;omega)
theorem UF{d:bB}(hd:yG d){s:dA}{N t:Int}(hs:kU N s)(h1:N<=t)(h2:t<=36000000):kU t (jB d s t):=ab2 hd h2 _ hs h1 (bF _)
end
section
open HP
theorem aqs{W:Heap}{br g i:Nat}{l:List bk}{b:bk}(h:W[br]? =δ (.arr g 10 (l.map aQ)))(hb:l[i]? =δ b)(sh:Sh):Lt W sh (.oe br g i 0) (.rp (aQ b)):=by
 refine⟨⟨.rp (aQ b),?_,rfl,rfl⟩,rfl,λh=>by cases h⟩;have e:(l.map aQ)[i]? =δ (aQ b):=by rw[qo,hb];rfl
 have q:=BN b W 0 7;simp only[Wr,aBP,if_false,h,if_true,e,Tq,Fw,q,cq]
theorem auJ{W:Heap}{br g i:Nat}{l:List bk}{b:bk}(h:W[br]? =δ (.arr g 10 (l.map aQ)))(hb:l[i]? =δ b):Dl [.oe br g i 0] W=δ (.ah (gq b),W):=
 Bk (dR:=[.oe br g i 0]) (ts:=[.rp (aQ b)]) ⟨aqs h hb _,trivial⟩ (λσ=>ag5 b σ) rfl
theorem Wy{br g n i:Nat}(h:i<n):UM 10 (.os br g 10 0 n) (.ah (i:Int))=δ (.oe br g i 0):=by
 have:((i:Int)<(n:Int)):=by omega
 simp [UM,A.idx,this]
theorem apY{W:Heap}{L br g:Nat}{s:dA}{t:Int}(h1:W[L]? =δ (.box (ck (.os br g 10 0 s.aD.length) s)))(h2:W[br]? =δ (.arr g 10 (s.aD.map aQ))){i:Nat}{b:bk}(hb:s.aD[i]? =δ b)(hs:s.aD.length<=aZ)(u:AV)(st:Int×Int):(J6 (ε t) L (ε (s.aD.length:Int))) [u,.ah st.1,.ah st.2,.ah (i:Int)] W=δ (.normal,[u,.ah (BU t i b st).1,.ah (BU t i b st).2,.ah ((i+1:Nat):Int)],W):=by
 have hi:=(bD.1 hb).1;try unfold J6
 simp only[bM,cg];rw[gZ hb,bS,cK,show p5 0 (.op L 0)=δ (.op L 0)from rfl,bS,show((χ (.op L 0) W).bind λc=>φ 0 c)=δ (.os br g 10 0 s.aD.length)from by simp only[χ,h1];rfl,bS,Wy hi,bS,auJ h2 hb,bS,qp,bS];unfold BU;by_cases c1:0<=gq b
 case neg=>
  rw[cm c1,aL (λq=>c1 q.1)];simp only[yX,gU,bS,nI,cF,bM,cg];rw[fK hb hs,bS]
 rw[cB c1];simp only[gT,bS,QT,nJ];by_cases c2:gq b<=t
 case neg=>
  rw[cm c2,aL (λq=>c2 q.2.1)];simp only[yX,gU,bS,nI,cF,bM,cg];rw[fK hb hs,bS]
 rw[cB c2];simp only[gT,bS,lp,nJ];by_cases c3:st.1<0
 ·rw[cB c3,aO ⟨c1,c2,.inl c3⟩];simp only[Ax,gU,bS,nJ,cT,bM,cg];rw[fK hb hs,bS]
 rw[cm c3];simp only[gF,bS,lp,nI];by_cases c4:gq b<st.2
 ·rw[cB c4,aO ⟨c1,c2,.inr c4⟩];simp only[cT,bS,bM,cg];rw[fK hb hs,bS]
 ·rw[cm c4,aL (λq=>q.2.2.elim c3 c4)];simp only[cF,bS,bM,cg];rw[fK hb hs,bS]
theorem apX{W:Heap}{L br g:Nat}{s:dA}{t:Int}(h1:W[L]? =δ (.box (ck (.os br g 10 0 s.aD.length) s)))(h2:W[br]? =δ (.arr g 10 (s.aD.map aQ)))(hs:s.aD.length<=aZ)(u:AV):p7 (J6 (ε t) L (ε (s.aD.length:Int))) [u,.ah (-1),.ah 0,.ah 0] W=δ (.exit 2,[u,.ah (rZ t s.aD 0 (-1,0)).1,.ah (rZ t s.aD 0 (-1,0)).2,.ah (s.aD.length:Int)],W):=by
 refine C0 (nO (Q:=λq=>q=(.exit 2,[u,.ah (rZ t s.aD 0 (-1,0)).1,.ah (rZ t s.aD 0 (-1,0)).2,.ah (s.aD.length:Int)],W)) (λz v w=>∃(i:Nat)(st:Int×Int),i<=s.aD.length/\v=[u,.ah st.1,.ah st.2,.ah (i:Int)]/\w=W/\z=s.aD.length-i/\rZ t (s.aD.drop i) i st=rZ t s.aD 0 (-1,0)) ?_ (n:=s.aD.length) ⟨0,(-1,0),kD _,rfl,rfl,rfl,rfl⟩);rintro z v w ⟨i,st,hi,rfl,rfl,hz,hT⟩;by_cases h:i<s.aD.length
 ·have hb:s.aD[i]? =δ s.aD[i]:=bU h;refine .inl ⟨s.aD.length-(i+1),_,_,by omega,apY h1 h2 hb hs u st,i+1,BU t i s.aD[i] st,h,rfl,rfl,rfl,?_⟩;rw[Xo h]at hT;exact hT
 ·have:i=s.aD.length:=by omega
  subst this;rw[WU]at hT;rw[<-hT];refine .inr ⟨_,?_,by simp,rfl⟩;try unfold J6
  simp only[bM,cg];rw[iu,bS,cD];rfl
abbrev sF(σ:Heap)(g:Nat)(s:dA):Heap:=σ++[.box (ck (.os (σ.length+1) g 10 0 s.aD.length) s),.arr g 10 (s.aD.map aQ)]
theorem agZ(σ:Heap)(g:Nat)(s:dA):(sF σ g s)[σ.length]? =δ (.box (ck (.os (σ.length+1) g 10 0 s.aD.length) s)):=by rw[iz (bF _),Wz];rfl
theorem Lz(σ:Heap)(g:Nat)(s:dA):(sF σ g s)[σ.length+1]? =δ (.arr g 10 (s.aD.map aQ)):=by rw[iz (by omega),show σ.length+1-σ.length=1 by omega];rfl
theorem afQ(σ:Heap)(b0 b1 b:aT):(σ++[b0,b1]).set σ.length b=σ++[b,b1]:=by rw[pJ _ _ (bF _),Wz];rfl
theorem atk(σ:Heap)(b0 b1 b:aT):(σ++[b0,b1]).set (σ.length+1) b=σ++[b0,b]:=by rw[pJ _ _ (by omega),show σ.length+1-σ.length=1 by omega];rfl
theorem uK.ext{p:AV}{d:bB}{σ:Heap}(h:uK p d σ)(ex:Heap):uK p d (σ++ex):=by obtain⟨q1,q2,f1,f2,f3⟩:=h.f2;obtain⟨JO,pm,g1,g2⟩:=h.f10;exact⟨h.nc,⟨q1,q2,f1,f2,λex'=>by rw[kS];exact f3 _⟩,⟨JO,pm,g1,λex'=>by rw[kS];exact g2 _⟩,λex'=>by rw[kS];exact h.lt _⟩
def aA3(W:Heap)(v:AV)(l:List bk):Prop:=(l=[]/\(v=.aA\/v=.ez))\/∃id g,v=.os id g 10 0 l.length/\W[id]? =δ (.arr g 10 (l.map aQ))
abbrev wg:an:=[i6,(ε 0),(ε 0),aY]
theorem amU{d:bB}(hI:yG d){σ:Heap}{pd:AV}(hd:uK pd d σ){t:Int}(h2:t<=36000000){s:dA}{N:Int}(hs:kU N s)(h1:N<=t)(g:Nat):p7 (J5 pd (ε t) σ.length) [.lbx wg] (sF σ g s)=δ (.ret,[.lbx (ck (.os (σ.length+1) g 10 0 (jB d s t).aD.length) (jB d s t))],sF σ g (jB d s t)):=by
 obtain⟨fs,hfs⟩:∃fs,fs=jB d s t:=⟨_,rfl⟩
 rw[<-hfs];refine C0 (nO (Q:=λq=>q=(.ret,[.lbx (ck (.os (σ.length+1) g 10 0 fs.aD.length) fs)],sF σ g fs)) (λz v w=>∃(s:dA)(N:Int),kU N s/\N<=t/\v=[.lbx wg]/\w=sF σ g s/\zS s.aD<=z/\yq d t z s=fs) ?_ (n:=zS s.aD) ⟨s,N,hs,h1,rfl,rfl,bF _,hfs.symm⟩);rintro z v w ⟨s,N,hs,h1,rfl,rfl,hz,hF⟩;have nH:s.aD.length<=aZ:=by have:=hs.len;unfold aZ;omega
 have A1:=agZ σ g s;have A2:=Lz σ g s;have rdS:((χ (.op σ.length 0) (sF σ g s)).bind λc=>φ 0 c)=δ (.os (σ.length+1) g 10 0 s.aD.length):=by simp only[χ,A1];rfl
 have Ni:((χ (.op σ.length 0) (sF σ g s)).bind λc=>l7 0 4 c)=δ (.agg (ck (.os (σ.length+1) g 10 0 s.aD.length) s)):=by simp only[χ,A1];rfl
 have BE:((χ (.op σ.length 1) (sF σ g s)).bind λc=>φ 0 c)=δ (.ah s.au):=by simp only[χ,A1];rfl
 have L1:=apX (t:=t) A1 A2 nH (.lbx wg);rcases aBs hI hs h1 h2 with⟨k0,k1,k2⟩|⟨f,b,x,to,tm,e1,e2,e3,e4,e5,e6,e7,e8,e9,lY,e11⟩
 ·have Cw:s=fs:=by
   cases z with
   |zero=>exact hF
   |succ z=>unfold yq at hF;rw[k1]at hF;exact hF
  refine .inr ⟨_,?_,by simp,rfl⟩;unfold J5;rw[<-Cw];rw[show p5 0 (.op σ.length 0)=δ (.op σ.length 0)from rfl,bS,rdS,bS,show UT (.os (σ.length+1) g 10 0 s.aD.length)=δ (.ah (s.aD.length:Int))from rfl,bS];refine(congrArg (λz=>aB5 z _) L1).trans ?_;rw[bS];simp only[mB,bM,cg];rw[lp,bS,cB k0,cK,Ni,bS,iM,bS];rfl
 ·have fV:0<z:=by omega
  obtain⟨z',rfl⟩:∃z',z=z'+1:=⟨z-1,by omega⟩
  unfold yq at hF;rw[e9]at hF;refine .inl ⟨z',_,_,by omega,?_,_,tm,lY,e6,rfl,rfl,?_,hF⟩
  ·unfold J5;rw[show p5 0 (.op σ.length 0)=δ (.op σ.length 0)from rfl,bS,rdS,bS,show UT (.os (σ.length+1) g 10 0 s.aD.length)=δ (.ah (s.aD.length:Int))from rfl,bS];refine(congrArg (λz=>aB5 z _) L1).trans ?_;rw[bS,e1];simp only[mB,bM,cg];rw[lp,bS,cm (by omega),cD,show p5 1 (.op σ.length 0)=δ (.op σ.length 1)from rfl,bS,BE,bS,lU,bS];simp only[bS,qX]
   have hst:l8 (.op σ.length 1) [.ah (θ.wrap (s.au+1))] (sF σ g s)=δ (sF σ g {s with au:=θ.wrap (s.au+1)}):=by simp only[l8,A1];rw[show Φ 1 [.ah (θ.wrap (s.au+1))] (ck (.os (σ.length+1) g 10 0 s.aD.length) s)=δ (ck (.os (σ.length+1) g 10 0 s.aD.length) {s with au:=θ.wrap (s.au+1)})from rfl,cq,afQ]
   rw[hst,bS];obtain⟨s1,hs1⟩:∃s1:dA,s1={s with au:=θ.wrap (s.au+1)}:=⟨_,rfl⟩
   have Jd:s1.aD=s.aD:=by rw[hs1]
   rw[<-hs1]at e8 lY ⊢;have B1:=agZ σ g s1;have B2:=Lz σ g s1;have hfl:=(bD.1 e2).1;rw[show((χ (.op σ.length 0) (sF σ g s1)).bind λc=>φ 0 c)=δ (.os (σ.length+1) g 10 0 s1.aD.length)from by simp only[χ,B1];rfl,bS,Wy (by rw[Jd];exact hfl),bS,show p5 6 (.oe (σ.length+1) g f 0)=δ (.oe (σ.length+1) g f 6)from by simp [p5],bS]
   rw[show((χ (.oe (σ.length+1) g f 6) (sF σ g s1)).bind λc=>φ 0 c)=δ (.ah b.bw)from by
    simp only[χ,B2,if_true,qo,Jd,e2,cq];rfl,bS,lU,bS]
   have hB:=e7 b (cE e2);have gV:=(bD.1 e4).1;have MT:b.bg.length<=aZ:=hB.uh.1;rw[show θ.wrap (b.bw+1)=(to:Int)from by rw[e3];exact cO (by unfold aU;unfold aZ at MT;omega)];have xM:=Vw b x;have hgo:=agb (d:=d) (s:=s1) (σ:=sF σ g s1) (pd:=pd) (ids:=σ.length) (br:=σ.length+1) (g:=g) (ib:=f) (to:=to) (b:=b) (x:=x) (t:=tm) (hd.ext _) B1 B2 (by rw[Jd];exact e2) e4 (by rw[Jd];exact nH) (by rw[Jd];exact λb hb=>(e7 b hb).ok (Y7 _) (by omega)) hI.pre hB.uh xM.1 (by have:=xM.2;unfold aZ;omega) (by rw[Jd];exact λb hb=>(e7 b hb).can);rw[hgo,bS,atk];simp only[hs1,sF,ck,VA]
  ·exact Nat.le_of_lt_succ (vP e11 hz)
def IT(σ:Heap)(s:dA)(v:AV)(H:Heap):Prop:=(s.aD=[]/\v=.ez/\H=σ++[.box (ck v s)])\/∃g,v=.os (σ.length+1) g 10 0 s.aD.length/\H=sF σ g s
theorem IT.ex{σ H:Heap}{s:dA}{v:AV}(h:IT σ s v H):(∃ex,H=σ++ex)/\aA3 H v s.aD:=by
 rcases h with⟨h1,h2,h3⟩|⟨g,h1,h2⟩
 ·exact⟨⟨_,h3⟩,.inl ⟨h1,.inr h2⟩⟩
 ·exact⟨⟨_,h2⟩,.inr ⟨_,g,h1,by rw[h2];exact Lz σ g s⟩⟩
theorem aeR{d:bB}(hI:yG d){σ:Heap}{pd v0:AV}(hd:uK pd d σ){t:Int}(h2:t<=36000000){N:Int}(hs:kU N d.state)(h1:N<=t)(h0:∃q,p5 0 pd=δ q/\((χ q σ).bind λc=>l7 0 4 c)=δ (.agg (ck v0 d.state))) (hv:aA3 σ v0 d.state.aD):
  ∃v H,HA [pd,.ah t] σ=δ (.agg (ck v (jB d d.state t)),H)/\IT σ (jB d d.state t) v H:=by
 have auo:∀{r:AV->AV->Heap->aC}{x y v:AV}{σ σ':Heap},r x y σ=δ (v,σ')->Ω ι [] .k (YS r) [x,y] σ=δ (v,σ'):=by intro r x y v σ σ' e;have:YS r [x,y] σ=δ (v,σ'):=e;simp only[Ω,Uu,bK,UZ,this,cq,iI]
 suffices h:∃v H,Og pd (.ah t) σ=δ (.agg (ck v (jB d d.state t)),H)/\IT σ (jB d d.state t) v H by obtain⟨v,H,e,h⟩:=h;exact⟨v,H,auo e,h⟩
 obtain⟨s,hst⟩:∃s,s=d.state:=⟨_,rfl⟩
 rw[<-hst]at hs h0 hv ⊢;obtain⟨q,f1,f2⟩:=h0;unfold Og;rw[hd.nc,bS,f1,bS,f2,bS,show ψ 4 (.agg (ck v0 s))=δ (ck v0 s)from rfl,bS];have G0:(σ++[Sd wg])[σ.length]? =δ (.box wg):=by rw[iz (bF _),Wz];rfl
 have S0:l8 (.op σ.length 0) (ck v0 s) (σ++[Sd wg])=δ (σ++[Sd (ck v0 s)]):=by simp only[l8,G0];rw[show Φ 0 (ck v0 s) wg=δ (ck v0 s)from rfl,cq,pJ _ _ (bF _),Wz];rfl
 rw[S0,bS,show p5 0 (.op σ.length 0)=δ (.op σ.length 0)from rfl,bS];have hcell:Θ v0=δ v0:=by rcases hv with⟨_,h|h⟩|⟨id,g,h,_⟩<;>rw[h]<;>rfl
 have G1:(σ++[Sd (ck v0 s)])[σ.length]? =δ (.box (ck v0 s)):=by rw[iz (bF _),Wz];rfl
 rw[show((χ (.op σ.length 0) (σ++[Sd (ck v0 s)])).bind λc=>φ 0 c)=δ v0 from by simp only[χ,G1,Tq,aP,φ,ck,List.getElem?_cons_zero,hcell],bS];by_cases hb:s.aD=[]
 ·have hz:Hl [v0] (σ++[Sd (ck v0 s)])=δ (.ez,σ++[Sd (ck v0 s)]):=by
   rcases hv with⟨_,h|h⟩|⟨id,g,h,_⟩
   ·rw[h];rfl
   ·rw[h];rfl
   ·rw[h,hb];rfl
  rw[hz,bS];simp only[bS]
  have S1:l8 (.op σ.length 0) [.ez] (σ++[Sd (ck v0 s)])=δ (σ++[Sd (ck .ez s)]):=by simp only[l8,G1];rw[show Φ 0 [.ez] (ck v0 s)=δ (ck .ez s)from rfl,cq,pJ _ _ (bF _),Wz];rfl
  rw[show((Θ AV.ez).bind λv=>δ [v])=δ [.ez]from rfl,bS,S1,bS]
  have hF:jB d s t=s:=by unfold jB;rw[hb];rfl
  have G2:(σ++[Sd (ck .ez s)])[σ.length]? =δ (.box (ck .ez s)):=by rw[iz (bF _),Wz];rfl
  refine⟨.ez,σ++[Sd (ck .ez s)],?_,.inl ⟨by rw[hF];exact hb,rfl,by rw[hF]⟩⟩;rw[hF];refine C0 (yw (nO (Q:=λq=>q=(.ret,[.lbx (ck .ez s)],σ++[Sd (ck .ez s)])) (λz v w=>v=[.lbx wg]/\w=σ++[Sd (ck .ez s)]) ?_ (n:=0) ⟨rfl,rfl⟩) ?_)
  ·rintro z v w ⟨rfl,rfl⟩;refine .inr ⟨_,?_,by simp,rfl⟩;unfold J5;rw[show p5 0 (.op σ.length 0)=δ (.op σ.length 0)from rfl,bS,show((χ (.op σ.length 0) (σ++[Sd (ck .ez s)])).bind λc=>φ 0 c)=δ .ez from by simp only[χ,G2];rfl,bS,show UT .ez=δ (.ah 0)from rfl,bS];refine C0 (yw (nO (Q:=λq=>q=(.exit 2,[.lbx wg,.ah (-1),.ah 0,.ah 0],σ++[Sd (ck .ez s)])) (λz v w=>v=[.lbx wg,.ah (-1),.ah 0,.ah 0]/\w=σ++[Sd (ck .ez s)]) ?_ (n:=0) ⟨rfl,rfl⟩) ?_)
   ·rintro z v w ⟨rfl,rfl⟩;exact .inr ⟨_,rfl,by simp,rfl⟩
   ·rintro q rfl;simp only[mB,bM,cg];rw[lp,bS,cB (by decide),cK,show((χ (.op σ.length 0) (σ++[Sd (ck .ez s)])).bind λc=>l7 0 4 c)=δ (.agg (ck .ez s))from by simp only[χ,G2];rfl,bS,iM,bS];exact⟨_,rfl,rfl⟩
  ·rintro q rfl;exact⟨_,rfl,rfl⟩
 ·rcases hv with⟨h,_⟩|⟨id,g,hv,hg⟩
  ·exact absurd h hb
  obtain⟨n,hn⟩:∃n,s.aD.length=n+1:=by
   cases h:s.aD with
   |nil=>exact absurd h hb
   |cons b l=>exact⟨l.length,rfl⟩
  have ahH:=(bD.1 hg).1;have hlen:=hs.len;have G2:(σ++[Sd (ck v0 s)])[id]? =δ (.arr g 10 (s.aD.map aQ)):=by rw[iG ahH];exact hg
  have hz:Hl [v0] (σ++[Sd (ck v0 s)])=δ (.os (σ.length+1) s.aD.length 10 0 s.aD.length,(σ++[Sd (ck v0 s)])++[.arr s.aD.length 10 (s.aD.map aQ)]):=by
   have e0:Hl [v0] (σ++[Sd (ck v0 s)])=Ω ι [] .k (ZY Ho) [v0] (σ++[Sd (ck v0 s)]):=by rw[hv,hn];rfl
   rw[e0]
   have e1:ZY Ho [v0] (σ++[Sd (ck v0 s)])=δ (.os (σ.length+1) s.aD.length 10 0 s.aD.length,(σ++[Sd (ck v0 s)])++[.arr s.aD.length 10 (s.aD.map aQ)]):=by
    show Ho v0 (σ++[Sd (ck v0 s)])=_;unfold Ho;rw[show A.wu v0 .aA=δ (.bool ι)from by rw[hv];rfl,bS,cD]
    have hel:T9 10 v0 (σ++[Sd (ck v0 s)])=δ (s.aD.map aQ):=by rw[hv]at G2 ⊢;simp only[T9];rw[G2];simp [vR]
    have hne:s.aD.map aQ≠[]:=by simpa using hb
    have hap:Uv 10 (140737488355328 / 96) .ez v0 (σ++[Sd (ck v0 s)])=δ (.os (σ.length+1) s.aD.length 10 0 s.aD.length,(σ++[Sd (ck v0 s)])++[.arr s.aD.length 10 (s.aD.map aQ)]):=by unfold Uv;rw[hel,bS];simp only[A.pe,aL hne,Z7,Ve,R7,TZ];rw[aO (by omega)]
    rw[hap,bS]
   simp only[Ω,Uu,bK,UZ,e1,cq,iI]
  rw[hz,bS];simp only[bS];rw[show((Θ (AV.os (σ.length+1) s.aD.length 10 0 s.aD.length)).bind λv=>δ [v])=δ [.os (σ.length+1) s.aD.length 10 0 s.aD.length]from rfl,bS]
  have S1:l8 (.op σ.length 0) [.os (σ.length+1) s.aD.length 10 0 s.aD.length] ((σ++[Sd (ck v0 s)])++[.arr s.aD.length 10 (s.aD.map aQ)])=δ (sF σ s.aD.length s):=by rw[kS];simp only[l8];rw[iz (bF _),Wz];show(Option.map (λcs=>(σ++[Sd (ck v0 s),aT.arr s.aD.length 10 (s.aD.map aQ)]).set σ.length (.box cs)) (Φ 0 [.os (σ.length+1) s.aD.length 10 0 s.aD.length] (ck v0 s)))=_;rw[show Φ 0 [.os (σ.length+1) s.aD.length 10 0 s.aD.length] (ck v0 s)=δ (ck (.os (σ.length+1) s.aD.length 10 0 s.aD.length) s)from rfl,cq,afQ]
  rw[S1,bS];refine⟨_,_,?_,.inr ⟨s.aD.length,rfl,rfl⟩⟩;refine(congrArg (λz=>aB5 z _) (amU hI hd h2 hs h1 s.aD.length)).trans ?_;rw[bS];rfl
end
section
open HP
theorem adr(dyn:Nat->an->Heap->aC)(l:List bk)(hl:l.length<=aZ)(n:Nat)(caps:an)(p:bk->Bool)(σ:Heap)(hd:∀x∈l,dyn n ((.agg (aQ x):AV)::caps) σ=δ (.bool (p x),σ)):Di dyn [sl 10 aQ l,.fn n caps] σ=δ (.ah (jM p l),σ):=by
 refine wrap_eq rfl ?_ rfl;show NT dyn (sl 10 aQ l) (.fn n caps) σ=_;unfold NT;simp only[aW,reduceCtorEq]
 refine(qP (S:=Unit) (R:=Int) l (λpre x _=>if p x=η then .out (pre.length:Int)else .go ())
  (λpre _=>[.ah 0,.ah (pre.length:Int)]) (λ_ _=>σ) (λ_=>(.exit 0,[.ah 0,.ah (l.length:Int)],σ)) (λpre _ r=>(.ret,[.ah (pre.length:Int),.ah (pre.length:Int)],σ))
  (λ_ _=>True) () (λ_=>δ (ε (-1),σ)) (λr=>δ (ε r,σ)) ?_ ?_ trivial (λ_ _ _ _ _ _ _ _=>trivial) ?_ ?_).trans ?_
 ·intro pre x rest u hl' _;have hx:=qT hl';have hlt:=tK hl';have hi1:θ.wrap ((pre.length:Int)+1)=(pre.length:Int)+1:=cO (by unfold aU;unfold aZ at hl;omega);have hlt':(pre.length:Int)<(l.length:Int):=by omega
  have kI:=mR 10 aQ l hx;have oT:=hd x (by rw[hl'];simp);simp only[aW,reduceCtorEq,aAs,hlt',kI,A.jC,mq,Tp,oT,hi1];cases p x<;>simp [aW,reduceCtorEq]
 ·intro u _;simp only[aW,reduceCtorEq,WG]
 ·intro u _;simp only[aW,reduceCtorEq]
 ·intro pre x rest s q hl' _ hb
  have:q=(pre.length:Int):=by
   cases hpx:p x
   ·rw[hpx]at hb;cases hb
   ·rw[hpx]at hb;simp at hb;exact hb.symm
  simp only[aW,reduceCtorEq,this]
 ·rw[DA p _ _ l [] (by simp)];simp only[Tp];split
  ·rename_i h;rw[h]
  ·rfl
def uS (d:bB) (s:dA) (i:Nat) (b:bk) (to t:Int):dA×Int:=match b.bg[to.toNat]? with
 |none=>(s,0)
 |some x=>({s with au:=θ.wrap (s.au+1),aD:=s.aD.set i (lM d {s with au:=θ.wrap (s.au+1)} b x to t)},0)
def Jh(s:dA)(i:Nat)(b:bk):dA:={s with au:=θ.wrap (s.au+1),aD:=s.aD.set i b}
def axx (d:bB) (s:dA) (i:Nat) (b:bk) (a:cW):dA:={s with au:=θ.wrap (s.au+1),aD:=s.aD.set i (vZ d {s with au:=θ.wrap (s.au+1)} b a)}
def Bd (d:bB) (s:dA) (a:cW) (i:Nat) (b:bk):dA×Int:=
 if a.kind=1 then(if b.bw+1=(b.bg.length:Int)then(s,8)else uS d s i b (b.bw+1) a.time)
 else if a.kind=2 then(if b.bw-1<0 then(s,8)else uS d s i b (b.bw-1) a.time)
 else if a.kind=3 then(if jM (λc:bl=>decide (c.au=a.bw)) b.bg<0 then(s,8)else uS d s i b (jM (λc:bl=>decide (c.au=a.bw)) b.bg) a.time)
 else if a.kind=4 then(if b.aJ.gQ=η\/b.bw<0 then(s,10)else(Jh s i {b with aJ:=⟨dU b.aJ a.time,a.time,η⟩},0))
 else if a.kind=5 then(if b.aJ.gQ=ι then(s,10)else(Jh s i {b with aJ:=⟨b.aJ.shown,a.time,ι⟩},0))
 else if a.kind=6 then(if b.bw<0 then(s,10)else(axx d s i b a,0))
 else(Jh s i {b with eF:=a.level},0)
def iR (d:bB) (s:dA) (a:cW):dA×Int:=
 if a.kind=8 then({s with au:=θ.wrap (s.au+1),vK:=a.level},0)
 else if a.kind=9 then({s with au:=θ.wrap (s.au+1),black:=decide (a.level=1)},0)
 else match s.aD[(jM (λb:bk=>decide (b.au=a.gD)) s.aD).toNat]? with
  |none=>(s,0)
  |some b=>Bd d s a (jM (λb:bk=>decide (b.au=a.gD)) s.aD).toNat b
structure SA (σ W : Heap) (ids br g : Nat) (s : dA) : Prop where
 b1:W[ids]? =δ (.box (ck (.os br g 10 0 s.aD.length) s))
 b2:W[br]? =δ (.arr g 10 (s.aD.map aQ))
 ex:∃ex,W=σ++ex
 i1:σ.length<=ids
 i2:σ.length<=br
section
variable {σ W : Heap} {ids br g : Nat} {s : dA}
theorem SA.ne(h:SA σ W ids br g s):ids≠br:=by intro e;have h1:=h.b1;have h2:=h.b2;rw[e,h2]at h1;cases h1
theorem azK{σ W:Heap}(h:∃ex,W=σ++ex){i:Nat}(hi:σ.length<=i)(b:aT):∃ex,W.set i b=σ++ex:=by obtain⟨ex,rfl⟩:=h;exact⟨_,pJ _ _ hi⟩
theorem SA.eW(h:SA σ W ids br g s)(i:Nat)(b':bk):SA σ (W.set br (.arr g 10 ((s.aD.set i b').map aQ))) ids br g {s with aD:=s.aD.set i b'}:=by
 refine⟨?_,?_,azK h.ex h.i2 _,h.i1,h.i2⟩
 ·rw[ZN (λe=>h.ne e.symm)];show _=δ (Sd (ck (.os br g 10 0 (s.aD.set i b').length) _));rw[VA];exact h.b1
 ·exact oF (bD.1 h.b2).1
theorem SA.axE(h:SA σ W ids br g s)(s':dA)(hs:s'.aD=s.aD):SA σ (W.set ids (.box (ck (.os br g 10 0 s'.aD.length) s'))) ids br g s':=by refine⟨oF (bD.1 h.b1).1,?_,azK h.ex h.i1 _,h.i1,h.i2⟩;rw[ZN h.ne,hs];exact h.b2
theorem SA.num(h:SA σ W ids br g s)(n:Int):∃W',l8 (.op ids 1) [.ah n] W=δ W'/\SA σ W' ids br g {s with au:=n}:=by refine⟨_,?_,h.axE {s with au:=n} rfl⟩;simp only[l8,h.b1];rfl
theorem SA.put(h:SA σ W ids br g s){i o:Nat}{b b':bk}{new:an}(hb:s.aD[i]? =δ b)(hs:Φ o new (aQ b)=δ (aQ b')):∃W',l8 (.oe br g i o) new W=δ W'/\SA σ W' ids br g {s with aD:=s.aD.set i b'}:=by refine⟨_,?_,h.eW i b'⟩;rw[Lj h.b2 (by rw[qo,hb];rfl) hs,aC3]
theorem SA.rdB(h:SA σ W ids br g s){i:Nat}{b:bk}(hb:s.aD[i]? =δ b)(o:Nat):χ (.oe br g i o) W=δ ((aQ b).drop o):=by simp only[χ,h.b2,if_true,qo,hb,cq]
theorem SA.BE(h:SA σ W ids br g s):((χ (.op ids 1) W).bind λc=>φ 0 c)=δ (.ah s.au):=by simp only[χ,h.b1];rfl
theorem SA.rdV(h:SA σ W ids br g s):((χ (.op ids 0) W).bind λc=>φ 0 c)=δ (.os br g 10 0 s.aD.length):=by simp only[χ,h.b1];rfl
theorem SA.go{d:bB}{pd:AV}(hI:yG d)(hd:uK pd d σ)(h:SA σ W ids br g s){N t:Int}(hs:kU N s)(hN:N<=t)(ht:t<=36000000){i to:Nat}{b:bk}{x:bl}(hb:s.aD[i]? =δ b)(hx:b.bg[to]? =δ x):
  ∃W',wG [pd,.op ids 0,.ah (i:Int),.ah (to:Int),.ah t] W=δ (.aM [],W')/\SA σ W' ids br g {s with aD:=s.aD.set i (lM d s b x (to:Int) t)}:=by
 obtain⟨ex,e⟩:=h.ex;have hB:=hs.bs b (cE hb);have xM:=Vw b x;refine⟨_,agb (by rw[e];exact hd.ext ex) h.b1 h.b2 hb hx (by have:=hs.len;unfold aZ;omega) (λb hb=>(hs.bs b hb).ok hN ht) hI.pre hB.uh xM.1 (by have:=xM.2;unfold aZ;omega) (λb hb=>(hs.bs b hb).can),h.eW i _⟩
theorem SA.rel{d:bB}{pd:AV}(hd:uK pd d σ)(h:SA σ W ids br g s){a:cW}{N:Int}(hs:kU N s)(hN:N<=a.time)(ht:a.time<=36000000){i:Nat}{b:bk}(hb:s.aD[i]? =δ b):
  ∃W',J9 [pd,.op ids 0,.oe br g i 0,.agg (bz a)] W=δ (.aM [],W')/\SA σ W' ids br g {s with aD:=s.aD.set i (vZ d s b a)}:=by
 obtain⟨ex,e⟩:=h.ex;have hB:=hs.bs b (cE hb);exact⟨_,apj (by rw[e];exact hd.ext ex) h.b1 h.b2 hb (hB.ok hN ht) (λb hb=>(hs.bs b hb).can),h.eW i _⟩
end
theorem bex{β:Type}{X:aC}{v:AV×Heap}{f:AV×Heap->Option β}{Q:Heap->Prop}(e:X=δ v){r:Heap->Option β}(k:∃W',f v=r W'/\Q W'):∃W',X.bind f=r W'/\Q W':=by rw[e];exact k
theorem aof(b:bk)(a:cW)(σ:Heap):Dj [.agg (aQ b),.rp (bz a)] σ=δ (.bool (decide (b.au=a.gD)),σ):=by refine Fv (z:=.aA) (by unfold aQ;cases b.runs<;>rfl) (jD (uH (by unfold aQ;cases b.runs<;>rfl)) rfl) (iI _) ?_;unfold aao;rw[O7,bS,abR,bS,nU,bS,pQ,bS,show φ 0 ((bz a).drop 2)=δ (.ah a.gD)from rfl,bS,gK,bS];exact bL _ _
theorem aog(c:bl)(a:cW)(σ:Heap):Dk [.agg (bn c),.rp (bz a)] σ=δ (.bool (decide (c.au=a.bw)),σ):=by refine Fv (z:=.aA) rfl (jD (uH rfl) rfl) (iI _) ?_;unfold aap;rw[PR,bS,UX,bS,nU,bS,pQ,bS,show φ 0 ((bz a).drop 3)=δ (.ah a.bw)from rfl,bS,gK,bS];exact bL _ _
theorem aoZ{W:Heap}{br g:Nat}{l:List bk}(h:W[br]? =δ (.arr g 10 (l.map aQ))):Lt W (.s 10) (.os br g 10 0 l.length) (sl 10 aQ l):=
 ⟨⟨sl 10 aQ l,Qk BN h (by omega) 7,rfl,rfl⟩,rfl,λh=>by cases h⟩
abbrev Qc : Nat -> an -> Heap -> aC := ZG (fun _ _ => ξ) [(352, Dj), (354, Dk)]
theorem anl{W:Heap}{br g:Nat}{l:List bk}(h:W[br]? =δ (.arr g 10 (l.map aQ)))(hl:l.length<=aZ)(a:cW):Di Qc [.os br g 10 0 l.length,.fn 352 [.rp (bz a)]] W=δ (.ah (jM (λb:bk=>decide (b.au=a.gD)) l),W):=
 Bk (dR:=[.os br g 10 0 l.length,.fn 352 [.rp (bz a)]]) (ts:=[sl 10 aQ l,.fn 352 [.rp (bz a)]]) ⟨aoZ h,D4 (aA8 (bO (LD (OW a)) lg)) rfl,trivial⟩ (λσ=>adr Qc l hl _ _ _ σ (λb _=>aof b a σ)) rfl
theorem afd(c t:Int)(q:Bool):((((Θ (.ah c)).bind λv=>δ [v]).bind λaBI=>(Φ 0 aBI [(ε 0),(ε 0),aY]).bind λLZ=>((Θ (.ah t)).bind λv=>δ [v]).bind λL0=>(Φ 1 L0 LZ).bind λL2=>((Θ (i7 q)).bind λv=>δ [v]).bind λXg=>(Φ 2 Xg L2).bind λF0=>δ F0).bind λcs=>δ (Λ cs))=δ (.agg (wS ⟨c,t,q⟩)):=rfl
theorem agB(b:bk)(c:BZ):Φ 0 (wS c) (aQ b)=δ (aQ {b with aJ:=c}):=rfl
theorem aqX(b:bk)(n:Int):Φ 7 [.ah n] (aQ b)=δ (aQ {b with eF:=n}):=rfl
theorem auy{d:bB}{pd:AV}(hI:yG d){σ W:Heap}(hd:uK pd d σ){ids br g:Nat}{s:dA}(h:SA σ W ids br g s){a:cW}(hs:kU a.time s)(hk:1<=a.kind/\a.kind<=7)(hp:∃b∈s.aD,b.au=a.gD):
  ∃W',Kg [pd,.op ids 0,.agg (bz a)] W=δ (.ah (iR d s a).2,W')/\SA σ W' ids br g (iR d s a).1:=by
 have atb:∀{r:AV->AV->AV->Heap->aC}{x y z v:AV}{σ σ':Heap},r x y z σ=δ (v,σ')->Ω ι [] .k (A.lJ r) [x,y,z] σ=δ (v,σ'):=by intro r x y z v σ σ' e;exact Lw (iI _) e
 suffices h:∃W',HJ pd (.op ids 0) (.agg (bz a)) W=δ (.ah (iR d s a).2,W')/\SA σ W' ids br g (iR d s a).1 by obtain⟨W',e,h⟩:=h;exact⟨W',atb e,h⟩
 have Y3:s.aD.length<=aZ:=by have:=hs.len;unfold aZ;omega
 have ht:=hs.n.2;have Ni:∀(k:Nat)(W:Heap),χ (.rp ((bz a).drop k)) W=δ ((bz a).drop k):=λk W=>rfl
 unfold HJ iR;rw[aL (by omega),aL (by omega)];rw[show((ψ 5 (.agg (bz a))).bind λcs=>δ (Sf cs))=δ (.rp (bz a))from rfl,bS];simp only[nU,bS,Ni,show φ 0 ((bz a).drop 1)=δ (.ah a.kind)from rfl,show φ 0 ((bz a).drop 0)=δ (.ah a.time)from rfl,show φ 0 ((bz a).drop 4)=δ (.ah a.level)from rfl,gK,pQ,Fg];rw[cm (show ¬a.kind=8 by omega),cD,cm (show ¬a.kind=9 by omega),cD];simp only[show SD (.op ids 0)=δ (.op ids 0)from rfl,bS,show ∀o,p5 o (.op ids 0)=δ (.op ids o)from λo=>by simp [p5],h.rdV];refine bex (anl h.b2 Y3 a) ?_;simp only[h.rdV,bS]
 obtain⟨i,b,e1,e2,e3⟩:∃(i:Nat)(b:bk),s.aD[i]? =δ b/\jM (λb:bk=>decide (b.au=a.gD)) s.aD=(i:Int)/\b∈s.aD:=by
  rcases wL (λb:bk=>decide (b.au=a.gD)) s.aD with⟨_,q,_⟩|⟨i,b,q1,_,q2,_,_⟩
  ·obtain⟨b,hb,xI⟩:=hp;have:=q b hb;rw[cB xI]at this;cases this
  ·exact⟨i,b,q1,q2,cE q1⟩
 have hi:=(bD.1 e1).1;rw[e2];simp only[Tl];rw[e1];simp only;rw[Wy hi,bS];have hB:=hs.bs b e3;have hc:=hB.bw;have MT:b.bg.length<=aZ:=hB.uh.1;have fo:∀o,p5 o (.oe br g i 0)=δ (.oe br g i o):=λo=>by simp [p5]
 have fo2:∀o,p5 0 (.oe br g i o)=δ (.oe br g i o):=λo=>by simp [p5]
 have fo3:∀o,p5 o (.oe br g i 0)=δ (.oe br g i o):=λo=>by simp [p5]
 have c6:φ 0 ((aQ b).drop 6)=δ (.ah b.bw):=rfl;have c5:φ 0 ((aQ b).drop 5)=δ (sl 11 bn b.bg):=rfl;have c2:φ 0 ((aQ b).drop 2)=δ (.bool b.aJ.gQ):=rfl;have c0:φ 0 ((aQ b).drop 0)=δ (.ah b.aJ.shown):=rfl;have c03:l7 0 3 ((aQ b).drop 0)=δ (.agg (wS b.aJ)):=rfl;simp only[show SD (.oe br g i 0)=δ (.oe br g i 0)from rfl,bS,fo,h.rdB e1,c6,c5,c2,c0,c03,fJ];obtain⟨W1,n1,n2⟩:=h.num (θ.wrap (s.au+1));have hs1:kU a.time {s with au:=θ.wrap (s.au+1)}:=Vy hs _
 have go:∀(to:Nat)(x:bl),b.bg[to]? =δ x->∃W',wG [pd,.op ids 0,.ah (i:Int),.ah (to:Int),.ah a.time] W1=δ (.aM [],W')/\SA σ W' ids br g (uS d s i b (to:Int) a.time).1/\(uS d s i b (to:Int) a.time).2=0:=by
  intro to x hx;obtain⟨W',q1,q2⟩:=n2.go hI hd hs1 (Y7 _) ht e1 hx;refine⟨W',q1,?_,?_⟩
  ·unfold uS;rw[Tl,hx];exact q2
  ·unfold uS;rw[Tl,hx]
 have no:((Θ (ε (θ.wrap (s.au+1)))).bind λv=>δ [v])=δ [.ah (θ.wrap (s.au+1))]:=rfl;unfold Bd;by_cases k1:a.kind=1
 ·rw[aO k1,cB k1,cK,lU,bS,show θ.wrap (b.bw+1)=b.bw+1 from cO (by unfold aU;unfold aZ at MT;omega),gK,bS];by_cases hz:b.bw+1=(b.bg.length:Int)
  ·rw[cB hz,cK,aO hz];exact⟨W,rfl,h⟩
  ·rw[cm hz,cD,aL hz,h.BE,bS,lU,bS,no,bS,n1,bS,qp,bS,cB (by omega),cK];obtain⟨to,hto⟩:∃to:Nat,b.bw+1=(to:Int):=⟨(b.bw+1).toNat,by omega⟩
   obtain⟨W',q1,q2,q3⟩:=go to _ (bU (show to<b.bg.length by omega));rw[hto];simp only[q1,bS,q3];exact⟨W',rfl,q2⟩
 rw[aL k1,cm k1,cD];by_cases k2:a.kind=2
 ·rw[aO k2,cB k2,cK,mV,bS,show θ.wrap (b.bw-1)=b.bw-1 from cO (by unfold aU;unfold aZ at MT;omega),lp,bS];by_cases hz:b.bw-1<0
  ·rw[cB hz,cK,aO hz];exact⟨W,rfl,h⟩
  ·rw[cm hz,cD,aL hz,h.BE,bS,lU,bS,no,bS,n1,bS,qp,bS,cB (by omega),cK];obtain⟨to,hto⟩:∃to:Nat,b.bw-1=(to:Int):=⟨(b.bw-1).toNat,by omega⟩
   obtain⟨W',q1,q2,q3⟩:=go to _ (bU (show to<b.bg.length by omega));rw[hto];simp only[q1,bS,q3];exact⟨W',rfl,q2⟩
 rw[aL k2,cm k2,cD];by_cases k3:a.kind=3
 ·rw[aO k3,cB k3,cK];have GN:EU Qc [sl 11 bn b.bg,.fn 354 [.rp (bz a)]] W=δ (.ah (jM (λc:bl=>decide (c.au=a.bw)) b.bg),W):=aas Qc b.bg MT _ _ _ W (λc _=>aog c a W);refine bex GN ?_;simp only;rw[lp,bS];rcases wL (λc:bl=>decide (c.au=a.bw)) b.bg with⟨q,_,_⟩|⟨to,x,q1,_,q2,_,_⟩
  ·rw[q,cB (by decide),cK,aO (by decide)];exact⟨W,rfl,h⟩
  ·rw[q2,cm (by omega),cD,aL (by omega),h.BE,bS,lU,bS,no,bS,n1,bS,qp,bS,cB (by omega),cK];obtain⟨W',g1,g2,g3⟩:=go to _ q1;simp only[g1,bS,g3];exact⟨W',rfl,g2⟩
 rw[aL k3,cm k3,cD]
 have azl:∀(o:Nat)(new:an)(b':bk),Φ o new (aQ b)=δ (aQ b')->∃W1 W2,l8 (.oe br g i o) new W=δ W1/\((χ (.op ids 1) W1).bind λc=>φ 0 c)=δ (.ah s.au)/\l8 (.op ids 1) [.ah (θ.wrap (s.au+1))] W1=δ W2/\SA σ W2 ids br g (Jh s i b'):=by intro o new b' hsp;obtain⟨W1,w1,w2⟩:=h.put e1 hsp;obtain⟨W2,w3,w4⟩:=w2.num (θ.wrap (s.au+1));exact⟨W1,W2,w1,w2.BE,w3,w4⟩
 by_cases k4:a.kind=4
 ·rw[aO k4,cB k4,cK];by_cases hst:b.aJ.gQ=η
  ·rw[hst,aO (.inl rfl)];simp only[Ax,gU,bS,nJ,cT];exact⟨W,rfl,h⟩
  have Mn:b.aJ.gQ=ι:=by simpa using hst
  rw[Mn];simp only[gF,bS,show SD (.oe br g i 0)=δ (.oe br g i 0)from rfl,fo,h.rdB e1,c6,nI,lp];by_cases hz:b.bw<0
  ·rw[cB hz,cK,aO (.inr hz)];exact⟨W,rfl,h⟩
  ·rw[cm hz,cD,aL (λq=>q.elim (λq=>by cases q) hz),dL (LA _ _ W),bS,afd,bS,UL,bS];obtain⟨W1',MB,w1,w2,w3,w4⟩:=azl 0 _ _ (agB b ⟨dU b.aJ a.time,a.time,η⟩);rw[w1,bS,w2,bS,lU,bS,no,bS,w3,bS,qp,bS,cm (by decide),cD,bS];exact⟨MB,rfl,w4⟩
 rw[aL k4,cm k4,cD];by_cases k5:a.kind=5
 ·rw[aO k5,cB k5,cK,vX,bS];by_cases hst:b.aJ.gQ=η
  case neg=>
   have Mn:b.aJ.gQ=ι:=by simpa using hst
   rw[Mn,aO rfl];exact⟨W,rfl,h⟩
  ·rw[hst,aL (by simp),show(!η)=ι from rfl,cD,afd,bS,UL,bS];obtain⟨W1',MB,w1,w2,w3,w4⟩:=azl 0 _ _ (agB b ⟨b.aJ.shown,a.time,ι⟩);rw[w1,bS,w2,bS,lU,bS,no,bS,w3,bS,qp,bS,cm (by decide),cD,bS];exact⟨MB,rfl,w4⟩
 rw[aL k5,cm k5,cD];by_cases k6:a.kind=6
 ·rw[aO k6,cB k6,cK,lp,bS];by_cases hz:b.bw<0
  ·rw[cB hz,cK,aO hz];exact⟨W,rfl,h⟩
  ·rw[cm hz,cD,aL hz,h.BE,bS,lU,bS,no,bS,n1,bS];obtain⟨W',q1,q2⟩:=n2.rel hd hs1 (Y7 _) ht e1;rw[q1,bS];exact⟨W',rfl,q2⟩
 rw[aL k6,cm k6,cD,cB (show a.kind=7 by omega),cK];obtain⟨W1',MB,w1,w2,w3,w4⟩:=azl 7 _ _ (aqX b a.level);rw[qX,bS,w1,bS,bS];simp only;rw[w2,bS,lU,bS,no,bS,w3,bS,qp,bS,cm (by decide),cD,bS];exact⟨MB,rfl,w4⟩
end
section
def Sr (a0:iC) (a1:cW):Option Bool:=δ (decide (a0.au=a1.gD))
theorem aju{a0:iC}{a1:cW}{σ:Heap}{r:Bool}(h:Sr a0 a1=δ r):JZ [(Λ (cr a0)),(Sf (bz a1))] σ=δ ((i7 r),σ):=by refine uy (f:=anc) (y0:=(Λ (cr a0))) (y1:=(Sf (bz a1))) (enc:=λr:Bool=>(i7 r)) (T:=Sr a0 a1) rfl rfl ?_ r h;unfold anc Sr;refine ay _ rfl<|ay _ rfl<|ay _ rfl<|ay _ rfl<|ay _ (gK _ _ _) ?_;exact eB _ (bL _ _) ⟨rfl,rfl⟩
def zo (a0:cW):Option Int:=
 if(!(aX a0.kind 1 9))=η then
  δ 4
 else
 if(((((decide (a0.kind=8))||(decide (a0.kind=9)))&&(decide (¬(a0.gD=0))))||((decide (¬(a0.kind=3)))&&(decide (¬(a0.bw=0)))))||((!((((decide (a0.kind=8))||(decide (a0.kind=9)))||(decide (a0.kind=6)))||(decide (a0.kind=7))))&&(decide (¬(a0.level=0)))))=η then
  δ 3
 else
 δ 0
theorem aar{a0:cW}{σ:Heap}{r:Int}(h:zo a0=δ r):Hw [(Λ (bz a0))] σ=δ ((ε r),σ):=by
 refine ux (f:=aBr) (y0:=(Λ (bz a0))) (enc:=λr:Int=>(ε r)) (T:=zo a0) rfl rfl ?_ r h;unfold aBr zo;refine ay _ rfl<|ay _ rfl<|ay _ (kJ a0.kind 1 9 σ)<|ay _ rfl ?_;refine jE (c:=(!(aX a0.kind 1 9))) (λc2=>?_) (λc2=>?_)
 ·exact eB _ (bL _ _) ⟨rfl,rfl⟩
 refine ay _ rfl<|ay _ (gK _ _ _)<|fT (ε a0.kind) (λhg=>rfl)<|fT (i7 (decide (a0.kind=9))) (λhg=>by(try rw[hg]);exact(gK _ _ _))<|ay _ (rV _ _)<|fT (ε a0.kind) (λhg=>rfl)<|fT (i7 (decide (a0.kind=6))) (λhg=>by(try rw[hg]);exact(gK _ _ _))<|ay _ (rV _ _)<|fT (ε a0.kind) (λhg=>rfl)<|fT (i7 (decide (a0.kind=7))) (λhg=>by(try rw[hg]);exact(gK _ _ _))<|ay _ (rV _ _)<|cZ (ε a0.gD) (λhg=>rfl)<|cZ (i7 (decide (¬(a0.gD=0)))) (λhg=>by(try rw[hg]);exact(fN _ _ _))<|ay _ (ow _ _)<|fT (ε a0.kind) (λhg=>rfl)<|fT (i7 (decide (¬(a0.kind=3)))) (λhg=>by(try rw[hg]);exact(fN _ _ _))<|fT (i7 (decide (¬(a0.kind=3)))) (λhg=>by(try rw[hg]);exact rfl)<|IP (ε a0.bw) (λhg=>rfl)<|IP (i7 (decide (¬(a0.bw=0)))) (λhg=>by(try rw[hg]);exact(fN _ _ _))<|fT (i7 ((decide (¬(a0.kind=3)))&&(decide (¬(a0.bw=0))))) (λhg=>by(try rw[hg]);exact(ow _ _))<|ay _ (rV _ _)<|fT (i7 ((((decide (a0.kind=8))||(decide (a0.kind=9)))||(decide (a0.kind=6)))||(decide (a0.kind=7)))) (λhg=>rfl)<|fT (i7 (!((((decide (a0.kind=8))||(decide (a0.kind=9)))||(decide (a0.kind=6)))||(decide (a0.kind=7))))) (λhg=>by(try rw[hg]);exact rfl)<|fT (i7 (!((((decide (a0.kind=8))||(decide (a0.kind=9)))||(decide (a0.kind=6)))||(decide (a0.kind=7))))) (λhg=>by(try rw[hg]);exact rfl)<|IP (ε a0.level) (λhg=>rfl)<|IP (i7 (decide (¬(a0.level=0)))) (λhg=>by(try rw[hg]);exact(fN _ _ _))<|fT (i7 ((!((((decide (a0.kind=8))||(decide (a0.kind=9)))||(decide (a0.kind=6)))||(decide (a0.kind=7))))&&(decide (¬(a0.level=0))))) (λhg=>by(try rw[hg]);exact(ow _ _))<|ay _ (rV _ _) ?_;refine jE (c:=(((((decide (a0.kind=8))||(decide (a0.kind=9)))&&(decide (¬(a0.gD=0))))||((decide (¬(a0.kind=3)))&&(decide (¬(a0.bw=0)))))||((!((((decide (a0.kind=8))||(decide (a0.kind=9)))||(decide (a0.kind=6)))||(decide (a0.kind=7))))&&(decide (¬(a0.level=0)))))) (λc1=>?_) (λc1=>?_)
 ·exact eB _ (bL _ _) ⟨rfl,rfl⟩
 exact eB _ (bL _ _) ⟨rfl,rfl⟩
def BI (a0:ct) (a1:cW):Option Int:=
 (if(!((decide (a1.kind=8))||(decide (a1.kind=9))))=η then tq (a0.aS.length<=aZ) (a0.aS.any (λx=>(decide (x.au=a1.gD))))else δ default).bind λr1=>
 if((!((decide (a1.kind=8))||(decide (a1.kind=9))))&&(!r1))=η then
  δ 8
 else
 (show Option Int from
   if a1.kind=6 then
    δ 36000000
   else
   (show Option Int from
     if a1.kind=9 then
      δ 1
     else
     δ 65535).bind λj3=>
   δ j3).bind λj7=>
 δ (if(!(aX a1.level 0 j7))=η then 1 else 0)
theorem aat{a0:ct}{a1:cW}{σ:Heap}{r:Int}(h:BI a0 a1=δ r):Hx [(Λ (bu a0)),(Λ (bz a1))] σ=δ ((ε r),σ):=by
 refine uy (f:=Ob) (y0:=(Λ (bu a0))) (y1:=(Λ (bz a1))) (enc:=λr:Int=>(ε r)) (T:=BI a0 a1) rfl rfl ?_ r h;unfold Ob BI;refine ay _ rfl<|ay _ rfl<|ay _ rfl<|ay _ rfl<|ay _ (gK _ _ _)<|fT (Sf (List.drop 1 (bz a1))) (λhg=>rfl)<|fT (ε a1.kind) (λhg=>by(try rw[hg]);exact rfl)<|fT (i7 (decide (a1.kind=9))) (λhg=>by(try rw[hg]);exact(gK _ _ _))<|ay _ (rV _ _)<|ay _ rfl<|cZ (sl 3 cr a0.aS) (λhg=>rfl)<|cZ (AV.fn 152 [(Sf (bz a1))]) (λhg=>rfl) ?_;refine vH (ω:=Bool) (λr1=>(i7 r1)) (λhg r1 iB=>by(try rw[hg]);exact(dL ((rY (e:=λr:Bool=>((i7 r),σ)) (λhs=>aij _ a0.aS hs _ _ (λx=>(decide (x.au=a1.gD))) σ (λx hx=>aju (σ:=σ) (r:=(decide (x.au=a1.gD))) rfl))) iB))) (λr1 iB=>?_);refine cZ (i7 (!r1)) (λhg=>by(try rw[hg]);exact rfl)<|ay _ (ow _ _) ?_;refine jE (c:=((!((decide (a1.kind=8))||(decide (a1.kind=9))))&&(!r1))) (λfM=>?_) (λfM=>?_)
 ·exact eB _ (bL _ _) ⟨rfl,rfl⟩
 refine ay _ rfl<|ay _ rfl<|ay _ (gK _ _ _) ?_
 refine Gg (ω:=Int) (λj7 a=>a=(([(ε j7)]:an),σ)) (
   by
    refine kE (p:=a1.kind=6) (λc6=>?_) (λc6=>?_)
    ·exact cz rfl
    refine ay _ (gK _ _ _) ?_
    refine Gg (ω:=Int) (λj3 a=>a=(([(ε j3)]:an),σ)) (
      by
       refine kE (p:=a1.kind=9) (λc2=>?_) (λc2=>?_)
       ·exact cz rfl
       exact cz rfl
      ) (λj3 a ha=>?_)
    subst ha;exact cz rfl
   ) (λj7 a ha=>?_)
 subst ha;refine ay _ rfl<|ay _ rfl<|ay _ (kJ a1.level 0 j7 σ)<|ay _ rfl<|ay _ (oZ (!(aX a1.level 0 j7)) 1 σ) ?_;exact eB _ (bL _ _) ⟨rfl,rfl⟩
end
section
open HP
def jo(p:aI×fO):AV×AV:=(.agg (aV p.1),.agg (gm p.2))
abbrev iE(vb:AV)(bE:Nat)(va:AV)(d:bB):an:=[vb,.ah d.state.au,.ah d.state.vK,.bool d.state.black,sl 3 dF d.setup.bh.bA,sl 4 dr d.setup.bh.dK,sl 3 fk d.setup.cG,sl 2 eZ d.setup.bZ,sl 3 cr d.setup.aS,sl 2 aV d.keys,.om bE,va]
def nQ(id:Nat)(vb:AV)(bE:Nat)(va:AV)(d:bB):HP:=blk id (.box (iE vb bE va d))*(Sl (fl aQ) 10 vb d.state.aD*(blk bE (.map ((d.params.getD []).map jo))*Sl (fl bz) 5 va d.bP))
def iU(pd:AV)(d:bB):HP:=ex λx:Nat×AV×Nat×AV=>pr (pd=.op x.1 0/\d.params.isSome=η)*nQ x.1 x.2.1 x.2.2.1 x.2.2.2 d
section
variable {B : aT -> Prop} {aH σ : Heap} {R : HP} {pd : AV} {d : bB}
theorem apC(H:Hs B aH σ (iU pd d*R)):∃id vb bE va,pd=.op id 0/\d.params.isSome=η/\Hs B aH σ (nQ id vb bE va d*R):=by unfold iU at H;rw[QA]at H;obtain⟨⟨id,vb,bE,va⟩,H⟩:=H;rw[vA,oB]at H;exact⟨id,vb,bE,va,H.1.1,H.1.2,H.2⟩
theorem Pq{id:Nat}{vb:AV}{bE:Nat}{va:AV}(hp:d.params.isSome=η)(H:Hs B aH σ (nQ id vb bE va d*R)):Hs B aH σ (iU (.op id 0) d*R):=by unfold iU;rw[QA];refine⟨⟨id,vb,bE,va⟩,?_⟩;rw[vA,oB];exact⟨⟨rfl,hp⟩,H⟩
theorem afF{vb:AV}{l:List bk}(H:Hs B aH σ (Sl (fl aQ) 10 vb l*R)):aA3 σ vb l:=by
 rcases wN H with⟨h1,h2,_⟩|⟨id,g,h1,K⟩
 ·exact .inl ⟨h1,h2⟩
 ·exact .inr ⟨id,g,h1,(jj K).2⟩
theorem PY(H:Hs B aH σ R)(ex:Heap):Hs bN aH (σ++ex) R:=atO (Qm H) ex (λ_ _=>trivial)
theorem aqe{W:Heap}{i:Nat}{b:aT}(H:Hs B aH σ R)(hW:∃ex,W=σ++ex)(hi:σ.length<=i)(hb:W[i]? =δ b):Hs bN aH W (blk i b*R):=by
 obtain⟨ex,rfl⟩:=hW;have hl:=agf H;obtain⟨⟨bs,uU,_⟩,h,hr,h2⟩:=H;refine⟨⟨bs++ex,by rw[uU,kS],λ_ _=>trivial⟩,λj=>if j=i then δ b else h j,⟨λj=>if j=i then δ b else ξ,h,λj=>rfl,hr,λj=>?_,λj=>?_⟩,λj x hx=>?_⟩
 ·by_cases e:j=i
  ·right;cases hj:h j with
   |none=>rfl
   |some x=>have:=(bD.1 (h2 j x hj).2).1;omega
  ·simp only[e,if_false,true_or]
 ·by_cases e:j=i<;>simp only[e,if_true,if_false,Option.or_some,Option.none_or,Option.some_or]
 ·by_cases e:j=i
  ·subst e;simp only[if_true,Δ]at hx;subst hx;exact⟨by omega,hb⟩
  ·simp only[e,if_false]at hx;obtain⟨k1,k2⟩:=h2 j x hx;exact⟨k1,by rw[iG (bD.1 k2).1];exact k2⟩
theorem arS{l:List (aI×fO)}{bE:Nat}(h:σ[bE]? =δ (.map (l.map jo)))(d:Nat):Wr σ 0 (d+1) (.om bE)=δ (.fm (l.map jo)):=by simp only[Wr,aBP,if_false,h];rw[PW d (λp hp=>by obtain⟨q,_,rfl⟩:=fL.1 hp;exact⟨vF (DE _),vF (US _)⟩)];rfl
theorem VV{id:Nat}{vb:AV}{bE:Nat}{va:AV}(hp:d.params.isSome=η)(H:Hs B aH σ (nQ id vb bE va d*R)):Lt σ aBc (.op id 0) (.rp (vJ d)):=by
 obtain⟨ps,hps⟩:=Option.isSome_iff_exists.1 hp;unfold nQ at H;have H1:=dN (show _=blk id (.box (iE vb bE va d))*(Sl (fl aQ) 10 vb d.state.aD*(blk bE (.map ((d.params.getD []).map jo))*Sl (fl bz) 5 va d.bP)*R) by ac_rfl) H;have H2:=dN (show _=Sl (fl aQ) 10 vb d.state.aD*(blk id (.box (iE vb bE va d))*(blk bE (.map ((d.params.getD []).map jo))*Sl (fl bz) 5 va d.bP)*R) by ac_rfl) H;have H3:=dN (show _=blk bE (.map ((d.params.getD []).map jo))*(Sl (fl aQ) 10 vb d.state.aD*blk id (.box (iE vb bE va d))*Sl (fl bz) 5 va d.bP*R) by ac_rfl) H;have H4:=dN (show _=Sl (fl bz) 5 va d.bP*(Sl (fl aQ) 10 vb d.state.aD*blk id (.box (iE vb bE va d))*blk bE (.map ((d.params.getD []).map jo))*R) by ac_rfl) H;obtain⟨wE,b1,b2,b3⟩:=FK H2 BN (kD _) 6;obtain⟨Dh,a1,a2,a3⟩:=FK H4 OW (kD _) 6;have hm:=arS (jj H3).2 6;rw[hps,SG]at hm;have hg:=(jj H1).2;refine⟨⟨.rp [wE,.ah d.state.au,.ah d.state.vK,.bool d.state.black,sl 3 dF d.setup.bh.bA,sl 4 dr d.setup.bh.dK,sl 3 fk d.setup.cG,sl 2 eZ d.setup.bZ,sl 3 cr d.setup.aS,sl 2 aV d.keys,.fm (ps.map jo),Dh],?_,?_,?_⟩,rfl,λh=>by cases h⟩
 ·simp only[Wr,aBP,if_false,hg,Tq,iE,A.wZ,b1,a1,hm,qZ al6 _ σ 0 7,qZ Vl _ σ 0 7,qZ acg _ σ 0 7,qZ aqb _ σ 0 7,qZ TB _ σ 0 7,qZ DE _ σ 0 7,aP,cq]
 ·rfl
 ·show Sf (UZ I3 _)=Sf (UZ I3 (vJ d));congr 1;unfold vJ;rw[hps];simp only[UZ,b3,a3];rfl
theorem afx{id:Nat}{vb:AV}{bE:Nat}{va:AV}(hp:d.params.isSome=η)(H:Hs B aH σ (nQ id vb bE va d*R)):uK (.op id 0) d σ:=by
 have K:∀ex,Hs bN aH (σ++ex) (nQ id vb bE va d*R):=λex=>PY H ex
 have hg:∀ex,(σ++ex)[id]? =δ (.box (iE vb bE va d)):=λex=>(jj (dN (show _=blk id (.box (iE vb bE va d))*(Sl (fl aQ) 10 vb d.state.aD*(blk bE (.map ((d.params.getD []).map jo))*Sl (fl bz) 5 va d.bP)*R) by unfold nQ;ac_rfl) (K ex))).2
 have hm:∀ex,(σ++ex)[bE]? =δ (.map ((d.params.getD []).map jo)):=λex=>(jj (dN (show _=blk bE (.map ((d.params.getD []).map jo))*(Sl (fl aQ) 10 vb d.state.aD*blk id (.box (iE vb bE va d))*Sl (fl bz) 5 va d.bP*R) by unfold nQ;ac_rfl) (K ex))).2
 refine⟨rfl,⟨.op id 4,.op id 6,by simp [p5],by simp [p5],λex=>?_⟩,⟨.op id 10,.om bE,by simp [p5],λex=>⟨?_,λk=>?_⟩⟩,λex=>VV hp (K ex)⟩
 ·simp only[χ,hg ex];rfl
 ·simp only[χ,hg ex];rfl
 ·simp only[WK,show A.kK (.s [0,2]) (.agg (aV k))=η from rfl,cA,Tn,hm ex,aP,show XS (.s [0,2]) (.agg (aV k)) ((d.params.getD []).map jo)=δ ((dO k (d.params.getD [])).map λp=>Λ (gm p))from DP (eK:=λk=>Λ (aV k)) (eV:=λp=>Λ (gm p)) tI k _,cq];unfold kV;cases dO k (d.params.getD [])<;>rfl
end
def qQ (a:cW):Int:=(zo a).getD 0
def sB (s:ct) (a:cW):Int:=(BI s a).getD 0
theorem aAM(a:cW):zo a=δ (qQ a):=by
 unfold qQ zo;split
 ·rfl
 split<;>rfl
theorem aAG{s:ct}(hl:s.aS.length<=aZ)(a:cW):BI s a=δ (sB s a):=by
 unfold sB BI;rw[qg hl];have:∀(c:Bool)(x y:Bool),∃r,(if c=η then δ x else δ y:Option Bool)=δ r:=by intro c x y;cases c<;>exact⟨_,rfl⟩
 obtain⟨r,hr⟩:=this (!((decide (a.kind=8))||(decide (a.kind=9)))) (s.aS.any (λx=>(decide (x.au=a.gD)))) default;rw[hr,aP];split
 ·rfl
 ·split
  ·rfl
  ·split<;>rfl
theorem afP{s:ct}(hl:s.aS.length<=aZ){a:cW}(h1:qQ a=0)(h2:sB s a=0):(1<=a.kind/\a.kind<=9)/\(a.kind<=7->∃p∈s.aS,p.au=a.gD)/\(a.kind≠6->0<=a.level/\a.level<=65535)/\0<=a.level/\a.level<=36000000:=by
 have e1:=aAM a;have e2:=aAG hl a;rw[h1]at e1;rw[h2]at e2;unfold zo at e1;split at e1
 ·cases e1
 rename_i k1;have hk:1<=a.kind/\a.kind<=9:=rq (by simpa using k1);unfold BI at e2;rw[qg hl]at e2
 have Xx:a.kind<=7->∃p∈s.aS,p.au=a.gD:=by
  intro h;rw[cm (show ¬a.kind=8 by omega),cm (show ¬a.kind=9 by omega)]at e2;simp only[Bool.or_false,U6,if_true,aP,Bool.true_and]at e2;by_cases q:s.aS.any (λx=>decide (x.au=a.gD))=η
  ·obtain⟨p,hp,hp2⟩:=Tg.1 q;exact⟨p,hp,by simpa using hp2⟩
  ·rw[aO (by simpa using q)]at e2;cases e2
 refine⟨hk,Xx,?_⟩;have:∀(c:Bool)(x y:Bool),∃r,(if c=η then δ x else δ y:Option Bool)=δ r:=by intro c x y;cases c<;>exact⟨_,rfl⟩
 obtain⟨r,hr⟩:=this (!((decide (a.kind=8))||(decide (a.kind=9)))) (s.aS.any (λx=>(decide (x.au=a.gD)))) default;rw[hr,aP]at e2;split at e2
 ·cases e2
 by_cases k6:a.kind=6
 ·rw[aO k6]at e2;simp only[aP]at e2;by_cases q:aX a.level 0 36000000=η
  ·have:=rq q;exact⟨λh=>absurd k6 h,this.1,this.2⟩
  ·rw[aO (by simpa using q)]at e2;cases e2
 ·rw[aL k6]at e2;by_cases k9:a.kind=9
  ·rw[aO k9]at e2;simp only[aP]at e2;by_cases q:aX a.level 0 1=η
   ·have:=rq q;exact⟨λ_=>⟨this.1,by omega⟩,this.1,by omega⟩
   ·rw[aO (by simpa using q)]at e2;cases e2
  ·rw[aL k9]at e2;simp only[aP]at e2;by_cases q:aX a.level 0 65535=η
   ·have:=rq q;exact⟨λ_=>⟨this.1,by omega⟩,this.1,by omega⟩
   ·rw[aO (by simpa using q)]at e2;cases e2
def CY (d:bB) (a:cW):Int:=
 ([(([(if decide ((d.bP.length:Int)=5000)=η then 2 else 0),qQ a,(if(!(aX a.time 0 36000000))=η then 1 else 0),(if decide (a.time<nA d.bP)=η then 7 else 0)]:List Int).find? λn=>decide (¬n=0)).getD 0,sB d.setup a].find? λn=>decide (¬n=0)).getD 0
def lB (d:bB) (a:cW):bB×Int:=
 if ¬(CY d a=0)then(d,CY d a)
 else if ¬((iR d (jB d d.state a.time) a).2=0)then(d,(iR d (jB d d.state a.time) a).2)
 else({d with state:=(iR d (jB d d.state a.time) a).1,bP:=d.bP++[a]},0)
theorem arM{a b:Int}(h:(([a,b]:List Int).find? λn=>decide (¬n=0)).getD 0=0):a=0/\b=0:=by
 by_cases ha:a=0
 ·by_cases hb:b=0
  ·exact⟨ha,hb⟩
  ·simp [S4,ha,hb]at h
 ·simp [S4,ha]at h
theorem ae4{a b c e:Int}(h:(([a,b,c,e]:List Int).find? λn=>decide (¬n=0)).getD 0=0):a=0/\b=0/\c=0/\e=0:=by
 by_cases ha:a=0
 ·by_cases hb:b=0
  ·by_cases hc:c=0
   ·by_cases he:e=0
    ·exact⟨ha,hb,hc,he⟩
    ·simp [S4,ha,hb,hc,he]at h
   ·simp [S4,ha,hb,hc]at h
  ·simp [S4,ha,hb]at h
 ·simp [S4,ha]at h
theorem af1{d:bB}{a:cW}(h:CY d a=0):¬((d.bP.length:Int)=5000)/\qQ a=0/\(0<=a.time/\a.time<=36000000)/\nA d.bP<=a.time/\sB d.setup a=0:=by
 obtain⟨h1,h2⟩:=arM h;obtain⟨k1,k2,k3,k4⟩:=ae4 h1;refine⟨λq=>?_,k2,?_,?_,h2⟩
 ·rw[cB q,aO rfl]at k1;cases k1
 ·by_cases q:aX a.time 0 36000000=η
  ·exact rq q
  ·rw[aO (by simpa using q)]at k3;cases k3
 ·by_cases q:a.time<nA d.bP
  ·rw[cB q,aO rfl]at k4;cases k4
  ·omega
structure mI (d : bB) : Prop where
 di:yG d
 si:kU (nA d.bP) d.state
 aAp:d.state.aD.map (·.au)=d.setup.aS.map (·.au)
 len:d.bP.length<=5000
 par:d.params.isSome=η
theorem mI.pl{d:bB}(h:mI d):d.setup.aS.length<=aZ:=by have e:=congrArg VN h.aAp;simp only[Z7]at e;have:=h.si.len;unfold aZ;omega
theorem PF{l:List bk}{i:Nat}{b b':bk}(h:l[i]? =δ b)(e:b'.au=b.au):(l.set i b').map (·.au)=l.map (·.au):=by
 rw[aC3];refine List.ext_getElem? λj=>?_
 rw[jm];split
 ·rename_i q;have hl:=(bD.1 h).1;rw[aO (by simpa [<-q]using hl),qo,<-q,h,cq,e]
 ·rfl
theorem ao2{d:bB}{t:Int}{s s':dA}(h:xh d t s=δ s'):s'.aD.map (·.au)=s.aD.map (·.au):=by
 unfold xh at h;split at h
 ·cases h
 obtain⟨b,hb,h⟩:=bX.1 h;obtain⟨x,hx,rfl⟩:=eP.1 h;exact PF hb rfl
theorem abA{d:bB}{t:Int}:∀(n:Nat)(s:dA),(yq d t n s).aD.map (·.au)=s.aD.map (·.au)
 |0,s=>rfl
 |n+1,s=>by
  unfold yq;cases h:xh d t s with
  |none=>rfl
  |some s'=>simp only;rw[abA n s',ao2 h]
theorem Fe(d:bB)(s:dA)(t:Int):(jB d s t).aD.map (·.au)=s.aD.map (·.au):=abA _ s
theorem aov:qV ⟨1,[]⟩=0:=by decide
theorem ard{d:bB}(hI:yG d){s:dA}{a:cW}(hs:kU a.time s)(hk:1<=a.kind/\a.kind<=9)(hl:a.kind≠6->0<=a.level/\a.level<=65535)(pU:0<=a.level/\a.level<=36000000):kU a.time (iR d s a).1/\(iR d s a).1.aD.map (·.au)=s.aD.map (·.au):=by
 have ht:=hs.n;unfold iR;by_cases k8:a.kind=8
 ·rw[aO k8];exact⟨⟨hs.n,hs.len,hs.bs,hl (by omega)⟩,rfl⟩
 rw[aL k8];by_cases k9:a.kind=9
 ·rw[aO k9];exact⟨⟨hs.n,hs.len,hs.bs,hs.vK⟩,rfl⟩
 rw[aL k9];generalize (jM (λb:bk=>decide (b.au=a.gD)) s.aD).toNat=i;cases hb:s.aD[i]? with
 |none=>exact⟨hs,rfl⟩
 |some b=>
  simp only;have yZ:=cE hb;have hB:=hs.bs b yZ;have gV:=FC hB.sM (Y7 _) ht.2;have put:∀b':bk,uE a.time b'->b'.au=b.au->kU a.time (Jh s i b')/\(Jh s i b').aD.map (·.au)=s.aD.map (·.au):=λb' h1 h2=>⟨PG hs i h1 _,PF hb h2⟩
  have go:∀to:Int,0<=to->kU a.time (uS d s i b to a.time).1/\(uS d s i b to a.time).1.aD.map (·.au)=s.aD.map (·.au):=by
   intro to h0;unfold uS;cases hx:b.bg[to.toNat]? with
   |none=>exact⟨hs,rfl⟩
   |some x=>
    have e:to=((to.toNat:Nat):Int):=by omega
    have:=ae6 hI (Vy hs (θ.wrap (s.au+1))) (Y7 _) ht.2 yZ hx;rw[<-e]at this;exact⟨PG hs i this _,PF hb rfl⟩
  have ahD:=hB.bw;unfold Bd;split
  ·split
   ·exact⟨hs,rfl⟩
   ·exact go _ (by omega)
  split
  ·split
   ·exact⟨hs,rfl⟩
   ·exact go _ (by omega)
  split
  ·split
   ·exact⟨hs,rfl⟩
   ·exact go _ (by omega)
  split
  ·split
   ·exact⟨hs,rfl⟩
   ·refine put _ ⟨hB.uh,hB.eD,hB.can,hB.runs,hB.eF,⟨gV.2.1,gV.2.2,Y7 _⟩,hB.bw,?_⟩ rfl;rcases hB.sO with h|⟨h1,h2,h3⟩
    ·exact .inl h
    ·exact .inr ⟨h1,h2,h3⟩
  split
  ·split
   ·exact⟨hs,rfl⟩
   ·rename_i hst;have Mn:b.aJ.gQ=η:=by simpa using hst
    obtain⟨c1,c2,c3⟩:=hB.sM;refine put _ ⟨hB.uh,hB.eD,hB.can,hB.runs,hB.eF,⟨c1,by show b.aJ.shown<=a.time;omega,Y7 _⟩,hB.bw,?_⟩ rfl;rcases hB.sO with h|⟨h1,h2,h3⟩
    ·exact .inl h
    ·refine .inr ⟨h1,?_,h3⟩;rw[gV.1,aO Mn]at h2;show θ.wrap (θ.wrap (b.aJ.shown+a.time) -a.time)<=b.cM;rw[show θ.wrap (b.aJ.shown+a.time)=b.aJ.shown+a.time from cO (by unfold aU;omega),cO (by unfold aU;omega)];omega
  split
  ·split
   ·exact⟨hs,rfl⟩
   ·refine⟨PG hs i (b:=vZ d {s with au:=θ.wrap (s.au+1)} b a) ⟨hB.uh,hB.eD,ad0 (Pj (OU hB)),λk r hkr=>?_,hB.eF,⟨gV.2.1,gV.2.2,Y7 _⟩,⟨by show(-1:Int)<=-1;omega,by show(-1:Int)<_;omega⟩,.inl (by show(-1:Int)<0;decide)⟩ _,PF hb rfl⟩;have hm:(k,r)∈Lh d {s with au:=θ.wrap (s.au+1)} b a:=(azQ _).mem_iff.1 hkr;obtain⟨p,hp,q⟩:=YQ.1 hm;obtain⟨r',hr',q⟩:=eP.1 q;injection q with q1 q2
    subst q2;refine⟨?_,by rw[<-q1];exact(hB.runs p.1 p.2 hp).2⟩;unfold A5 at hr';split at hr'
    ·cases hr'
    ·rename_i hq;injection hr' with hr'
     subst hr'
     have nF:(dX b p.1 (dU b.aJ a.time)).2=η:=by
      cases h:(dX b p.1 (dU b.aJ a.time)).2
      ·exact absurd (.inl h) hq
      ·rfl
     have hfo:=B0 (hB.ok (Y7 _) ht.2) nF;exact PU (IN hfo _) (by simp) ⟨gV.2.1,by show dU b.aJ a.time<=_;omega⟩ (by simp) pU aov
  ·exact put _ ⟨hB.uh,hB.eD,hB.can,hB.runs,hl (by assumption),hB.sM,hB.bw,hB.sO⟩ rfl
theorem Ll{d:bB}(h:mI d)(a:cW):mI (lB d a).1:=by
 unfold lB;split
 ·exact h
 rename_i h0;have h0:CY d a=0:=by simpa using h0
 obtain⟨k1,k2,k3,k4,k5⟩:=af1 h0;obtain⟨a1,a2,a3,a4⟩:=afP h.pl k2 k5;split
 ·exact h
 ·have hA:=UF h.di h.si k4 k3.2;obtain⟨b1,b2⟩:=ard h.di hA a1 a3 a4;refine⟨⟨h.di.pre,h.di.lev,h.di.par⟩,?_,?_,?_,h.par⟩
  ·have:nA (d.bP++[a])=a.time:=by unfold nA;simp
   show kU (nA (d.bP++[a])) _;rw[this];exact b1
  ·show(iR d (jB d d.state a.time) a).1.aD.map (·.au)=_;rw[b2,Fe];exact h.aAp
  ·show(d.bP++[a]).length<=5000;rw[Ve,List.length_singleton];exact Nat.lt_of_le_of_ne h.len (λq=>k1 (by rw[q];rfl))
end
section
open HP
section
variable {aH σ : Heap} {R : HP} {pd : AV} {d : bB}
theorem axd(a b c e:Int):((((Θ (.ah a)).bind λv=>δ [v]).bind λiZ=>(Φ 0 iZ [(ε 0),(ε 0),(ε 0),(ε 0)]).bind λkG=>((Θ (.ah b)).bind λv=>δ [v]).bind λkN=>(Φ 1 kN kG).bind λgR=>((Θ (.ah c)).bind λv=>δ [v]).bind λiK=>(Φ 2 iK gR).bind λjc=>((Θ (.ah e)).bind λv=>δ [v]).bind λiL=>(Φ 3 iL jc).bind λlz=>δ lz).bind λcs=>δ (SQ 1 (gd 1 4 cs)))=δ (sl 1 nT [a,b,c,e]):=rfl
theorem avd(a b:Int):((((Θ (.ah a)).bind λv=>δ [v]).bind λkg=>(Φ 0 kg [(ε 0),(ε 0)]).bind λmM=>((Θ (.ah b)).bind λv=>δ [v]).bind λlK=>(Φ 1 lK mM).bind λoP=>δ oP).bind λcs=>δ (SQ 1 (gd 1 2 cs)))=δ (sl 1 nT [a,b]):=rfl
theorem KK(a:cW):(((ψ 5 (.agg (bz a))).bind λtW=>(Φ 0 tW [(ε 0),(ε 0),(ε 0),(ε 0),(ε 0)]).bind λnE=>δ nE).bind λcs=>δ (SQ 5 (gd 5 1 cs)))=δ (.sl 5 [bz a]):=rfl
theorem atc{r:AV->AV->Heap->aC}{x y v:AV}{σ σ':Heap}(e:r x y σ=δ (v,σ')):Ω ι [] .k (YS r) [x,y] σ=δ (v,σ'):=by have:YS r [x,y] σ=δ (v,σ'):=e;simp only[Ω,Uu,bK,UZ,this,cq,iI]
theorem FB{α:Type}{c:α->an}{sz:Nat}{B:aT->Prop}{v:AV}{l:List α}(H:Hs B aH σ (Sl (fl c) sz v l*R)):Θ v=δ v:=by rcases wN H with⟨_,rfl|rfl,_⟩|⟨id,g,rfl,_⟩<;>rfl
theorem afN{id:Nat}{vb:AV}{bE:Nat}{va:AV}(hp:d.params.isSome=η)(hl:d.bP.length<=aZ)(H:Hs bN aH σ (nQ id vb bE va d*R)):BJ [.op id 0] σ=δ (.ah (nA d.bP),σ):=
 Bk (dR:=[.op id 0]) (ts:=[.rp (vJ d)]) ⟨VV hp H,trivial⟩ (λσ=>afO d hl σ) rfl
theorem aum{id:Nat}{vb:AV}{bE:Nat}{va:AV}(hp:d.params.isSome=η)(hl:d.bP.length<=aZ)(H:Hs bN aH σ (nQ id vb bE va d*R))(t:Int):Kf [.op id 0,.ah t] σ=δ (.ah (rX d.bP t),σ):=
 Bk (dR:=[.op id 0,.ah t]) (ts:=[.rp (vJ d),.ah t]) ⟨VV hp H,agl t,trivial⟩ (λσ=>aun d hl t σ) rfl
theorem afU{id:Nat}{vb:AV}{bE:Nat}{va:AV}{B:aT->Prop}(H:Hs B aH σ (nQ id vb bE va d*R)):σ[id]? =δ (.box (iE vb bE va d)):=
 (jj (dN (show _=blk id (.box (iE vb bE va d))*(Sl (fl aQ) 10 vb d.state.aD*(blk bE (.map ((d.params.getD []).map jo))*Sl (fl bz) 5 va d.bP)*R) by unfold nQ;ac_rfl) H)).2
theorem afR{s:dA}{v:AV}{H:Heap}(h:IT σ s v H):(∃ex,H=σ++ex)/\l8 (.op H.length 0) (ck v s) (H++[Sd wg])=δ (H++[Sd (ck v s)])/\(H++[Sd (ck v s)])[H.length]? =δ (.box (ck v s))/\((s.aD=[]/\v=.ez)\/∃g,v=.os (σ.length+1) g 10 0 s.aD.length/\SA σ (H++[Sd (ck v s)]) H.length (σ.length+1) g s):=by
 obtain⟨⟨ex,hex⟩,_⟩:=h.ex;have hlen:σ.length<=H.length:=by rw[hex];simp
 have G0:(H++[Sd wg])[H.length]? =δ (.box wg):=by rw[iz (bF _),Wz];rfl
 have G1:(H++[Sd (ck v s)])[H.length]? =δ (.box (ck v s)):=by rw[iz (bF _),Wz];rfl
 refine⟨⟨ex,hex⟩,?_,G1,?_⟩
 ·simp only[l8,G0];rw[show Φ 0 (ck v s) wg=δ (ck v s)from rfl,cq,pJ _ _ (bF _),Wz];rfl
 ·rcases h with⟨h1,h2,h3⟩|⟨g,h1,h2⟩
  ·exact .inl ⟨h1,h2⟩
  ·refine .inr ⟨g,h1,⟨by rw[<-h1];exact G1,?_,⟨ex++[Sd (ck v s)],by rw[hex,kS]⟩,hlen,Nat.le_succ _⟩⟩;have hl:σ.length+1<H.length:=by rw[h2];simp
   rw[iG hl,h2];exact Lz σ g s
theorem arc{d:bB}{pd:AV}(hI:yG d){σ H:Heap}(hd:uK pd d σ){s:dA}{v:AV}(h:IT σ s v H){a:cW}(hs:kU a.time s)(hk:1<=a.kind/\a.kind<=9)(hp:a.kind<=7->∃b∈s.aD,b.au=a.gD):
  ∃W',Kg [pd,.op H.length 0,.agg (bz a)] (H++[Sd (ck v s)])=δ (.ah (iR d s a).2,W')/\(∃ex,W'=σ++ex)/\W'[H.length]? =δ (.box (ck v (iR d s a).1))/\((((iR d s a).1).aD=[]/\v=.ez)\/∃g,v=.os (σ.length+1) g 10 0 (iR d s a).1.aD.length/\W'[σ.length+1]? =δ (.arr g 10 ((iR d s a).1.aD.map aQ))):=by
 obtain⟨hex,_,G1,hc⟩:=afR h;have ahE:∃ex,H++[Sd (ck v s)]=σ++ex:=by obtain⟨ex,rfl⟩:=hex;exact⟨_,kS _ _ _⟩
 have hlen:σ.length<=H.length:=by obtain⟨ex,rfl⟩:=hex;simp
 by_cases k7:a.kind<=7
 ·rcases hc with⟨h1,h2⟩|⟨g,h1,Ay⟩
  ·obtain⟨b,hb,_⟩:=hp k7;rw[h1]at hb;cases hb
  ·obtain⟨W',w1,w2⟩:=auy hI hd Ay hs ⟨hk.1,k7⟩ (hp k7)
   have hle:(iR d s a).1.aD.length=s.aD.length:=by
    have:=w2.b1;have e:∀l1 l2:List bk,l1.map (·.au)=l2.map (·.au)->l1.length=l2.length:=λl1 l2 h=>by simpa using congrArg VN h
    unfold iR;rw[aL (by omega),aL (by omega)];generalize (jM (λb:bk=>decide (b.au=a.gD)) s.aD).toNat=i;cases hb:s.aD[i]? with
    |none=>rfl
    |some b=>
     simp only
     have hgo:∀to,(uS d s i b to a.time).1.aD.length=s.aD.length:=by intro to;unfold uS;cases b.bg[to.toNat]? <;>simp
     unfold Bd;repeat (first|rfl|exact hgo _|exact VA|split)
   refine⟨W',w1,w2.ex,?_,.inr ⟨g,by rw[hle];exact h1,w2.b2⟩⟩;rw[w2.b1,hle,<-h1]
 ·have BE:((χ (.op H.length 1) (H++[Sd (ck v s)])).bind λc=>φ 0 c)=δ (.ah s.au):=by simp only[χ,G1];rfl
  have Ni:∀(k:Nat)(W:Heap),χ (.rp ((bz a).drop k)) W=δ ((bz a).drop k):=λk W=>rfl
  obtain⟨W0,Az⟩:∃W0,W0=H++[Sd (ck v s)]:=⟨_,rfl⟩
  have hHl:H.length<W0.length:=by rw[Az];simp
  rw[<-Az]at BE G1 ahE ⊢
  have st:∀(s1 s2:dA)(o:Nat)(new:an),Φ o new (ck v s1)=δ (ck v s2)->l8 (.op H.length o) new (W0.set H.length (.box (ck v s1)))=δ (W0.set H.length (.box (ck v s2))):=by intro s1 s2 o new hsp;simp only[l8,oF hHl,hsp,cq,aBV]
  have st0:l8 (.op H.length 1) [.ah (θ.wrap (s.au+1))] W0=δ (W0.set H.length (.box (ck v {s with au:=θ.wrap (s.au+1)}))):=by simp only[l8,G1];rfl
  have fin:∀s':dA,s'.aD=s.aD->(∃ex,W0.set H.length (.box (ck v s'))=σ++ex)/\(W0.set H.length (.box (ck v s')))[H.length]? =δ (.box (ck v s'))/\((s'.aD=[]/\v=.ez)\/∃g,v=.os (σ.length+1) g 10 0 s'.aD.length/\(W0.set H.length (.box (ck v s')))[σ.length+1]? =δ (.arr g 10 (s'.aD.map aQ))):=by
   intro s' hs';refine⟨azK ahE hlen _,oF hHl,?_⟩;rcases hc with⟨h1,h2⟩|⟨g,h1,Ay⟩
   ·exact .inl ⟨by rw[hs'];exact h1,h2⟩
   ·rw[<-Az]at Ay;refine .inr ⟨g,by rw[hs'];exact h1,?_⟩;rw[ZN Ay.ne,hs'];exact Ay.b2
  have run:∃W',HJ pd (.op H.length 0) (.agg (bz a)) W0=δ (.ah (iR d s a).2,W')/\W'=W0.set H.length (.box (ck v (iR d s a).1))/\(iR d s a).1.aD=s.aD:=by
   unfold HJ iR;rw[show((ψ 5 (.agg (bz a))).bind λcs=>δ (Sf cs))=δ (.rp (bz a))from rfl,bS];simp only[nU,bS,Ni,show φ 0 ((bz a).drop 1)=δ (.ah a.kind)from rfl,show φ 0 ((bz a).drop 4)=δ (.ah a.level)from rfl,gK,show SD (.op H.length 0)=δ (.op H.length 0)from rfl,show ∀o,p5 o (.op H.length 0)=δ (.op H.length o)from λo=>by simp [p5],BE,lU];by_cases k8:a.kind=8
   ·rw[aO k8,cB k8,cK,qX,bS,st0,bS,qX,bS,st _ {s with au:=θ.wrap (s.au+1),vK:=a.level} 2 _ rfl,bS];exact⟨_,rfl,rfl,rfl⟩
   ·have k9:a.kind=9:=by omega
    rw[aL k8,cm k8,cD,aO k9,cB k9,cK,qX,bS,st0,bS,show((Θ (i7 (decide (a.level=1)))).bind λv=>δ [v])=δ [.bool (decide (a.level=1))]from rfl,bS,st _ {s with au:=θ.wrap (s.au+1),black:=decide (a.level=1)} 3 _ rfl,bS];exact⟨_,rfl,rfl,rfl⟩
  obtain⟨W',e1,e2,e3⟩:=run;subst e2;exact⟨_,Lw (iI _) e1,fin _ e3⟩
theorem ahs(hK:mI d)(a:cW)(H:Hs bN aH σ (iU pd d*R)):∃σ',E8 [pd,.agg (bz a)] σ=δ (.ah (lB d a).2,σ')/\Hs bN aH σ' (iU pd (lB d a).1*R):=by
 suffices h:∃σ',Ov pd (.agg (bz a)) σ=δ (.ah (lB d a).2,σ')/\Hs bN aH σ' (iU pd (lB d a).1*R) by obtain⟨σ',e,h⟩:=h;exact⟨σ',atc e,h⟩
 obtain⟨id,vb,bE,va,rfl,hp,H⟩:=apC H;have kQ:=afU H;have ahH:=(bD.1 kQ).1;have JF:d.bP.length<=aZ:=by have:=hK.len;unfold aZ;omega
 have wA:=dN (show _=Sl (fl bz) 5 va d.bP*(Sl (fl aQ) 10 vb d.state.aD*blk id (.box (iE vb bE va d))*blk bE (.map ((d.params.getD []).map jo))*R) by unfold nQ;ac_rfl) H;have JM:=dN (show _=Sl (fl aQ) 10 vb d.state.aD*(blk id (.box (iE vb bE va d))*(blk bE (.map ((d.params.getD []).map jo))*Sl (fl bz) 5 va d.bP)*R) by unfold nQ;ac_rfl) H;have ca:=FB wA;have cb:=FB JM;unfold Ov;rw[show ψ 5 (.agg (bz a))=δ (bz a)from rfl,bS];simp only[show SD (.op id 0)=δ (.op id 0)from rfl,bS,show ∀o,p5 o (.op id 0)=δ (.op id o)from λo=>by simp [p5]];rw[show((χ (.op id 11) σ).bind λc=>φ 0 c)=δ va from by simp only[χ,kQ];exact ca,bS,auj wA,bS,gK,bS,dL (oZ _ _ σ),bS,Fg,bS,dL (aar (aAM a)),bS,alF,bS,dL (aei _ σ),bS,vX,bS,dL (oZ _ _ σ),bS,bS,dL (afN hp JF H),bS,lp,bS,dL (oZ _ _ σ),bS,axd,bS,dL (wO _ (by show 4<=aZ;decide) σ),bS];rw[show((χ (.op id 4) σ).bind λc=>l7 0 5 c)=δ (.agg (bu d.setup))from by simp only[χ,kQ];rfl,bS,bS,dL (aat (aAG hK.pl a)),bS,avd,bS,dL (wO _ (by show 2<=aZ;decide) σ),bS];have hE:(([(([(if decide ((d.bP.length:Int)=5000)=η then 2 else 0),qQ a,(if(!(aX a.time 0 36000000))=η then 1 else 0),(if decide (a.time<nA d.bP)=η then 7 else 0)]:List Int).find? λn=>decide (¬n=0)).getD 0,sB d.setup a]:List Int).find? λn=>decide (¬n=0)).getD 0=CY d a:=rfl;rw[hE,fN,bS];unfold lB;by_cases h0:CY d a=0
 case neg=>
  rw[cB h0,cK,aO h0];exact⟨σ,rfl,Pq hp H⟩
 rw[cm (λq=>q h0),cD,aL (λq=>q h0),bS];obtain⟨k1,k2,k3,k4,k5⟩:=af1 h0;obtain⟨a1,a2,a3,a4⟩:=afP hK.pl k2 k5;have hrd:=afx hp H;obtain⟨v,W,e1,e2⟩:=aeR hK.di hrd k3.2 hK.si k4 ⟨.op id 0,by simp [p5],by simp only[χ,kQ];rfl⟩ (afF JM);have hAi:=UF hK.di hK.si k4 k3.2;obtain⟨s1,hs1⟩:∃s1,s1=jB d d.state a.time:=⟨_,rfl⟩
 have hpl:a.kind<=7->∃b∈s1.aD,b.au=a.gD:=by
  intro h;obtain⟨p,hp1,hp2⟩:=a2 h;have hn:s1.aD.map (·.au)=d.setup.aS.map (·.au):=by rw[hs1,Fe];exact hK.aAp
  have:a.gD∈s1.aD.map (·.au):=by rw[hn,<-hp2];exact fL.2 ⟨p,hp1,rfl⟩
  obtain⟨b,hb,xI⟩:=fL.1 this;exact⟨b,hb,xI⟩
 rw[<-hs1]at e1 e2 hAi ⊢;rw[e1,bS];simp only;rw[show ψ 4 (.agg (ck v s1))=δ (ck v s1)from rfl,bS];obtain⟨x1,x2,x3,x4⟩:=afR e2;rw[x2,bS,bS];obtain⟨W',w1,w2,w3,w4⟩:=arc hK.di hrd e2 hAi a1 hpl;rw[w1,bS];simp only;rw[fN,bS];by_cases hr:(iR d s1 a).2=0
 case neg=>
  rw[cB hr,cK,aO hr];obtain⟨ex,rfl⟩:=w2;exact⟨_,rfl,Pq hp (PY H ex)⟩
 rw[cm (λq=>q hr),cD,aL (λq=>q hr)];obtain⟨s2,hs2⟩:∃s2,s2=(iR d s1 a).1:=⟨_,rfl⟩
 rw[<-hs2]at w3 w4 ⊢;rw[show((χ (.op W.length 0) W').bind λc=>l7 0 4 c)=δ (.agg (ck v s2))from by simp only[χ,w3];rfl,bS,show ψ 4 (.agg (ck v s2))=δ (ck v s2)from rfl,bS]
 -- the new boards are the desk's own
 have K:Hs bN aH W' (blk id (.box (iE vb bE va d))*(Sl (fl aQ) 10 v s2.aD*(blk bE (.map ((d.params.getD []).map jo))*(Sl (fl bz) 5 va d.bP*R)))):=by
  obtain⟨ex,hex⟩:=w2
  have H':Hs bN aH W' (blk id (.box (iE vb bE va d))*(blk bE (.map ((d.params.getD []).map jo))*(Sl (fl bz) 5 va d.bP*R))):=by rw[hex];exact PY (wQ (dN (show _=Sl (fl aQ) 10 vb d.state.aD*(blk id (.box (iE vb bE va d))*(blk bE (.map ((d.params.getD []).map jo))*(Sl (fl bz) 5 va d.bP*R))) by unfold nQ;ac_rfl) H)) ex
  rcases w4 with⟨q1,q2⟩|⟨g,q1,q2⟩
  ·rw[q1,q2];exact dN (show _=_ by ac_rfl) (vk (v:=.ez) (E:=fl aQ) (sz:=10) H' (.inr rfl))
  ·rw[q1];have H'':=wQ (dN (show _=Sl (fl aQ) 10 vb d.state.aD*(blk id (.box (iE vb bE va d))*(blk bE (.map ((d.params.getD []).map jo))*(Sl (fl bz) 5 va d.bP*R))) by unfold nQ;ac_rfl) H);have A1:=aqe H'' ⟨ex,hex⟩ (Nat.le_succ _) q2;exact dN (show _=_ by ac_rfl) (Wg (n:=s2.aD.length) A1)
 have K1:=B4 (b':=.box (iE v bE va {d with state:=s2})) K trivial;have awI:=(jj K).2;rw[show l8 (.op id 0) (ck v s2) W'=δ (W'.set id (.box (iE v bE va {d with state:=s2})))from by simp only[l8,awI];rfl,bS];have awJ:=(jj K1).2;rw[show((χ (.op id 11) (W'.set id (.box (iE v bE va {d with state:=s2})))).bind λc=>φ 0 c)=δ va from by simp only[χ,awJ];exact ca,bS,bS,KK,bS]
 have K2:=dN (show _=Sl (fl bz) 5 va d.bP*(els (fl bz) [bz a] [a]*(blk id (.box (iE v bE va {d with state:=s2}))*(Sl (fl aQ) 10 v s2.aD*(blk bE (.map ((d.params.getD []).map jo))*R)))) by
  rw[show els (fl bz) [bz a] [a]=pr (bz a=bz a)*emp from rfl];ac_rfl) (oB.2 ⟨(rfl:bz a=bz a),dN (zG _).symm K1⟩)
 obtain⟨Dh,W2,f1,f2⟩:=IS (most:=140737488355328 / 40) K2 (by have:=hK.len;simp;omega) (λ_ _ _ _=>trivial);rw[f1,bS];simp only;have ca':=FB f2;have K3:=dN (show _=blk id (.box (iE v bE va {d with state:=s2}))*(Sl (fl bz) 5 Dh (d.bP++[a])*(Sl (fl aQ) 10 v s2.aD*(blk bE (.map ((d.params.getD []).map jo))*R))) by ac_rfl) f2;have awK:=(jj K3).2;have K4:=B4 (b':=.box (iE v bE Dh {d with state:=s2,bP:=d.bP++[a]})) K3 trivial;rw[show((Θ Dh).bind λv=>δ [v])=δ [Dh]from by rw[ca'];rfl,bS,show l8 (.op id 11) [Dh] W2=δ (W2.set id (.box (iE v bE Dh {d with state:=s2,bP:=d.bP++[a]})))from by simp only[l8,awK];rfl,bS];exact⟨_,rfl,Pq (d:={d with state:=s2,bP:=d.bP++[a]}) hp (dN (show _=nQ id v bE Dh {d with state:=s2,bP:=d.bP++[a]}*R by unfold nQ;ac_rfl) K4)⟩
end
end
section
open HP
theorem aeK{l:List cW}{t:Int}(h:rX l t=0):(0<=t/\t<=36000000)/\nA l<=t:=by
 unfold rX at h;split at h
 ·rename_i q;refine⟨rq q,?_⟩;by_cases q2:t<nA l
  ·rw[cB q2,aO rfl]at h;cases h
  ·omega
 ·cases h
section
variable {aH σ : Heap} {R : HP} {pd : AV} {d : bB} {B : aT -> Prop}
theorem afM(hl:d.bP.length<=5000)(H:Hs bN aH σ (iU pd d*R)):BJ [pd] σ=δ (.ah (nA d.bP),σ):=by obtain⟨id,vb,bE,va,rfl,hp,H⟩:=apC H;exact afN hp (by unfold aZ;omega) H
end
end
section
open HP
structure IV (s : ct) : Prop where
 jd:s.bh.bA.length<=1000000
 par:∀p∈s.bh.bA,p.params.length<=1000000/\∀q∈p.params,q.ranges.length<=1000000
 un:s.bh.dK.length<=1000000
 pre:s.cG.length<=1000000/\∀p∈s.cG,p.kZ.length<=1000000
 RM:s.bZ.length<=1000000
 bw:∀l∈s.bZ,l.bg.length<=1000000/\∀c∈l.bg,c.ef.length<=1000000/\c.fA.bV.length<=1000000
 pl:s.aS.length<=1000000
theorem Ff{α:Type}{c:α->an}{sz most:Nat}{l:List α}{m:an->Heap->aC}{r0:AV->Heap->aC}(hc:∀x,iY (c x))(hm:m=A.wT (Ω η [(.s sz)] .k (ZY r0)))(hr:∀a σ,r0 a σ=(A.wu a .aA).bind λx1=>Γ x1 (δ (.aA,σ)) ((Uv sz most .ez a σ).bind λr2=>δ (r2.1,r2.2))) (hl:l.length<=most) (σ:Heap):A.oJ (.s sz) m [sl sz c l] σ=δ (sl sz c l,σ):=by obtain⟨v,σ',e1,_,K⟩:=VK (B:=bN) (r:=λ_ _=>ξ) hm hr hl (λ_ _ _ _=>trivial) (IL σ);obtain⟨v',e2,e3⟩:=arL hc K;unfold A.oJ;rw[e1,aP];simp only;rw[e2,cq];simp only;rw[e3]
theorem avk{σ:Heap}{id:Nat}{b:aT}(h:σ[id]? =δ b):σ.set id b=σ:=by obtain⟨hl,rfl⟩:=bD.1 h;exact List.set_getElem_self hl
theorem an9{W:Heap}{id g sz i o:Nat}{rows:List an}{row new:an}(h:W[id]? =δ (.arr g sz rows))(hr:rows[i]? =δ row)(hs:Φ o new row=δ row):l8 (.oe id g i o) new W=δ W:=by simp only[l8,h,if_true,hr,aP,hs,cq];obtain⟨hl,rfl⟩:=bD.1 hr;rw[List.set_getElem_self hl,avk h]
def FU{α:Type}(c:α->an)(sz:Nat)(W:Heap)(v:AV)(l:List α):Prop:=(l=[]/\(v=.aA\/v=.ez))\/∃id g,v=.os id g sz 0 l.length/\W[id]? =δ (.arr g sz (l.map c))
theorem afD{α:Type}{c:α->an}{sz:Nat}{B:aT->Prop}{aH σ:Heap}{R:HP}{v:AV}{l:List α}(H:Hs B aH σ (Sl (fl c) sz v l*R)):FU c sz σ v l:=by
 rcases wN H with⟨h1,h2,_⟩|⟨id,g,h1,K⟩
 ·exact .inl ⟨h1,h2⟩
 ·exact .inr ⟨id,g,h1,(jj K).2⟩
theorem FU.len{α:Type}{c:α->an}{sz:Nat}{W:Heap}{v:AV}{l:List α}(h:FU c sz W v l):UT v=δ (.ah (l.length:Int)):=by rcases h with⟨rfl,rfl|rfl⟩|⟨id,g,rfl,_⟩<;>rfl
theorem FU.at{α:Type}{c:α->an}{sz:Nat}{W:Heap}{v:AV}{l:List α}(h:FU c sz W v l){i:Nat}{x:α}(hx:l[i]? =δ x):∃id g,UM sz v (.ah (i:Int))=δ (.oe id g i 0)/\(∀o,χ (.oe id g i o) W=δ ((c x).drop o))/\∀o new,Φ o new (c x)=δ (c x)->l8 (.oe id g i o) new W=δ W:=by
 have hi:=(bD.1 hx).1;rcases h with⟨rfl,_⟩|⟨id,g,rfl,hg⟩
 ·simp at hx
 ·have hr:(l.map c)[i]? =δ (c x):=by rw[qo,hx];rfl
  refine⟨id,g,?_,λo=>?_,λo new hs=>an9 hg hr hs⟩
  ·have:((i:Int)<(l.length:Int)):=by omega
   simp [UM,A.idx,this]
  ·simp only[χ,hg,if_true,hr,cq]
theorem VR{α:Type}{c:α->an}{sz:Nat}{B:aT->Prop}{aH σ:Heap}{R:HP}{v:AV}{l:List α}(H:Hs B aH σ (Sl (fl c) sz v l*R))(hc:∀x,iY (c x)){n:Nat}(hn:n<=aH.length)(d:Nat):∃v',Wr σ n (d+1) v=δ v'/\((l=[]/\(v'=.aA\/v'=.ez))\/v'=sl sz c l):=by
 rcases wN H with⟨rfl,rfl|rfl,_⟩|⟨id,g,rfl,K⟩
 ·exact⟨.aA,by simp [Wr],.inl ⟨rfl,.inl rfl⟩⟩
 ·exact⟨.ez,by simp [Wr],.inl ⟨rfl,.inr rfl⟩⟩
 ·obtain⟨h1,h2⟩:=jj K;exact⟨_,Qk hc h2 (by omega) d,.inr rfl⟩
def yz:an->eA->HP:=λe x=>ex λvp=>pr (e=[.str x.name,.ah x.size,vp])*Sl (fl gm) 7 vp x.params
def yy:an->jU->HP:=λe x=>ex λvc=>pr (e=[.ah x.au,vc])*Sl (fl bn) 11 vc x.bg
section
variable {B : aT -> Prop} {aH σ : Heap} {R : HP} {e : an}
theorem ahg{x:eA}:Hs B aH σ (yz e x*R)↔∃vp,e=[.str x.name,.ah x.size,vp]/\Hs B aH σ (Sl (fl gm) 7 vp x.params*R):=by
 unfold yz;rw[QA];constructor
 ·rintro⟨vp,H⟩;rw[vA,oB]at H;exact⟨vp,H⟩
 ·rintro⟨vp,H⟩;exact⟨vp,by rw[vA,oB];exact H⟩
theorem ahe{x:jU}:Hs B aH σ (yy e x*R)↔∃vc,e=[.ah x.au,vc]/\Hs B aH σ (Sl (fl bn) 11 vc x.bg*R):=by
 unfold yy;rw[QA];constructor
 ·rintro⟨vp,H⟩;rw[vA,oB]at H;exact⟨vp,H⟩
 ·rintro⟨vp,H⟩;exact⟨vp,by rw[vA,oB];exact H⟩
abbrev QK:List Sh:=[.k,.k,.k,.k,.k,.k,(.s 3)]
theorem ac0:∀{seg:List an}{l:List eA}{R:HP},Hs B aH σ (els yz seg l*R)->∀{n:Nat},n<=aH.length->∀(d:Nat),∃xy,A.ku σ n (d+1) seg=δ xy/\xy.map (UZ [.k,.k,(.e 7 QK)])=l.map dF
 |[],[],R,H,n,hn,d=>⟨[],by simp [A.ku],rfl⟩
 |[],_::_,R,H,n,hn,d=>(oB.1 H).1.elim
 |_::_,[],R,H,n,hn,d=>(oB.1 H).1.elim
 |e::seg,x::l,R,H,n,hn,d=>by
  rw[els,vA]at H;obtain⟨vp,he,K⟩:=ahg.1 H;obtain⟨v',h1,h2⟩:=VR K US hn d;obtain⟨xy,k1,k2⟩:=ac0 (wQ H) hn d;refine⟨[.str x.name,.ah x.size,v']::xy,?_,?_⟩
  ·rw[he];simp [A.ku,UC,Wr,h1,k1]
  ·have:Wo (.e 7 QK) v'=sl 7 gm x.params:=by
    rcases h2 with⟨h2,rfl|rfl⟩|rfl
    ·rw[h2];rfl
    ·rw[h2];rfl
    ·exact vW (λ_=>rfl) _
   rw[eo,k2,eo];congr 1;simp only[UZ,iI,this];rfl
theorem acZ:∀{seg:List an}{l:List jU}{R:HP},Hs B aH σ (els yy seg l*R)->∀{n:Nat},n<=aH.length->∀(d:Nat),∃xy,A.ku σ n (d+1) seg=δ xy/\xy.map (UZ [.k,(.e 11 IY)])=l.map eZ
 |[],[],R,H,n,hn,d=>⟨[],by simp [A.ku],rfl⟩
 |[],_::_,R,H,n,hn,d=>(oB.1 H).1.elim
 |_::_,[],R,H,n,hn,d=>(oB.1 H).1.elim
 |e::seg,x::l,R,H,n,hn,d=>by
  rw[els,vA]at H;obtain⟨vp,he,K⟩:=ahe.1 H;obtain⟨v',h1,h2⟩:=VR K Lb hn d;obtain⟨xy,k1,k2⟩:=acZ (wQ H) hn d;refine⟨[.ah x.au,v']::xy,?_,?_⟩
  ·rw[he];simp [A.ku,UC,Wr,h1,k1]
  ·have:Wo (.e 11 IY) v'=sl 11 bn x.bg:=by
    rcases h2 with⟨h2,rfl|rfl⟩|rfl
    ·rw[h2];rfl
    ·rw[h2];rfl
    ·exact vW (λ_=>rfl) _
   rw[eo,k2,eo];congr 1;simp only[UZ,iI,this];rfl
theorem aqF{v:AV}{l:List eA}(H:Hs B aH σ (Sl yz 3 v l*R)){n:Nat}(hn:n<=aH.length)(d:Nat):∃v',Wr σ n (d+2) v=δ v'/\Wo (.e 3 [.k,.k,(.e 7 QK)]) v'=sl 3 dF l:=by
 rcases AR H with⟨rfl,rfl|rfl,_⟩|⟨id,g,seg,rfl,hl,H⟩
 ·exact⟨.aA,by simp [Wr],rfl⟩
 ·exact⟨.ez,by simp [Wr],rfl⟩
 ·obtain⟨h1,h2⟩:=jj H;obtain⟨xy,k1,k2⟩:=ac0 (dN (show _=els yz seg l*(blk id (.arr g 3 seg)*R) by ac_rfl) H) hn d;refine⟨.sl 3 xy,?_,?_⟩
  ·simp only[Wr,aL (show ¬id<n by omega),h2];rw[aO (by simp;omega),Tq,vR (by omega),Ft,k1];rfl
  ·simp only[Wo,k2];rfl
theorem aqk{v:AV}{l:List jU}(H:Hs B aH σ (Sl yy 2 v l*R)){n:Nat}(hn:n<=aH.length)(d:Nat):∃v',Wr σ n (d+2) v=δ v'/\Wo (.e 2 [.k,(.e 11 IY)]) v'=sl 2 eZ l:=by
 rcases AR H with⟨rfl,rfl|rfl,_⟩|⟨id,g,seg,rfl,hl,H⟩
 ·exact⟨.aA,by simp [Wr],rfl⟩
 ·exact⟨.ez,by simp [Wr],rfl⟩
 ·obtain⟨h1,h2⟩:=jj H;obtain⟨xy,k1,k2⟩:=acZ (dN (show _=els yy seg l*(blk id (.arr g 2 seg)*R) by ac_rfl) H) hn d;refine⟨.sl 2 xy,?_,?_⟩
  ·simp only[Wr,aL (show ¬id<n by omega),h2];rw[aO (by simp;omega),Tq,vR (by omega),Ft,k1];rfl
  ·simp only[Wo,k2];rfl
end
section
variable {aH σ : Heap} {R : HP}
theorem F7{α β A1 A2:Type}{X:Option α}{v:α}{f:α->Option β}{g:A1->A2->β}{Q:A1->A2->Prop}(e:X=δ v)(k:∃a b,f v=δ (g a b)/\Q a b):∃a b,X.bind f=δ (g a b)/\Q a b:=by rw[e];exact k
theorem Xt{α β A1:Type}{X:Option α}{v:α}{f:α->Option β}{g:A1->β}{Q:A1->Prop}(e:X=δ v)(k:∃a,Q a/\f v=δ (g a)):∃a,Q a/\X.bind f=δ (g a):=by rw[e];exact k
theorem Cd{α:Type}{E:an->α->HP}{sz:Nat}{B:aT->Prop}{v:AV}{l:List α}(H:Hs B aH σ (Sl E sz v l*R)):Θ v=δ v:=by rcases AR H with⟨_,rfl|rfl,_⟩|⟨id,g,seg,rfl,_⟩<;>rfl
theorem arv{W:Heap}{x:eA}{pv:AV}(hx:∀q∈x.params,q.ranges.length<=1000000)(hl:x.params.length<=1000000)(h:FU gm 7 W pv x.params)(u0 u1 u2:AV):p7 (Oi (ε (x.params.length:Int))) [u0,u1,u2,.lbx [.str x.name,.ah x.size,pv],.ah 0] W=δ (.exit 2,[u0,u1,u2,.lbx [.str x.name,.ah x.size,pv],.ah (x.params.length:Int)],W):=by
 refine C0 (nO (Q:=λq=>q=(.exit 2,[u0,u1,u2,.lbx [.str x.name,.ah x.size,pv],.ah (x.params.length:Int)],W)) (λz v w=>∃i:Nat,i<=x.params.length/\v=[u0,u1,u2,.lbx [.str x.name,.ah x.size,pv],.ah (i:Int)]/\w=W/\z=x.params.length-i) ?_ (n:=x.params.length) ⟨0,kD _,rfl,rfl,rfl⟩);have hc:Θ pv=δ pv:=by rcases h with⟨_,rfl|rfl⟩|⟨id,g,rfl,_⟩<;>rfl
 rintro z v w ⟨i,hi,rfl,rfl,hz⟩;by_cases hlt:i<x.params.length
 ·have hq:x.params[i]? =δ x.params[i]:=bU hlt;obtain⟨id,g,e1,e2,e3⟩:=h.at hq;refine .inl ⟨x.params.length-(i+1),_,_,by omega,?_,i+1,hlt,rfl,rfl,rfl⟩;try unfold Oi
  simp only[bM,cg];have hp2:φ 2 [.str x.name,.ah x.size,pv]=δ pv:=hc;rw[gZ hq,bS,cK];simp only[iM,bS,hp2,e1,show ∀o,p5 o (.oe id g i 0)=δ (.oe id g i o)from λo=>by simp [p5],e2];rw[show φ 0 ((gm x.params[i]).drop 6)=δ (sl 3 ou x.params[i].ranges)from rfl,bS,dL (Ff (most:=140737488355328 / 32) (m:=Sb) (r0:=Sc) adh rfl (λ_ _=>rfl) (by have:=hx _ (UO hlt);omega) w),bS,show((Θ (sl 3 ou x.params[i].ranges)).bind λv=>δ [v])=δ [sl 3 ou x.params[i].ranges]from rfl,bS,e3 6 _ rfl,bS,fK hq (by unfold aZ;omega),bS]
 ·have:i=x.params.length:=by omega
  subst this;refine .inr ⟨_,?_,by simp,rfl⟩;try unfold Oi
  simp only[bM,cg];rw[iu,bS,cD]
theorem arw{W:Heap}{x:jU}{pv:AV}(hx:∀c∈x.bg,c.ef.length<=1000000/\c.fA.bV.length<=1000000)(hl:x.bg.length<=1000000)(h:FU bn 11 W pv x.bg)(u0 u1:AV):p7 (Oj (ε (x.bg.length:Int))) [u0,u1,.lbx [.ah x.au,pv],.ah 0] W=δ (.exit 8,[u0,u1,.lbx [.ah x.au,pv],.ah (x.bg.length:Int)],W):=by
 refine C0 (nO (Q:=λq=>q=(.exit 8,[u0,u1,.lbx [.ah x.au,pv],.ah (x.bg.length:Int)],W)) (λz v w=>∃i:Nat,i<=x.bg.length/\v=[u0,u1,.lbx [.ah x.au,pv],.ah (i:Int)]/\w=W/\z=x.bg.length-i) ?_ (n:=x.bg.length) ⟨0,kD _,rfl,rfl,rfl⟩);have hc:Θ pv=δ pv:=by rcases h with⟨_,rfl|rfl⟩|⟨id,g,rfl,_⟩<;>rfl
 rintro z v w ⟨i,hi,rfl,rfl,hz⟩;by_cases hlt:i<x.bg.length
 ·have hq:x.bg[i]? =δ x.bg[i]:=bU hlt;obtain⟨id,g,e1,e2,e3⟩:=h.at hq;have hb:=hx _ (UO hlt);refine .inl ⟨x.bg.length-(i+1),_,_,by omega,?_,i+1,hlt,rfl,rfl,rfl⟩;try unfold Oj
  simp only[bM,cg];have hp2:φ 1 [.ah x.au,pv]=δ pv:=hc;rw[gZ hq,bS,cK];simp only[iM,bS,hp2,e1,show SD (.oe id g i 0)=δ (.oe id g i 0)from rfl,show ∀o,p5 o (.oe id g i 0)=δ (.oe id g i o)from λo=>by simp [p5],show p5 1 (.oe id g i 6)=δ (.oe id g i 7)from rfl,e2];rw[show φ 0 ((bn x.bg[i]).drop 10)=δ (sl 8 gE x.bg[i].ef)from rfl,bS,dL (Ff (most:=140737488355328 / 64) (m:=aze) (r0:=aAr) aee rfl (λ_ _=>rfl) (by omega) w),bS,show φ 0 ((bn x.bg[i]).drop 7)=δ (sl 2 gY x.bg[i].fA.bV)from rfl,bS,dL (Ff (most:=140737488355328 / 16) (m:=EV) (r0:=N2) KO rfl (λ_ _=>rfl) (by omega) w),bS,show((Θ (sl 8 gE x.bg[i].ef)).bind λv=>δ [v])=δ [sl 8 gE x.bg[i].ef]from rfl,bS,e3 10 _ rfl,bS,show((Θ (sl 2 gY x.bg[i].fA.bV)).bind λv=>δ [v])=δ [sl 2 gY x.bg[i].fA.bV]from rfl,bS,e3 7 _ rfl,bS,fK hq (by unfold aZ;omega),bS]
 ·have:i=x.bg.length:=by omega
  subst this;refine .inr ⟨_,?_,by simp,rfl⟩;try unfold Oj
  simp only[bM,cg];rw[iu,bS,cD]
theorem PO{α:Type}{E:an->α->HP}{sz most:Nat}{v:AV}{l:List α}{e:an}{x:α}(hl:l.length+1<=most)(H:Hs bN aH σ (Sl E sz v l*(E e x*R))):∃v' σ',Uv sz most v (.sl sz [e]) σ=δ (v',σ')/\Hs bN aH σ' (Sl E sz v' (l++[x])*R):=
 IS (ys:=[e]) (xs:=[x]) (dN (by rw[arG]) H) (by simpa using hl) (λ_ _ _ _=>trivial)
theorem atu{l:List fO}(hl:l.length<=1000000)(H:Hs bN aH σ R):∃v σ',Sa [sl 7 gm l] σ=δ (v,σ')/\Θ v=δ v/\Hs bN aH σ' (Sl (fl gm) 7 v l*R):=
 VK (most:=140737488355328 / 80) (r:=λ_ _=>ξ) rfl (λ_ _=>rfl) (by omega) (λ_ _ _ _=>trivial) H
theorem aqN(n:ByteArray)(m:Int)(v:AV):(((ψ 3 (.agg [.str n,.ah m,v])).bind λlX=>(Φ 0 lX [dY,(ε 0),i6]).bind λmZ=>δ mZ).bind λcs=>δ (SQ 3 (gd 3 1 cs)))=δ (.sl 3 [[.str n,.ah m,v]]):=rfl
theorem aqM(n:Int)(v:AV):(((ψ 2 (.agg [.ah n,v])).bind λlX=>(Φ 0 lX [(ε 0),i6]).bind λmZ=>δ mZ).bind λcs=>δ (SQ 2 (gd 2 1 cs)))=δ (.sl 2 [[.ah n,v]]):=rfl
theorem auF{s:ct}(hb:IV s)(H:Hs bN aH σ R)(un pl u:AV):∃v W,p7 (HD (sl 3 dF s.bh.bA) (ε (s.bh.bA.length:Int))) [.lbx (bu s),u,.lbx [.aA,un,.aA,.aA,pl],.ah 0] σ=δ (.exit 0,[.lbx (bu s),u,.lbx [v,un,.aA,.aA,pl],.ah (s.bh.bA.length:Int)],W)/\Hs bN aH W (Sl yz 3 v s.bh.bA*R):=by
 suffices h:∃q,p7 (HD (sl 3 dF s.bh.bA) (ε (s.bh.bA.length:Int))) [.lbx (bu s),u,.lbx [.aA,un,.aA,.aA,pl],.ah 0] σ=δ q/\∃v W,q=(.exit 0,[.lbx (bu s),u,.lbx [v,un,.aA,.aA,pl],.ah (s.bh.bA.length:Int)],W)/\Hs bN aH W (Sl yz 3 v s.bh.bA*R) by obtain⟨q,e,v,W,rfl,K⟩:=h;exact⟨v,W,e,K⟩
 refine nO (λz v w=>∃(i:Nat)(vo:AV),i<=s.bh.bA.length/\v=[.lbx (bu s),u,.lbx [vo,un,.aA,.aA,pl],.ah (i:Int)]/\z=s.bh.bA.length-i/\Hs bN aH w (Sl yz 3 vo (s.bh.bA.take i)*R)) ?_ (n:=s.bh.bA.length) ⟨0,.aA,kD _,rfl,rfl,vk H (.inl rfl)⟩;rintro z v w ⟨i,vo,hi,rfl,hz,K⟩;by_cases h:i<s.bh.bA.length
 ·obtain⟨x,dB⟩:∃x,x=s.bh.bA[i]:=⟨_,rfl⟩
  have hx:s.bh.bA[i]? =δ x:=by rw[dB];exact bU h
  have hpb:=hb.par x (cE hx);have hlb:=hb.jd
  have step:∃fW w',(HD (sl 3 dF s.bh.bA) (ε (s.bh.bA.length:Int))) [.lbx (bu s),u,.lbx [vo,un,.aA,.aA,pl],.ah (i:Int)] w=δ (.normal,[.lbx (bu s),u,.lbx [fW,un,.aA,.aA,pl],.ah ((i+1:Nat):Int)],w')/\Hs bN aH w' (Sl yz 3 fW (s.bh.bA.take i++[x])*R):=by
   try unfold HD
   simp only[bM,cg];rw[gZ hx,bS,cK,gy hx,bS,pQ,bS,show l7 0 3 (dF x)=δ (.agg (dF x))from rfl,bS,show ψ 3 (.agg (dF x))=δ (dF x)from rfl,bS,show Φ 0 (dF x) [dY,(ε 0),i6]=δ (dF x)from rfl,bS,td,bS];obtain⟨pv,w1,c1,c2,c3⟩:=atu hpb.1 K;have Ay:=afD c3;rw[c1,bS];simp only;rw[show((Θ pv).bind λv=>δ [v])=δ [pv]from by rw[c2];rfl,bS,show Φ 2 [pv] (dF x)=δ [.str x.name,.ah x.size,pv]from rfl,bS,show φ 2 [.str x.name,.ah x.size,pv]=δ pv from c2,bS,Ay.len,bS];refine F7 (arv hpb.2 hpb.1 Ay _ _ _) ?_;simp only[mB,bM,cg,iM,bS];have MG:=Cd K;rw[show φ 0 [vo,un,.aA,.aA,pl]=δ vo from MG,bS,show l7 0 3 [.str x.name,.ah x.size,pv]=δ (.agg [.str x.name,.ah x.size,pv])from rfl,bS,aqN,bS];obtain⟨fW,w2,f1,f2⟩:=PO (most:=140737488355328 / 48) (E:=yz) (l:=s.bh.bA.take i) (v:=vo) (e:=[.str x.name,.ah x.size,pv]) (x:=x) (R:=R) (by rw[oH];omega) (dN (by ac_rfl) (ahg.2 ⟨pv,rfl,c3⟩));rw[f1,bS];simp only;rw[show((Θ fW).bind λv=>δ [v])=δ [fW]from by rw[Cd f2];rfl,bS,show Φ 0 [fW] [vo,un,.aA,.aA,pl]=δ [fW,un,.aA,.aA,pl]from rfl,bS,fK hx (by unfold aZ;omega),bS];exact⟨fW,w2,rfl,f2⟩
  obtain⟨fW,w',s1,s2⟩:=step;refine .inl ⟨s.bh.bA.length-(i+1),_,_,by omega,s1,i+1,fW,h,rfl,rfl,?_⟩;rw[S2,hx];exact s2
 ·have:i=s.bh.bA.length:=by omega
  subst this;rw[Uo]at K;refine .inr ⟨(.exit 0,[.lbx (bu s),u,.lbx [vo,un,.aA,.aA,pl],.ah (s.bh.bA.length:Int)],w),?_,by simp,vo,w,rfl,K⟩;try unfold HD
  simp only[bM,cg];rw[iu,bS,cD]
theorem auG{s:ct}(hb:IV s)(H:Hs bN aH σ R)(vl un pl u:AV)(hvl:Θ vl=δ vl):∃v W,p7 (HE (sl 3 fk s.cG) (ε (s.cG.length:Int))) [.lbx (bu s),u,.lbx [vl,un,.aA,.aA,pl],.ah 0] σ=δ (.exit 4,[.lbx (bu s),u,.lbx [vl,un,v,.aA,pl],.ah (s.cG.length:Int)],W)/\Hs bN aH W (Sl (fl fk) 3 v s.cG*R):=by
 suffices h:∃q,p7 (HE (sl 3 fk s.cG) (ε (s.cG.length:Int))) [.lbx (bu s),u,.lbx [vl,un,.aA,.aA,pl],.ah 0] σ=δ q/\∃v W,q=(.exit 4,[.lbx (bu s),u,.lbx [vl,un,v,.aA,pl],.ah (s.cG.length:Int)],W)/\Hs bN aH W (Sl (fl fk) 3 v s.cG*R) by obtain⟨q,e,v,W,rfl,K⟩:=h;exact⟨v,W,e,K⟩
 refine nO (λz v w=>∃(i:Nat)(vo:AV),i<=s.cG.length/\v=[.lbx (bu s),u,.lbx [vl,un,vo,.aA,pl],.ah (i:Int)]/\z=s.cG.length-i/\Hs bN aH w (Sl (fl fk) 3 vo (s.cG.take i)*R)) ?_ (n:=s.cG.length) ⟨0,.aA,kD _,rfl,rfl,vk H (.inl rfl)⟩;rintro z v w ⟨i,vo,hi,rfl,hz,K⟩;by_cases h:i<s.cG.length
 ·obtain⟨x,dB⟩:∃x,x=s.cG[i]:=⟨_,rfl⟩
  have hx:s.cG[i]? =δ x:=by rw[dB];exact bU h
  have hpb:=hb.pre.2 x (cE hx);have hlb:=hb.pre.1
  have step:∃fW w',(HE (sl 3 fk s.cG) (ε (s.cG.length:Int))) [.lbx (bu s),u,.lbx [vl,un,vo,.aA,pl],.ah (i:Int)] w=δ (.normal,[.lbx (bu s),u,.lbx [vl,un,fW,.aA,pl],.ah ((i+1:Nat):Int)],w')/\Hs bN aH w' (Sl (fl fk) 3 fW (s.cG.take i++[x])*R):=by
   try unfold HE
   simp only[bM,cg];rw[gZ hx,bS,cK,gy hx,bS,pQ,bS,show l7 0 3 (fk x)=δ (.agg (fk x))from rfl,bS,show ψ 3 (.agg (fk x))=δ (fk x)from rfl,bS,show Φ 0 (fk x) [(ε 0),dY,i6]=δ (fk x)from rfl,bS,show φ 2 (fk x)=δ (sl 3 tv x.kZ)from rfl,bS,Ff (most:=140737488355328 / 32) (m:=R8) (r0:=R9) abJ rfl (λ_ _=>rfl) (by omega) w,bS];simp only[iM,bS];have MG:=Cd K;rw[show((Θ (sl 3 tv x.kZ)).bind λv=>δ [v])=δ [sl 3 tv x.kZ]from rfl,bS,show Φ 2 [sl 3 tv x.kZ] (fk x)=δ (fk x)from rfl,bS,show φ 2 [vl,un,vo,.aA,pl]=δ vo from MG,bS,show l7 0 3 (fk x)=δ (.agg (fk x))from rfl,bS,show(((ψ 3 (.agg (fk x))).bind λlX=>(Φ 0 lX [(ε 0),dY,i6]).bind λmZ=>δ mZ).bind λcs=>δ (SQ 3 (gd 3 1 cs)))=δ (.sl 3 [fk x])from rfl,bS];obtain⟨fW,w2,f1,f2⟩:=PO (most:=140737488355328 / 48) (E:=fl fk) (l:=s.cG.take i) (v:=vo) (e:=fk x) (x:=x) (R:=R) (by rw[oH];omega) (dN (by ac_rfl) (oB.2 ⟨(rfl:fk x=fk x),K⟩));rw[f1,bS];simp only;rw[show((Θ fW).bind λv=>δ [v])=δ [fW]from by rw[Cd f2];rfl,bS,show Φ 2 [fW] [vl,un,vo,.aA,pl]=δ [vl,un,fW,.aA,pl]from rfl,bS,fK hx (by unfold aZ;omega),bS];exact⟨fW,w2,rfl,f2⟩
  obtain⟨fW,w',s1,s2⟩:=step;refine .inl ⟨s.cG.length-(i+1),_,_,by omega,s1,i+1,fW,h,rfl,rfl,?_⟩;rw[S2,hx];exact s2
 ·have:i=s.cG.length:=by omega
  subst this;rw[Uo]at K;refine .inr ⟨(.exit 4,[.lbx (bu s),u,.lbx [vl,un,vo,.aA,pl],.ah (s.cG.length:Int)],w),?_,by simp,vo,w,rfl,K⟩;try unfold HE
  simp only[bM,cg];rw[iu,bS,cD]
theorem atr{l:List bl}(hl:l.length<=1000000)(H:Hs bN aH σ R):∃v σ',N3 [sl 11 bn l] σ=δ (v,σ')/\Θ v=δ v/\Hs bN aH σ' (Sl (fl bn) 11 v l*R):=awt (by omega) H
theorem auH{s:ct}(hb:IV s)(H:Hs bN aH σ R)(vl un vp pl u:AV):∃v W,p7 (HF (sl 2 eZ s.bZ) (ε (s.bZ.length:Int))) [u,.lbx [vl,un,vp,.aA,pl],.ah 0] σ=δ (.exit 6,[u,.lbx [vl,un,vp,v,pl],.ah (s.bZ.length:Int)],W)/\Hs bN aH W (Sl yy 2 v s.bZ*R):=by
 suffices h:∃q,p7 (HF (sl 2 eZ s.bZ) (ε (s.bZ.length:Int))) [u,.lbx [vl,un,vp,.aA,pl],.ah 0] σ=δ q/\∃v W,q=(.exit 6,[u,.lbx [vl,un,vp,v,pl],.ah (s.bZ.length:Int)],W)/\Hs bN aH W (Sl yy 2 v s.bZ*R) by obtain⟨q,e,v,W,rfl,K⟩:=h;exact⟨v,W,e,K⟩
 refine nO (λz v w=>∃(i:Nat)(vo:AV),i<=s.bZ.length/\v=[u,.lbx [vl,un,vp,vo,pl],.ah (i:Int)]/\z=s.bZ.length-i/\Hs bN aH w (Sl yy 2 vo (s.bZ.take i)*R)) ?_ (n:=s.bZ.length) ⟨0,.aA,kD _,rfl,rfl,vk H (.inl rfl)⟩;rintro z v w ⟨i,vo,hi,rfl,hz,K⟩;by_cases h:i<s.bZ.length
 ·obtain⟨x,dB⟩:∃x,x=s.bZ[i]:=⟨_,rfl⟩
  have hx:s.bZ[i]? =δ x:=by rw[dB];exact bU h
  have hpb:=hb.bw x (cE hx);have hlb:=hb.RM
  have step:∃fW w',(HF (sl 2 eZ s.bZ) (ε (s.bZ.length:Int))) [u,.lbx [vl,un,vp,vo,pl],.ah (i:Int)] w=δ (.normal,[u,.lbx [vl,un,vp,fW,pl],.ah ((i+1:Nat):Int)],w')/\Hs bN aH w' (Sl yy 2 fW (s.bZ.take i++[x])*R):=by
   try unfold HF
   simp only[bM,cg];rw[gZ hx,bS,cK,gy hx,bS,pQ,bS,show l7 0 2 (eZ x)=δ (.agg (eZ x))from rfl,bS,show ψ 2 (.agg (eZ x))=δ (eZ x)from rfl,bS,show Φ 0 (eZ x) [(ε 0),i6]=δ (eZ x)from rfl,bS,ar3,bS];obtain⟨pv,w1,c1,c2,c3⟩:=atr hpb.1 K;have Ay:=afD c3;rw[c1,bS];simp only;rw[show((Θ pv).bind λv=>δ [v])=δ [pv]from by rw[c2];rfl,bS,show Φ 1 [pv] (eZ x)=δ [.ah x.au,pv]from rfl,bS,show φ 1 [.ah x.au,pv]=δ pv from c2,bS,Ay.len,bS];refine F7 (arw hpb.2 hpb.1 Ay _ _) ?_;simp only[mB,bM,cg,iM,bS];have MG:=Cd K;rw[show φ 3 [vl,un,vp,vo,pl]=δ vo from MG,bS,show l7 0 2 [.ah x.au,pv]=δ (.agg [.ah x.au,pv])from rfl,bS,aqM,bS];obtain⟨fW,w2,f1,f2⟩:=PO (most:=140737488355328 / 32) (E:=yy) (l:=s.bZ.take i) (v:=vo) (e:=[.ah x.au,pv]) (x:=x) (R:=R) (by rw[oH];omega) (dN (by ac_rfl) (ahe.2 ⟨pv,rfl,c3⟩));rw[f1,bS];simp only;rw[show((Θ fW).bind λv=>δ [v])=δ [fW]from by rw[Cd f2];rfl,bS,show Φ 3 [fW] [vl,un,vp,vo,pl]=δ [vl,un,vp,fW,pl]from rfl,bS,fK hx (by unfold aZ;omega),bS];exact⟨fW,w2,rfl,f2⟩
  obtain⟨fW,w',s1,s2⟩:=step;refine .inl ⟨s.bZ.length-(i+1),_,_,by omega,s1,i+1,fW,h,rfl,rfl,?_⟩;rw[S2,hx];exact s2
 ·have:i=s.bZ.length:=by omega
  subst this;rw[Uo]at K;refine .inr ⟨(.exit 6,[u,.lbx [vl,un,vp,vo,pl],.ah (s.bZ.length:Int)],w),?_,by simp,vo,w,rfl,K⟩;try unfold HF
  simp only[bM,cg];rw[iu,bS,cD]
end
theorem apy{s:ct}(hb:IV s)(σ:Heap):OB [.agg (bu s)] σ=δ (.agg (bu s),σ):=by
 suffices h:∃v,Wo (.a [(.e 3 FQ),(.s 4),(.e 3 [.k,.k,(.s 3)]),(.e 2 [.k,(.e 11 qv)]),(.s 3)]) v=.agg (bu s)/\Tv (.agg (bu s)) σ=δ (v,σ) by obtain⟨v,h1,h2⟩:=h;exact Fu rfl (jD (uH rfl) rfl) h1 h2
 unfold Tv;have hu:=hb.un;have hpl:=hb.pl;rw[show ψ 5 (.agg (bu s))=δ (bu s)from rfl,bS,show φ 4 (bu s)=δ (sl 3 cr s.aS)from rfl,bS,Ff (most:=140737488355328 / 24) (m:=R6) (r0:=ar5) TB rfl (λ_ _=>rfl) (by omega) σ,bS];simp only;rw[show((((Θ (sl 3 cr s.aS)).bind λv=>δ [v]).bind λc4=>(Φ 4 c4 Ck).bind λc5=>δ c5).bind λcs=>δ (Λ cs))=δ (.agg [i6,i6,i6,i6,sl 3 cr s.aS])from rfl,bS,show ψ 5 (.agg [i6,i6,i6,i6,sl 3 cr s.aS])=δ [i6,i6,i6,i6,sl 3 cr s.aS]from rfl,bS,show Φ 0 [i6,i6,i6,i6,sl 3 cr s.aS] Ck=δ [i6,i6,i6,i6,sl 3 cr s.aS]from rfl,bS,show φ 1 (bu s)=δ (sl 4 dr s.bh.dK)from rfl,bS,Ff (most:=140737488355328 / 40) (m:=Se) (r0:=Sg) Vl rfl (λ_ _=>rfl) (by omega) σ,bS];simp only;rw[show((Θ (sl 4 dr s.bh.dK)).bind λv=>δ [v])=δ [sl 4 dr s.bh.dK]from rfl,bS,show Φ 1 [sl 4 dr s.bh.dK] [i6,i6,i6,i6,sl 3 cr s.aS]=δ [i6,sl 4 dr s.bh.dK,i6,i6,sl 3 cr s.aS]from rfl,bS,abT,bS,fJ,bS];obtain⟨v1,W1,l1,K1⟩:=auF hb (R:=emp) (IL (B:=bN) σ) (sl 4 dr s.bh.dK) (sl 3 cr s.aS) (.lbx Ck);refine Xt l1 ?_;simp only[mB,bM,cg,iM,bS];rw[show φ 2 (bu s)=δ (sl 3 fk s.cG)from rfl,bS,fJ,bS];obtain⟨v2,W2,l2,K2⟩:=auG hb K1 v1 (sl 4 dr s.bh.dK) (sl 3 cr s.aS) (.lbx Ck) (Cd K1);refine Xt l2 ?_;simp only[mB,bM,cg,iM,bS];rw[show φ 3 (bu s)=δ (sl 2 eZ s.bZ)from rfl,bS,fJ,bS];obtain⟨v3,W3,l3,K3⟩:=auH hb K2 v1 (sl 4 dr s.bh.dK) v2 (sl 3 cr s.aS) (.lbx Ck);refine Xt l3 ?_;simp only[mB,bM,cg,iM,bS];rw[show l7 0 5 [v1,sl 4 dr s.bh.dK,v2,v3,sl 3 cr s.aS]=δ (.agg [v1,sl 4 dr s.bh.dK,v2,v3,sl 3 cr s.aS])from rfl,bS,show ψ 5 (.agg [v1,sl 4 dr s.bh.dK,v2,v3,sl 3 cr s.aS])=δ [v1,sl 4 dr s.bh.dK,v2,v3,sl 3 cr s.aS]from rfl,bS,show Φ 0 [v1,sl 4 dr s.bh.dK,v2,v3,sl 3 cr s.aS] Ck=δ [v1,sl 4 dr s.bh.dK,v2,v3,sl 3 cr s.aS]from rfl,bS,show l7 0 5 [v1,sl 4 dr s.bh.dK,v2,v3,sl 3 cr s.aS]=δ (.agg [v1,sl 4 dr s.bh.dK,v2,v3,sl 3 cr s.aS])from rfl,bS];have J1:=dN (show _=Sl yz 3 v1 s.bh.bA*(Sl yy 2 v3 s.bZ*(Sl (fl fk) 3 v2 s.cG*emp)) by ac_rfl) K3;have J2:=dN (show _=Sl (fl fk) 3 v2 s.cG*(Sl yy 2 v3 s.bZ*(Sl yz 3 v1 s.bh.bA*emp)) by ac_rfl) K3;obtain⟨v1',a1,a2⟩:=aqF J1 (bF _) 6;obtain⟨v2',b1,b2⟩:=VR J2 acg (bF _) 7;obtain⟨R1,c1,c2⟩:=aqk K3 (bF _) 6;refine⟨.agg [v1',sl 4 dr s.bh.dK,v2',R1,sl 3 cr s.aS],?_,FD K3 ?_ ?_⟩
 ·have By:Wo (.e 3 [.k,.k,(.s 3)]) v2'=sl 3 fk s.cG:=by
   rcases b2 with⟨h,rfl|rfl⟩|rfl
   ·rw[h];rfl
   ·rw[h];rfl
   ·exact vW (λ_=>rfl) _
  show Λ (UZ [(.e 3 [.k,.k,(.e 7 QK)]),(.s 4),(.e 3 [.k,.k,(.s 3)]),(.e 2 [.k,(.e 11 IY)]),(.s 3)] _)=_;simp only[UZ,a2,By,c2];rfl
 ·simp only[Wr,UC,a1,b1,c1,qZ Vl _ W3 σ.length 8,qZ TB _ W3 σ.length 8,aP,cq]
 ·intro e
  have n1:v1'=v1:=by
   rcases AR J1 with⟨_,rfl|rfl,_⟩|⟨id,g,seg,rfl,hl,K⟩
   ·simp [Wr]at a1;exact a1.symm
   ·simp [Wr]at a1;exact a1.symm
   ·obtain⟨k1,k2⟩:=jj K;have:=(bD.1 k2).1;subst e;omega
  have n2:v2'=v2:=by
   rcases AR J2 with⟨_,rfl|rfl,_⟩|⟨id,g,seg,rfl,hl,K⟩
   ·simp [Wr]at b1;exact b1.symm
   ·simp [Wr]at b1;exact b1.symm
   ·obtain⟨k1,k2⟩:=jj K;have:=(bD.1 k2).1;subst e;omega
  have n3:R1=v3:=by
   rcases AR K3 with⟨_,rfl|rfl,_⟩|⟨id,g,seg,rfl,hl,K⟩
   ·simp [Wr]at c1;exact c1.symm
   ·simp [Wr]at c1;exact c1.symm
   ·obtain⟨k1,k2⟩:=jj K;have:=(bD.1 k2).1;subst e;omega
  rw[n1,n2,n3]
end
section
open HP
theorem anM{l:List qU}(h:BY l=0):l.length<=30:=by
 unfold BY at h;split at h
 ·cases h
 ·omega
theorem aeT(size:Int):∀(l pre:List fO),Eg size pre l=0->∀x∈l,(0<=x.default/\x.default<=65535)/\x.ranges.length<=30
 |[],pre,h,x,hx=>by simp at hx
 |y::l,pre,h,x,hx=>by
  rw[aos]at h;by_cases h0:Mc size pre y=0;case neg=>rw[aL h0]at h;exact absurd h h0
  rw[aO h0]at h;rcases iV.1 hx with rfl|hx
  ·unfold Mc at h0;split at h0
   ·cases h0
   split at h0
   ·cases h0
   split at h0
   ·cases h0
   split at h0
   ·cases h0
   rename_i h4;split at h0
   ·cases h0
   refine⟨?_,anM h0⟩;cases q:aX x.default 0 65535
   ·exact absurd (.inr (.inr q)) h4
   ·exact rq q
  ·exact aeT size l _ h x hx
theorem afv{p:eA}(h:tF p=0):p.params.length<=40/\∀x∈p.params,(0<=x.default/\x.default<=65535)/\x.ranges.length<=30:=by
 refine⟨aaN h,?_⟩;unfold tF at h;split at h
 ·cases h
 split at h
 ·cases h
 split at h
 ·cases h
 split at h
 ·cases h
 exact aeT _ _ _ h
structure Cc (s : ct) : Prop where
 ok:rQ s
 bh:lI s.bh=0
 pre:tE s.bh s.cG=0
 RM:s.bZ.length<=30
 lok:∀l∈s.bZ,qi l.bg=0
 pl:s.aS.length<=40
 fnd:∀p∈s.aS,(pH s.bZ p.list).2=η
theorem LH{s:ct}(hs:rQ s)(h:wV s=0):Cc s:=by
 unfold wV at h;by_cases h1:tE s.bh s.cG=0;case neg=>rw[aO h1]at h;exact absurd h h1
 rw[aL (λq=>q h1)]at h;split at h
 ·cases h
 rename_i h2;by_cases h3:iW (DQ s) s.bZ 0=0;case neg=>rw[aO h3]at h;exact absurd h h3
 rw[aL (λq=>q h3)]at h;split at h
 ·cases h
 rename_i h4;refine⟨hs,azT h1,h1,by omega,λl hl=>?_,by omega,λp hp=>?_⟩
 ·obtain⟨i,hi,e⟩:=Yj hl;have:=(wM s.bZ 0).1 h3 i l (by rw[<-e];exact bU hi);unfold DQ at this;split at this
  ·cases this
  split at this
  ·cases this
  unfold QF at this;rw[aL (λq=>q h1)]at this;by_cases h5:qi l.bg=0
  ·exact h5
  ·rw[aO h5]at this;exact absurd this h5
 ·obtain⟨i,hi,e⟩:=Yj hp;have:=(wM s.aS 0).1 h i p (by rw[<-e];exact bU hi);unfold IX at this;split at this
  ·cases this
  split at this
  ·cases this
  split at this
  ·cases this
  rename_i q;simpa using q
theorem aez{r:iH}{cG:List lF}(h:tE r cG=0):cG.length<=200/\∀p∈cG,p.kZ.length<=2000/\∀x∈p.kZ,0<=x.level/\x.level<=65535:=by
 have hr:=azT h;unfold tE at h;rw[aL (λq=>q hr)]at h;split at h
 ·cases h
 refine⟨by omega,λp hp=>?_⟩;obtain⟨i,hi,e⟩:=Yj hp;have h2:=(wM cG 0).1 h i p (by rw[<-e];exact bU hi);unfold P7 at h2;split at h2
 ·cases h2
 split at h2
 ·cases h2
 split at h2
 ·cases h2
 split at h2
 ·cases h2
 refine⟨by omega,λx hx=>?_⟩;obtain⟨j,hj,e⟩:=Yj hx;have h3:=(wM p.kZ 0).1 h2 j x (by rw[<-e];exact bU hj);unfold QJ at h3;split at h3
 ·cases h3
 split at h3
 ·cases h3
 rename_i q;exact rq (by simpa using q)
theorem atT{r:iH}{cG:List lF}(h:tE r cG=0)(k:aI)(v:nP):0<=(zL cG k v).1/\(zL cG k v).1<=65535:=by
 unfold zL;split
 ·simp
 split
 ·simp
 rename_i h2;split
 ·exact rq (by simpa using h2)
 split
 ·simp
 rename_i p hp;split
 ·simp
 rename_i x hx;exact((aez h).2 p (zV hp)).2 x (zV hx)
theorem Cc.bd{s:ct}(h:Cc s):IV s:=by
 have hl:=Vv h.bh;have hp:=aez h.pre;refine⟨?_,λp hp=>?_,?_,⟨by omega,λp q=>by have:=(hp.2 p q).1;omega⟩,by have:=h.RM;omega,λl hl=>?_,by have:=h.pl;omega⟩
 ·unfold Ak at hl;split at hl
  ·cases hl
  ·omega
 ·have:=afv (azN hl p hp);exact⟨by omega,λq hq=>by have:=(this.2 q hq).2;omega⟩
 ·have hr:=h.bh;unfold lI at hr;rw[aO hl]at hr;split at hr
  ·cases hr
  ·omega
 ·have hg:=PX (h.lok l hl);exact⟨by have:=hg.len;omega,λc hc=>⟨by have:=(hg.mv c hc).1;omega,by have:=hg.pts c hc;omega⟩⟩
def pL(l:List eA):List (ByteArray×eA):=l.foldl (λm p=>eT p.name p m) []
def IZ(lm:List (ByteArray×eA))(u:jk):List fO:=match dO u.jX lm with
 |none=>[]
 |some p=>p.params
def WH(lm:List (ByteArray×eA))(m:List (aI×fO))(u:jk):List (aI×fO):=(IZ lm u).foldl (λm x=>eT ⟨u.au,x.name⟩ x m) m
def Cz(r:iH):List (aI×fO):=r.dK.foldl (WH (pL r.bA)) []
def mz(s:ct)(p:iC):bk:=⟨⟨0,0,ι⟩,p.au,p.jT,(pH s.bZ p.list).1.bg,-1,65535,-1,ξ⟩
def jq(s:ct):bB:=⟨⟨s.aS.map (mz s),0,65535,ι⟩,s,pZ s.bh,δ (Cz s.bh),[]⟩
theorem aBo{κ ν:Type}[DecidableEq κ]{P:ν->Prop}{k:κ}{v:ν}(hv:P v):∀{l:List (κ×ν)},(∀p∈l,P p.2)->∀p∈eT k v l,P p.2
 |[],_,p,hp=>by simp [eT]at hp;rw[hp];exact hv
 |(k',v')::r,h,p,hp=>by
  rw[eT]at hp;split at hp
  ·rcases iV.1 hp with rfl|hp
   ·exact hv
   ·exact h p (by simp [hp])
  ·rcases iV.1 hp with rfl|hp
   ·exact h _ (by simp)
   ·exact aBo hv (λp hp=>h p (by simp [hp])) p hp
theorem Pb{α β:Type}{P:β->Prop}{f:β->α->β}:∀(l:List α)(b:β),P b->(∀b,P b->∀x∈l,P (f b x))->P (l.foldl f b)
 |[],b,h,_=>h
 |x::l,b,h,k=>Pb l (f b x) (k b h x (by simp)) λb hb y hy=>k b hb y (by simp [hy])
theorem aeo{P:eA->Prop}{l:List eA}(h:∀p∈l,P p):∀p∈pL l,P p.2:=by unfold pL;exact Pb (P:=λm:List (ByteArray×eA)=>∀p∈m,P p.2) l [] (by simp) λm hm x hx=>aBo (h x hx) hm
theorem aqC{P:fO->Prop}{r:iH}(h:∀p∈r.bA,∀x∈p.params,P x):∀p∈Cz r,P p.2:=by
 unfold Cz;refine Pb (P:=λm:List (aI×fO)=>∀p∈m,P p.2) r.dK [] (by simp) λm hm u hu=>?_
 unfold WH;refine Pb (P:=λm:List (aI×fO)=>∀p∈m,P p.2) _ m hm λm hm x hx=>aBo ?_ hm
 unfold IZ at hx;cases hf:dO u.jX (pL r.bA)with
 |none=>rw[hf]at hx;simp at hx
 |some p=>rw[hf]at hx;exact aeo (P:=λp=>∀x∈p.params,P x) h _ (I2 hf) x hx
theorem ack{l:List jU}{n:Int}(h:(pH l n).2=η):(pH l n).1∈l:=by
 unfold pH at h ⊢;cases hf:l.find? (λx=>decide (x.au=n))with
 |none=>rw[hf]at h;cases h
 |some x=>exact zV hf
theorem KV{s:ct}(h:Cc s):mI (jq s):=by
 obtain⟨hr,hp,hl,hb⟩:=h.ok;refine⟨⟨hp,atT h.pre,λk=>?_⟩,⟨⟨Y7 _,by show(0:Int)<=_;decide⟩,?_,λb hb=>?_,by show(0:Int)<=65535/\(65535:Int)<=65535;decide⟩,?_,by show 0<=5000;decide,rfl⟩
 ·unfold gH;cases hf:dO k ((jq s).params.getD [])with
  |none=>simp
  |some x=>exact aqC (P:=λx=>0<=x.default/\x.default<=65535) (λp hp x hx=>((afv (azN (Vv h.bh) p hp)).2 x hx).1) _ (I2 hf)
 ·show(s.aS.map (mz s)).length<=40;rw[Z7];exact h.pl
 ·obtain⟨p,hp,rfl⟩:=fL.1 hb;have hm:=ack (h.fnd p hp);refine{uh:=(hl.2 _ hm).2,eD:=h.lok _ hm,can:=λl e=>?_,runs:=λk r q=>?_,eF:=?_,sM:=?_,bw:=?_,sO:=?_}
  ·simp [mz]at e
  ·simp [mz]at q
  ·show(0:Int)<=65535/\(65535:Int)<=65535;decide
  ·show(0:Int)<=0/\(0:Int)<=0/\(0:Int)<=0;decide
  ·show(-1:Int)<=-1/\(-1:Int)<(((pH s.bZ p.list).1.bg.length:Nat):Int);omega
  ·left;show(-1:Int)<0;decide
 ·show(s.aS.map (mz s)).map (·.au)=_;rw[Zc];rfl
section
variable {aH σ : Heap} {R : HP}
section
variable {κ ν : Type} [DecidableEq κ] {ek : A.EK} {eK : κ -> AV} {eV : ν -> AV} {B : aT -> Prop} {id : Nat} {l : List (κ × ν)}
theorem ahr(hq:∀a b,Uj ek (eK a) (eK b)=δ (decide (a=b))){x:κ}(hok:A.kK ek (eK x)=η)(v:ν)(H:Hs bN aH σ (blk id (.map (l.map λp=>(eK p.1,eV p.2)))*R)):∃σ',A.iX ek (.om id) (eK x) (eV v) σ=δ σ'/\Hs bN aH σ' (blk id (.map ((eT x v l).map λp=>(eK p.1,eV p.2)))*R):=by refine⟨σ.set id (.map ((eT x v l).map λp=>(eK p.1,eV p.2))),?_,B4 H trivial⟩;simp only[A.iX,hok,cA,(jj H).2,FO hq,cq]
theorem aus(hq:∀a b,Uj ek (eK a) (eK b)=δ (decide (a=b))){x:κ}(hok:A.kK ek (eK x)=η)(z:AV)(H:Hs B aH σ (blk id (.map (l.map λp=>(eK p.1,eV p.2)))*R)):WK ek (.om id) (eK x) z σ=δ (((dO x l).map eV).getD z):=by simp only[WK,hok,cA,Tn,(jj H).2,aP,DP hq,cq]
end
def yI(p:ByteArray×eA):AV×AV:=(.str p.1,.agg (dF p.2))
theorem ave{s:ct}(hl:s.bh.bA.length<=1000000){nZ:Nat}(H:Hs bN aH σ (blk nZ (.map (([]:List (ByteArray×eA)).map yI))*R)):∃W,p7 (Ko (sl 3 dF s.bh.bA) (ε (s.bh.bA.length:Int)) nZ) [.lbx (bu s),.ah 0] σ=δ (.exit 0,[.lbx (bu s),.ah (s.bh.bA.length:Int)],W)/\Hs bN aH W (blk nZ (.map ((pL s.bh.bA).map yI))*R):=by
 suffices h:∃q,p7 (Ko (sl 3 dF s.bh.bA) (ε (s.bh.bA.length:Int)) nZ) [.lbx (bu s),.ah 0] σ=δ q/\∃W,q=(.exit 0,[.lbx (bu s),.ah (s.bh.bA.length:Int)],W)/\Hs bN aH W (blk nZ (.map ((pL s.bh.bA).map yI))*R) by obtain⟨q,e,W,rfl,K⟩:=h;exact⟨W,e,K⟩
 refine nO (λz v w=>∃(i:Nat)(m:List (ByteArray×eA)),i<=s.bh.bA.length/\v=[.lbx (bu s),.ah (i:Int)]/\z=s.bh.bA.length-i/\(s.bh.bA.drop i).foldl (λm p=>eT p.name p m) m=pL s.bh.bA/\Hs bN aH w (blk nZ (.map (m.map yI))*R)) ?_ (n:=s.bh.bA.length) ⟨0,[],kD _,rfl,rfl,rfl,H⟩;rintro z v w ⟨i,m,hi,rfl,hz,hT,K⟩;by_cases h:i<s.bh.bA.length
 ·obtain⟨x,dB⟩:∃x,x=s.bh.bA[i]:=⟨_,rfl⟩
  have hx:s.bh.bA[i]? =δ x:=by rw[dB];exact bU h
  rw[Xo h,<-dB]at hT;obtain⟨w',u1,u2⟩:=ahr (ek:=.z) (eK:=λb:ByteArray=>AV.str b) (eV:=λp:eA=>Λ (dF p)) (l:=m) aeZ (x:=x.name) rfl x K;refine .inl ⟨s.bh.bA.length-(i+1),_,w',by omega,?_,i+1,eT x.name x m,h,rfl,rfl,hT,u2⟩;try unfold Ko
  simp only[bM,cg];rw[gZ hx,bS,cK,gy hx,bS,pQ,bS,show l7 0 3 (dF x)=δ (.agg (dF x))from rfl,bS,show ψ 3 (.agg (dF x))=δ (dF x)from rfl,bS,show Φ 0 (dF x) [dY,(ε 0),i6]=δ (dF x)from rfl,bS,tc,bS,show l7 0 3 (dF x)=δ (.agg (dF x))from rfl,bS,u1,bS,fK hx (by unfold aZ;omega),bS]
 ·have:i=s.bh.bA.length:=by omega
  subst this;rw[WU]at hT;simp only[aB4]at hT;rw[hT]at K;refine .inr ⟨(.exit 0,[.lbx (bu s),.ah (s.bh.bA.length:Int)],w),?_,by simp,w,rfl,K⟩;try unfold Ko
  simp only[bM,cg];rw[iu,bS,cD]
theorem aso(n:Int)(b:ByteArray):((((Θ (.ah n)).bind λv=>δ [v]).bind λCS=>(Φ 0 CS [(ε 0),dY]).bind λAr=>((Θ (.str b)).bind λv=>δ [v]).bind λCT=>(Φ 1 CT Ar).bind λqy=>δ qy).bind λcs=>δ (Λ cs))=δ (.agg (aV ⟨n,b⟩)):=rfl
theorem atZ{s:ct}{u:jk}{ps:List fO}(hl:ps.length<=1000000){id bE:Nat}{cs:an}(hc:cs[10]? =δ (.om bE))(m:List (aI×fO))(H:Hs bN aH σ (blk bE (.map (m.map jo))*(blk id (.box cs)*R))):∃W,p7 (Fa id (sl 7 gm ps) (ε (ps.length:Int))) [.lbx (bu s),.lbx (dr u),.ah 0] σ=δ (.exit 4,[.lbx (bu s),.lbx (dr u),.ah (ps.length:Int)],W)/\Hs bN aH W (blk bE (.map ((ps.foldl (λm x=>eT ⟨u.au,x.name⟩ x m) m).map jo))*(blk id (.box cs)*R)):=by
 suffices h:∃q,p7 (Fa id (sl 7 gm ps) (ε (ps.length:Int))) [.lbx (bu s),.lbx (dr u),.ah 0] σ=δ q/\∃W,q=(.exit 4,[.lbx (bu s),.lbx (dr u),.ah (ps.length:Int)],W)/\Hs bN aH W (blk bE (.map ((ps.foldl (λm x=>eT ⟨u.au,x.name⟩ x m) m).map jo))*(blk id (.box cs)*R)) by obtain⟨q,e,W,rfl,K⟩:=h;exact⟨W,e,K⟩
 obtain⟨fm,hfm⟩:∃fm,fm=ps.foldl (λm x=>eT (⟨u.au,x.name⟩:aI) x m) m:=⟨_,rfl⟩
 rw[<-hfm];refine nO (λz v w=>∃(i:Nat)(m:List (aI×fO)),i<=ps.length/\v=[.lbx (bu s),.lbx (dr u),.ah (i:Int)]/\z=ps.length-i/\(ps.drop i).foldl (λm x=>eT ⟨u.au,x.name⟩ x m) m=fm/\Hs bN aH w (blk bE (.map (m.map jo))*(blk id (.box cs)*R))) ?_ (n:=ps.length) ⟨0,m,kD _,rfl,rfl,hfm.symm,H⟩;rintro z v w ⟨i,m,hi,rfl,hz,hT,K⟩;by_cases h:i<ps.length
 ·obtain⟨x,dB⟩:∃x,x=ps[i]:=⟨_,rfl⟩
  have hx:ps[i]? =δ x:=by rw[dB];exact bU h
  rw[Xo h,<-dB]at hT;obtain⟨w',u1,u2⟩:=ahr (ek:=.s [0,2]) (eK:=λk:aI=>Λ (aV k)) (eV:=λp:fO=>Λ (gm p)) (l:=m) tI (x:=⟨u.au,x.name⟩) rfl x K;have hb:=(jj (dN (show _=blk id (.box cs)*(blk bE (.map (m.map jo))*R) by ac_rfl) K)).2;refine .inl ⟨ps.length-(i+1),_,w',by omega,?_,i+1,_,h,rfl,rfl,hT,u2⟩;try unfold Fa
  simp only[bM,cg];rw[gZ hx,bS,cK,gy hx,bS,pQ,bS,show l7 0 7 (gm x)=δ (.agg (gm x))from rfl,bS,show ψ 7 (.agg (gm x))=δ (gm x)from rfl,bS,show Φ 0 (gm x) [dY,(ε 0),(ε 0),(ε 0),(ε 0),aY,i6]=δ (gm x)from rfl,bS,show SD (.op id 0)=δ (.op id 0)from rfl,bS,show p5 10 (.op id 0)=δ (.op id 10)from by simp [p5],bS,show((χ (.op id 10) w).bind λAp=>φ 0 Ap)=δ (.om bE)from by simp only[χ,hb,aP,φ,YF,Nat.add_zero,hc];rfl,bS,iM,bS,bS,bS,show φ 0 (dr u)=δ (.ah u.au)from rfl,bS,OM,bS,aso,bS,show l7 0 7 (gm x)=δ (.agg (gm x))from rfl,bS,u1,bS,fK hx (by unfold aZ;omega),bS]
 ·have:i=ps.length:=by omega
  subst this;rw[WU]at hT;simp only[aB4]at hT;rw[hT]at K;refine .inr ⟨(.exit 4,[.lbx (bu s),.lbx (dr u),.ah (ps.length:Int)],w),?_,by simp,w,rfl,K⟩;try unfold Fa
  simp only[bM,cg];rw[iu,bS,cD]
theorem aer{f:an->Heap->Option LS}{v:an}{σ:Heap}{r:LS}(h:f v σ=δ r)(hr:r.1≠.normal):p7 f v σ=δ r:=by obtain⟨n,hn⟩:=vB h hr;exact Dr hn
theorem avz{qK uo yf zn β:Type}{X:Option qK}{f:qK->Option uo}{g:qK->uo->Option yf}{h:qK->uo->yf->Option zn}{v:zn}{k:qK->uo->yf->zn->Option β}{k':zn->Option β}{r:Option β}(e:(X.bind λx=>(f x).bind λy=>(g x y).bind λz=>h x y z)=δ v) (hk:k' v=r) (hkk:k=λ_ _ _=>k':=by rfl):(X.bind λx=>(f x).bind λy=>(g x y).bind λz=>(h x y z).bind (k x y z))=r:=by subst hkk;obtain⟨x,hx,e⟩:=bX.1 e;obtain⟨y,hy,e⟩:=bX.1 e;obtain⟨z,hz,e⟩:=bX.1 e;rw[hx,aP,hy,aP,hz,aP,e,aP];exact hk
theorem avf{s:ct}(hb:IV s){id bE nZ:Nat}{cs:an}(hc:cs[10]? =δ (.om bE))(H:Hs bN aH σ (blk bE (.map (([]:List (aI×fO)).map jo))*(blk id (.box cs)*(blk nZ (.map ((pL s.bh.bA).map yI))*R)))):∃W,p7 (Kp id nZ (sl 4 dr s.bh.dK) (ε (s.bh.dK.length:Int))) [.lbx (bu s),.ah 0] σ=δ (.exit 2,[.lbx (bu s),.ah (s.bh.dK.length:Int)],W)/\Hs bN aH W (blk bE (.map ((Cz s.bh).map jo))*(blk id (.box cs)*(blk nZ (.map ((pL s.bh.bA).map yI))*R))):=by
 suffices h:∃q,p7 (Kp id nZ (sl 4 dr s.bh.dK) (ε (s.bh.dK.length:Int))) [.lbx (bu s),.ah 0] σ=δ q/\∃W,q=(.exit 2,[.lbx (bu s),.ah (s.bh.dK.length:Int)],W)/\Hs bN aH W (blk bE (.map ((Cz s.bh).map jo))*(blk id (.box cs)*(blk nZ (.map ((pL s.bh.bA).map yI))*R))) by obtain⟨q,e,W,rfl,K⟩:=h;exact⟨W,e,K⟩
 have hun:=hb.un;refine nO (λz v w=>∃(i:Nat)(m:List (aI×fO)),i<=s.bh.dK.length/\v=[.lbx (bu s),.ah (i:Int)]/\z=s.bh.dK.length-i/\(s.bh.dK.drop i).foldl (WH (pL s.bh.bA)) m=Cz s.bh/\Hs bN aH w (blk bE (.map (m.map jo))*(blk id (.box cs)*(blk nZ (.map ((pL s.bh.bA).map yI))*R)))) ?_ (n:=s.bh.dK.length) ⟨0,[],kD _,rfl,rfl,rfl,H⟩;rintro z v w ⟨i,m,hi,rfl,hz,hT,K⟩;by_cases h:i<s.bh.dK.length
 ·obtain⟨x,dB⟩:∃x,x=s.bh.dK[i]:=⟨_,rfl⟩
  have hx:s.bh.dK[i]? =δ x:=by rw[dB];exact bU h
  rw[Xo h,<-dB]at hT
  have hpl:(IZ (pL s.bh.bA) x).length<=1000000:=by
   unfold IZ;cases hf:dO x.jX (pL s.bh.bA)with
   |none=>simp
   |some p=>exact aeo (P:=λp=>p.params.length<=1000000) (λp hp=>(hb.par p hp).1) _ (I2 hf)
  obtain⟨w',l1,l2⟩:=atZ (s:=s) (u:=x) hpl hc m K
  have hlk:((WK .z (Vq nZ) (.str x.jX) (Λ [dY,(ε 0),i6]) w).bind λkX=>((ψ 3 kX).bind λnE=>φ 2 nE).bind λiq=>(UT iq).bind λgP=>(p7 (Fa id iq gP) [.lbx (bu s),.lbx (dr x),.ah 0] w))=δ (.exit 4,[.lbx (bu s),.lbx (dr x),.ah ((IZ (pL s.bh.bA) x).length:Int)],w'):=by
   rw[aus (ek:=.z) (eK:=λb:ByteArray=>AV.str b) (eV:=λp:eA=>Λ (dF p)) (l:=pL s.bh.bA) aeZ (x:=x.jX) rfl _ (dN (show _=blk nZ (.map ((pL s.bh.bA).map yI))*(blk bE (.map (m.map jo))*(blk id (.box cs)*R)) by ac_rfl) K),bS];unfold IZ at l1 ⊢;cases hf:dO x.jX (pL s.bh.bA)with
   |none=>
    rw[hf]at l1;simp only[SX,Va];rw[show((ψ 3 (Λ [dY,(ε 0),i6])).bind λnE=>φ 2 nE)=δ .aA from rfl,bS,show UT .aA=δ (.ah 0)from rfl,bS]
    have hw:w'=w:=by
     have e0:p7 (Fa id (sl 7 gm ([]:List fO)) (ε ((([]:List fO).length:Nat):Int))) [.lbx (bu s),.lbx (dr x),.ah 0] w=δ (.exit 4,[.lbx (bu s),.lbx (dr x),.ah 0],w):=
      aer rfl (by simp)
     have l1:=e0.symm.trans l1;injection l1 with l1
     exact(congrArg (λz:LS=>z.2.2) l1).symm
    rw[hw];exact aer rfl (by simp)
   |some p=>rw[hf]at l1;simp only[cq,SG];rw[show((ψ 3 (Λ (dF p))).bind λnE=>φ 2 nE)=δ (sl 7 gm p.params)from rfl,bS,fJ,bS];exact l1
  refine .inl ⟨s.bh.dK.length-(i+1),_,w',by omega,?_,i+1,_,h,rfl,rfl,hT,l2⟩;try unfold Kp
  simp only[bM,cg];rw[gZ hx,bS,cK,gy hx,bS,pQ,bS,show l7 0 4 (dr x)=δ (.agg (dr x))from rfl,bS,show ψ 4 (.agg (dr x))=δ (dr x)from rfl,bS,show Φ 0 (dr x) [(ε 0),dY,(ε 0),(ε 0)]=δ (dr x)from rfl,bS,show φ 1 (dr x)=δ (.str x.jX)from rfl,bS];refine avz hlk ?_;simp only[mB,bM,cg];rw[fK hx (by unfold aZ;omega),bS]
 ·have:i=s.bh.dK.length:=by omega
  subst this;rw[WU]at hT;simp only[aB4]at hT;rw[hT]at K;refine .inr ⟨(.exit 2,[.lbx (bu s),.ah (s.bh.dK.length:Int)],w),?_,by simp,w,rfl,K⟩;try unfold Kp
  simp only[bM,cg];rw[iu,bS,cD]
end
end
section
open HP
section
variable {aH σ : Heap} {R : HP}
theorem asn(s:ct)(p:iC):((((Θ (.ah p.au)).bind λv=>δ [v]).bind λuF=>(Φ 3 uF [(ε 0),(ε 0),aY,(ε 0),(ε 0),i6,(ε 0),(ε 0),(ε 0),AV.nm]).bind λFY=>((Θ (.ah p.jT)).bind λv=>δ [v]).bind λLW=>(Φ 4 LW FY).bind λWZ=>((Θ (sl 11 bn (pH s.bZ p.list).1.bg)).bind λv=>δ [v]).bind λLX=>(Φ 5 LX WZ).bind λFZ=>((Θ (ε (-1))).bind λv=>δ [v]).bind λBe=>(Φ 6 Be FZ).bind λCo=>((Θ (ε 65535)).bind λv=>δ [v]).bind λW7=>(Φ 7 W7 Co).bind λW8=>((Θ (ε (-1))).bind λv=>δ [v]).bind λW9=>(Φ 8 W9 W8).bind λaBm=>δ aBm).bind λcs=>δ (Λ cs))=δ (.agg (aQ (mz s p))):=rfl
theorem asT(b:bk):(((ψ 10 (.agg (aQ b))).bind λLY=>(Φ 0 LY [(ε 0),(ε 0),aY,(ε 0),(ε 0),i6,(ε 0),(ε 0),(ε 0),AV.nm]).bind λXb=>δ Xb).bind λcs=>δ (SQ 10 (gd 10 1 cs)))=δ (.sl 10 [aQ b]):=rfl
theorem aAU(a:cW):Φ 0 (bz a) [(ε 0),(ε 0),(ε 0),(ε 0),(ε 0)]=δ (bz a):=rfl
theorem avg{s:ct}(hs:Cc s){id bE:Nat}(H:Hs bN aH σ (blk id (.box (iE .aA bE .aA (jq s)))*R)):∃vb W,p7 (HN id (sl 3 cr s.aS) (ε (s.aS.length:Int))) [.lbx (bu s),.ah 0] σ=δ (.exit 6,[.lbx (bu s),.ah (s.aS.length:Int)],W)/\Hs bN aH W (blk id (.box (iE vb bE .aA (jq s)))*(Sl (fl aQ) 10 vb (s.aS.map (mz s))*R)):=by
 suffices h:∃q,p7 (HN id (sl 3 cr s.aS) (ε (s.aS.length:Int))) [.lbx (bu s),.ah 0] σ=δ q/\∃vb W,q=(.exit 6,[.lbx (bu s),.ah (s.aS.length:Int)],W)/\Hs bN aH W (blk id (.box (iE vb bE .aA (jq s)))*(Sl (fl aQ) 10 vb (s.aS.map (mz s))*R)) by obtain⟨q,e,vb,W,rfl,K⟩:=h;exact⟨vb,W,e,K⟩
 have hpl:=hs.pl;have wz:s.bZ.length<=aZ:=by have:=hs.RM;unfold aZ;omega
 refine nO (λz v w=>∃(i:Nat)(vb:AV),i<=s.aS.length/\v=[.lbx (bu s),.ah (i:Int)]/\z=s.aS.length-i/\Hs bN aH w (blk id (.box (iE vb bE .aA (jq s)))*(Sl (fl aQ) 10 vb ((s.aS.take i).map (mz s))*R))) ?_ (n:=s.aS.length) ⟨0,.aA,kD _,rfl,rfl,dN (by ac_rfl) (vk (v:=.aA) (E:=fl aQ) (sz:=10) H (.inl rfl))⟩;rintro z v w ⟨i,vb,hi,rfl,hz,K⟩;by_cases h:i<s.aS.length
 ·obtain⟨x,dB⟩:∃x,x=s.aS[i]:=⟨_,rfl⟩
  have hx:s.aS[i]? =δ x:=by rw[dB];exact bU h
  have hb:=(jj K).2
  have step:∃wE w',(HN id (sl 3 cr s.aS) (ε (s.aS.length:Int))) [.lbx (bu s),.ah (i:Int)] w=δ (.normal,[.lbx (bu s),.ah ((i+1:Nat):Int)],w')/\Hs bN aH w' (blk id (.box (iE wE bE .aA (jq s)))*(Sl (fl aQ) 10 wE ((s.aS.take i).map (mz s)++[mz s x])*R)):=by
   have K1:=dN (show _=Sl (fl aQ) 10 vb ((s.aS.take i).map (mz s))*(blk id (.box (iE vb bE .aA (jq s)))*R) by ac_rfl) K;have cvb:=Cd K1;try unfold HN
   simp only[bM,cg];rw[gZ hx,bS,cK,gy hx,bS,pQ,bS,show l7 0 3 (cr x)=δ (.agg (cr x))from rfl,bS,show ψ 3 (.agg (cr x))=δ (cr x)from rfl,bS,show Φ 0 (cr x) [(ε 0),(ε 0),(ε 0)]=δ (cr x)from rfl,bS,iM,bS,show l7 0 5 (bu s)=δ (.agg (bu s))from rfl,bS,show φ 1 (cr x)=δ (.ah x.list)from rfl,bS,abK (agk s wz x.list),bS];simp only;rw[jZ,bS,ext1,bS,show ψ 2 (.agg (eZ (pH s.bZ x.list).1))=δ (eZ (pH s.bZ x.list).1)from rfl,bS,show Φ 0 (eZ (pH s.bZ x.list).1) [(ε 0),i6]=δ (eZ (pH s.bZ x.list).1)from rfl,bS];simp only[show SD (.op id 0)=δ (.op id 0)from rfl,bS,show p5 0 (.op id 0)=δ (.op id 0)from rfl];rw[show((χ (.op id 0) w).bind λxw=>φ 0 xw)=δ vb from by simp only[χ,hb];exact cvb,bS,show φ 0 (cr x)=δ (.ah x.au)from rfl,bS,show φ 2 (cr x)=δ (.ah x.jT)from rfl,bS,ar3,bS,asn,bS,asT,bS];obtain⟨wE,w2,f1,f2⟩:=PO (most:=140737488355328 / 96) (E:=fl aQ) (l:=(s.aS.take i).map (mz s)) (v:=vb) (e:=aQ (mz s x)) (x:=mz s x) (R:=blk id (.box (iE vb bE .aA (jq s)))*R) (by rw[Z7,oH];omega) (dN (by rw[show fl aQ (aQ (mz s x)) (mz s x)=pr (aQ (mz s x)=aQ (mz s x))from rfl];ac_rfl) (oB.2 ⟨(rfl:aQ (mz s x)=aQ (mz s x)),K1⟩));rw[f1,bS];simp only;have f3:=dN (show _=blk id (.box (iE vb bE .aA (jq s)))*(Sl (fl aQ) 10 wE ((s.aS.take i).map (mz s)++[mz s x])*R) by ac_rfl) f2;have xI:=(jj f3).2;have f4:=B4 (b':=.box (iE wE bE .aA (jq s))) f3 trivial;rw[show((Θ wE).bind λv=>δ [v])=δ [wE]from by rw[Cd f2];rfl,bS,show l8 (.op id 0) [wE] w2=δ (w2.set id (.box (iE wE bE .aA (jq s))))from by simp only[l8,xI];rfl,bS,fK hx (by unfold aZ;omega),bS];exact⟨wE,_,rfl,f4⟩
  obtain⟨wE,w',s1,s2⟩:=step;refine .inl ⟨s.aS.length-(i+1),_,_,by omega,s1,i+1,wE,h,rfl,rfl,?_⟩;rw[S2,hx,Zh,V8,eo,Wf];exact s2
 ·have:i=s.aS.length:=by omega
  subst this;rw[Uo]at K;refine .inr ⟨(.exit 6,[.lbx (bu s),.ah (s.aS.length:Int)],w),?_,by simp,vb,w,rfl,K⟩;try unfold HN
  simp only[bM,cg];rw[iu,bS,cD]
theorem atd{eX:List Sh}{r:AV->Heap->aC}{x v:AV}{σ σ':Heap}(ho:A.own x=ι)(e1:UZ eX [x]=[x])(e:r x σ=δ (v,σ')):Ω η eX .k (ZY r) [x] σ=δ (v,σ'):=by have e2:ZY r [x] σ=δ (v,σ'):=e;simp only[Ω,List.any_cons,ho,List.any_nil,Bool.or_self,Tb,bK,e1,e2,cq,iI]
theorem agK{s:ct}(hs:rQ s)(h:wV s=0)(H:Hs bN aH σ R):∃id σ',Ib [.agg (bu s)] σ=δ (.aM [.op id 0,.ah 0],σ')/\Hs bN aH σ' (iU (.op id 0) (jq s)*R):=by
 suffices hh:∃id σ',O2 (.agg (bu s)) σ=δ (.aM [.op id 0,.ah 0],σ')/\Hs bN aH σ' (iU (.op id 0) (jq s)*R) by obtain⟨id,σ',e,K⟩:=hh;exact⟨id,σ',atd rfl (jD (uH rfl) rfl) e,K⟩
 have hO:=LH hs h;have hB:=hO.bd;unfold O2;rw[show ψ 5 (.agg (bu s))=δ (bu s)from rfl,bS,show l7 0 5 (bu s)=δ (.agg (bu s))from rfl,bS,aaA (abe s hs),bS];simp only;rw[fN,bS,cm (λq=>q h),cD,bS,apy hB,bS];simp only;rw[show ψ 5 (.agg (bu s))=δ (bu s)from rfl,bS,show Φ 0 (bu s) (bu s)=δ (bu s)from rfl,bS,show l7 0 5 (bu s)=δ (.agg (bu s))from rfl,bS];obtain⟨bE,ahF⟩:∃bE,bE=σ.length:=⟨_,rfl⟩
 obtain⟨id,hid⟩:∃id,id=(σ++[YE []]).length:=⟨_,rfl⟩
 rw[<-ahF,<-hid];rw[show(((ψ 5 (.agg (bu s))).bind λfM=>(Φ 4 fM [i6,(ε 0),(ε 0),aY,i6,i6,i6,i6,i6,i6,AV.nm,i6]).bind λgn=>((Θ (Vq bE)).bind λv=>δ [v]).bind λfq=>(Φ 10 fq gn).bind λjr=>δ jr).bind λcs=>δ (Λ cs))=δ (.agg [i6,(ε 0),(ε 0),aY,sl 3 dF s.bh.bA,sl 4 dr s.bh.dK,sl 3 fk s.cG,sl 2 eZ s.bZ,sl 3 cr s.aS,i6,.om bE,i6])from rfl,bS];rw[show ψ 12 (.agg [i6,(ε 0),(ε 0),aY,sl 3 dF s.bh.bA,sl 4 dr s.bh.dK,sl 3 fk s.cG,sl 2 eZ s.bZ,sl 3 cr s.aS,i6,.om bE,i6])=δ [i6,(ε 0),(ε 0),aY,sl 3 dF s.bh.bA,sl 4 dr s.bh.dK,sl 3 fk s.cG,sl 2 eZ s.bZ,sl 3 cr s.aS,i6,.om bE,i6]from rfl,bS];have K0:=FG (b:=YE (([]:List (aI×fO)).map jo)) H trivial;rw[<-ahF]at K0;have K1:=FG (b:=Sd [i6,(ε 0),(ε 0),aY,sl 3 dF s.bh.bA,sl 4 dr s.bh.dK,sl 3 fk s.cG,sl 2 eZ s.bZ,sl 3 cr s.aS,i6,.om bE,i6]) K0 trivial;rw[show(σ++[YE (([]:List (aI×fO)).map jo)]).length=id from hid.symm]at K1;have Bv:=(jj K1).2;have K2:=B4 (b':=.box [i6,(ε 0),(ε 65535),aY,sl 3 dF s.bh.bA,sl 4 dr s.bh.dK,sl 3 fk s.cG,sl 2 eZ s.bZ,sl 3 cr s.aS,i6,.om bE,i6]) K1 trivial;rw[Wf]at Bv K2;simp only[show SD (.op id 0)=δ (.op id 0)from rfl,bS,show p5 0 (.op id 0)=δ (.op id 0)from rfl,show p5 2 (.op id 0)=δ (.op id 2)from by simp [p5],qX];rw[show l8 (.op id 2) [.ah 65535] ((σ++[YE []])++[Sd [i6,(ε 0),(ε 0),aY,sl 3 dF s.bh.bA,sl 4 dr s.bh.dK,sl 3 fk s.cG,sl 2 eZ s.bZ,sl 3 cr s.aS,i6,.om bE,i6]])=δ (((σ++[YE []])++[Sd [i6,(ε 0),(ε 0),aY,sl 3 dF s.bh.bA,sl 4 dr s.bh.dK,sl 3 fk s.cG,sl 2 eZ s.bZ,sl 3 cr s.aS,i6,.om bE,i6]]).set id (.box [i6,(ε 0),(ε 65535),aY,sl 3 dF s.bh.bA,sl 4 dr s.bh.dK,sl 3 fk s.cG,sl 2 eZ s.bZ,sl 3 cr s.aS,i6,.om bE,i6]))from by simp only[l8,Bv];rfl,bS];generalize (((σ++[YE []])++[Sd [i6,(ε 0),(ε 0),aY,sl 3 dF s.bh.bA,sl 4 dr s.bh.dK,sl 3 fk s.cG,sl 2 eZ s.bZ,sl 3 cr s.aS,i6,.om bE,i6]]).set id (.box [i6,(ε 0),(ε 65535),aY,sl 3 dF s.bh.bA,sl 4 dr s.bh.dK,sl 3 fk s.cG,sl 2 eZ s.bZ,sl 3 cr s.aS,i6,.om bE,i6]))=W2 at K2 ⊢;rw[show l7 0 2 (bu s)=δ (.agg (lq s.bh))from rfl,bS,VE s.bh hs.1,bS,aO hO.bh];simp only;rw[jZ,bS,ext1,bS];have xI:=(jj K2).2;have K3:=B4 (b':=.box (iE .aA bE .aA (jq s))) K2 trivial;simp only[show p5 9 (.op id 0)=δ (.op id 9)from by simp [p5],bS];rw[show((Θ (sl 2 aV (pZ s.bh))).bind λv=>δ [v])=δ [sl 2 aV (pZ s.bh)]from rfl,bS,show l8 (.op id 9) [sl 2 aV (pZ s.bh)] W2=δ (W2.set id (.box (iE .aA bE .aA (jq s))))from by simp only[l8,xI];rfl,bS];generalize W2.set id (.box (iE .aA bE .aA (jq s)))=W3 at K3 ⊢;rw[abT,bS,fJ,bS];obtain⟨nZ,awS⟩:∃nZ,nZ=W3.length:=⟨_,rfl⟩
 have K4:=FG (b:=YE (([]:List (ByteArray×eA)).map yI)) K3 trivial;rw[<-awS]at K4 ⊢;rw[Wf]at K4;obtain⟨W4,l1,K5⟩:=ave (s:=s) hB.jd K4;refine F7 l1 ?_;simp only[mB,bM,cg,iM,bS];rw[show φ (0+1) (bu s)=δ (sl 4 dr s.bh.dK)from rfl,bS,fJ,bS];obtain⟨W5,l2,K6⟩:=avf (s:=s) hB (id:=id) (bE:=bE) (nZ:=nZ) (cs:=iE .aA bE .aA (jq s)) (R:=R) rfl (dN (by ac_rfl) K5);refine F7 l2 ?_;simp only[mB,bM,cg,iM,bS];rw[show φ 4 (bu s)=δ (sl 3 cr s.aS)from rfl,bS,fJ,bS];obtain⟨vb,W6,l3,K7⟩:=avg (s:=s) hO (id:=id) (bE:=bE) (R:=blk bE (.map ((Cz s.bh).map jo))*(blk nZ (.map ((pL s.bh.bA).map yI))*R)) (dN (by ac_rfl) K6);refine F7 l3 ?_;simp only[mB];refine⟨id,W6,rfl,Pq (vb:=vb) (bE:=bE) (va:=.aA) rfl ?_⟩;have K8:=wQ (dN (show _=blk nZ (.map ((pL s.bh.bA).map yI))*(blk id (.box (iE vb bE .aA (jq s)))*(Sl (fl aQ) 10 vb (s.aS.map (mz s))*(blk bE (.map ((Cz s.bh).map jo))*R))) by ac_rfl) K7);have K9:=vk (v:=.aA) (E:=fl bz) (sz:=5) K8 (.inl rfl);exact dN (show _=nQ id vb bE .aA (jq s)*R by unfold nQ;show _=blk id (.box (iE vb bE .aA (jq s)))*(Sl (fl aQ) 10 vb (s.aS.map (mz s))*(blk bE (.map ((Cz s.bh).map jo))*Sl (fl bz) 5 .aA []))*R;ac_rfl) K9
def vI:bB->List cW->bB->Prop
 |d,[],e=>d=e
 |d,a::r,e=>(lB d a).2=0/\vI (lB d a).1 r e
def Bo (d:bB) (l:List cW):bB:=l.foldl (λd a=>(lB d a).1) d
theorem afB{d:bB}(h:mI d)(l:List cW):mI (Bo d l):=by
 unfold Bo;induction l generalizing d with
 |nil=>exact h
 |cons a l ih=>rw[List.foldl_cons];exact ih (Ll h a)
theorem as0(l:List cW){aH w:Heap}{R:HP}(_:Hs bN aH w (emp*R)){i:Nat}{x:cW}(hx:l[i]? =δ x):∃p,UM 5 (sl 5 bz l) (.ah (i:Int))=δ p/\χ p w=δ (bz x):=⟨_,gy hx,pQ _ _⟩
end
end
section
open HP
section
variable {aH σ : Heap} {R R2 : HP}
end
theorem auM(b:Bool){aH σ:Heap}{R:HP}(H:Hs bN aH σ R):l6 aH (.bool b) σ=δ (.bool b,aH):=FD H (by simp [Wr]) (λ_=>rfl)
end
section
open HP
def yM:bB->Int->List cW->bB×Int×Int
 |d,_,[]=>(d,0,0)
 |d,i,a::r=>if(lB d a).2=0 then yM (lB d a).1 (i+1) r else(d,i,(lB d a).2)
section
variable {aH σ : Heap} {R : HP}
theorem amT{Q:HP}{va:AV}{s:ct}{l:List cW}(hQ:∀{aH w:Heap} {R:HP},Hs bN aH w (Q*R)->∀{i:Nat} {x:cW},l[i]? =δ x->∃p,UM 5 va (.ah (i:Int))=δ p/\χ p w=δ (bz x))(azH:UT va=δ (.ah (l.length:Int)))(hs:rQ s)(h0:wV s=0)(hl:l.length<=aZ)(H:Hs bN aH σ (Q*R)):
  ((yM (jq s) 0 l).2.2=0->∃id σ',Kq [.agg (bu s),va] σ=δ (.aM [.op id 0,.ah 0,.ah 0],σ')/\mI (yM (jq s) 0 l).1/\Hs bN aH σ' (iU (.op id 0) (yM (jq s) 0 l).1*(Q*R)))/\
  (¬(yM (jq s) 0 l).2.2=0->∃σ',Kq [.agg (bu s),va] σ=δ (.aM [.np,.ah (yM (jq s) 0 l).2.1,.ah (yM (jq s) 0 l).2.2],σ')/\Hs bN aH σ' (Q*R)):=by
 obtain⟨f,hf⟩:∃f,f=yM (jq s) 0 l:=⟨_,rfl⟩
 rw[<-hf];obtain⟨id,W,n1,K⟩:=agK hs h0 H
 have hL:∃q,p7 (HG va (S7 id 0) (ε (l.length:Int))) [Wp,.ah 0,.ah 0,.ah 0] W=δ q/\∃u W',(f.2.2=0/\q=(.exit 0,u,W')/\mI f.1/\Hs bN aH W' (Q*(iU (.op id 0) f.1*R)))\/(¬f.2.2=0/\∃u3,q=(.ret,[Wp,.ah f.2.1,.ah f.2.2,u3],W')/\Hs bN aH W' (Q*R)):=by
  refine nO (λz v w=>∃(i:Nat)(d:bB),i<=l.length/\v=[Wp,.ah 0,.ah 0,.ah (i:Int)]/\z=l.length-i/\yM d (i:Int) (l.drop i)=f/\mI d/\Hs bN aH w (Q*(iU (.op id 0) d*R))) ?_ (n:=l.length) ⟨0,jq s,kD _,rfl,rfl,hf.symm,KV (LH hs h0),dN (by ac_rfl) K⟩;rintro z v w ⟨i,d,hi,rfl,hz,hT,JC,K⟩;by_cases h:i<l.length
  ·obtain⟨x,dB⟩:∃x,x=l[i]:=⟨_,rfl⟩
   have hx:l[i]? =δ x:=by rw[dB];exact bU h
   rw[Xo h,<-dB]at hT;obtain⟨p,p1,p2⟩:=hQ K hx;obtain⟨w',d1,d2⟩:=ahs JC x (R:=Q*R) (dN (by ac_rfl) K);unfold yM at hT;by_cases he:(lB d x).2=0
   ·rw[aO he]at hT;rw[he]at d1;refine .inl ⟨l.length-(i+1),_,w',by omega,?_,i+1,(lB d x).1,h,rfl,rfl,hT,Ll JC x,dN (by ac_rfl) d2⟩;try unfold HG
    simp only[bM,cg];rw[gZ hx,bS,cK,p1,bS,p2,bS,Fg,bS,show ψ 5 (.agg (bz x))=δ (bz x)from rfl,bS,aAU,bS,Fg,bS,d1,bS];simp only;rw[fN,bS,cm (λq=>q rfl),cD,fK hx hl,bS]
   ·rw[aL he]at hT;have rI:f.2.2=(lB d x).2:=by rw[<-hT]
    have EG:f.2.1=(i:Int):=by rw[<-hT]
    refine .inr ⟨(.ret,[Wp,.ah f.2.1,.ah f.2.2,.ah (i:Int)],w'),?_,by simp,[],w',.inr ⟨by rw[rI];exact he,_,rfl,wQ d2⟩⟩;try unfold HG
    simp only[bM,cg];rw[gZ hx,bS,cK,p1,bS,p2,bS,Fg,bS,show ψ 5 (.agg (bz x))=δ (bz x)from rfl,bS,aAU,bS,Fg,bS,d1,bS];simp only;rw[fN,bS,cB he,cK,EG,rI]
  ·have:i=l.length:=by omega
   subst this;rw[WU]at hT;have hT:(d,0,0)=f:=hT;refine .inr ⟨(.exit 0,[Wp,.ah 0,.ah 0,.ah (l.length:Int)],w),?_,by simp,[Wp,.ah 0,.ah 0,.ah (l.length:Int)],w,.inl ⟨by rw[<-hT],rfl,by rw[<-hT];exact JC,by rw[<-hT];exact K⟩⟩;try unfold HG
   simp only[bM,cg];rw[iu,bS,cD]
 obtain⟨q,l1,u,W',hq⟩:=hL
 have head:∀r,(p7 (HG va (S7 id 0) (ε (l.length:Int))) [Wp,.ah 0,.ah 0,.ah 0] W).bind (λkW=>bif kW.1==Ψ 0 then(δ ((XF [S7 id 0,(ε 0),(ε 0)]),kW.2.2))else bif kW.1==n9 then(δ ((XF [(aj kW.2.1 0),(aj kW.2.1 1),(aj kW.2.1 2)]),kW.2.2))else ξ)=r->Kq [.agg (bu s),va] σ=r.map λq=>(Wo .k q.1,q.2):=by
  intro r hr
  have e:HO (.agg (bu s)) va σ=r:=by unfold HO;rw[show ψ 5 (.agg (bu s))=δ (bu s)from rfl,bS,show l7 0 5 (bu s)=δ (.agg (bu s))from rfl,bS,n1,bS];simp only;rw[jZ,bS,ext1,bS,fN,bS,cm (λq=>q rfl),cD,azH,bS];exact hr
  have:YS HO [.agg (bu s),va] σ=r:=e;show Ω ι [] .k (YS HO) [.agg (bu s),va] σ=_;simp only[Ω,Uu,bK,UZ,this]
 rw[l1]at head;refine⟨λh=>?_,λh=>?_⟩
 ·rcases hq with⟨_,rfl,hKf,K'⟩|⟨h2,_⟩
  ·refine⟨id,W',?_,hKf,dN (by ac_rfl) K'⟩;rw[head _ rfl,bS];simp only[mB,cq,iI]
  ·exact absurd h h2
 ·rcases hq with⟨h2,_⟩|⟨_,u3,rfl,K'⟩
  ·exact absurd h2 h
  ·refine⟨W',?_,K'⟩;rw[head _ rfl,bS];simp only[show(n9==Ψ 0)=ι from rfl,bK,show(n9==n9)=η from rfl,cA,cq,iI,bM,cg]
end
end
section
open HP
theorem alV(b:bk)(p:Int)(σ:Heap):Hq [.agg (aQ b),.rp [.ah p]] σ=δ (.bool (decide (b.au=p)),σ):=by
 refine Fv (z:=.aA) (by unfold aQ;cases b.runs<;>rfl) (jD (uH (by unfold aQ;cases b.runs<;>rfl)) rfl) (iI _) ?_;unfold aag;rw[O7,bS,abR,bS]
 first
  |rw[pQ,bS,show φ 0 [Z6 θ p]=δ (.int θ p)from rfl,bS,gK,bS]
  |rw[show((χ (.rp [Z6 θ p]) σ).bind λc=>φ 0 c)=δ (.int θ p)from rfl,bS,gK,bS]
 exact bL _ _
def DW:bk:=⟨⟨0,0,ι⟩,0,0,[],0,0,0,ξ⟩
def Gd(pb:Int):bk->Bool:=λb=>decide (b.au=pb)
def mu (d:bB) (pb t:Int):bk×Int:=
 if ¬(rX d.bP t=0)then(DW,rX d.bP t)else if jM (Gd pb) d.state.aD<0 then(DW,8)else((jB d d.state t).aD.getD (jM (Gd pb) d.state.aD).toNat DW,0)
theorem ae0{v:AV}(h:Fz v)(σ ex:Heap):l6 σ v (σ++ex)=δ (v,σ):=by
 unfold l6;split
 ·rfl
 ·rw[aO (by simp),h,cq]
abbrev ru:an:=[(ε 0),(ε 0),aY,(ε 0),(ε 0),i6,(ε 0),(ε 0),(ε 0),AV.nm]
abbrev LI:List Sh:=[.k,.k,.k,.k,.k,(.e 11 qv),.k,.k,.k,.k]
theorem at2(b:bk)(e:Int):Wo (.t [(.a LI),.k]) (.aM [.agg (aQ b),.ah e])=.aM [.agg (aQ b),.ah e]:=by
 have h:Wo (.e 11 qv) (sl 11 bn b.bg)=sl 11 bn b.bg:=by unfold sl;simp only[Wo,Zc];congr 1
 have e1:UZ LI (aQ b)=aQ b:=by unfold aQ;simp only[UZ,iI,h]
 have e2:Wo (.a LI) (.agg (aQ b))=.agg (aQ b):=congrArg Λ e1;show XF [Wo (.a LI) (.agg (aQ b)),.ah e]=_;rw[e2]
section
variable {aH σ : Heap} {R : HP} {pd : AV} {d : bB}
abbrev afV : Nat -> an -> Heap -> aC := ZG (fun _ _ => ξ) [(358, Hq)]
theorem ash{vb:AV}{l:List bk}(hl:l.length<=aZ)(pb:Int)(H:Hs bN aH σ (Sl (fl aQ) 10 vb l*R)):Di afV [vb,.fn 358 [.rp [.ah pb]]] σ=δ (.ah (jM (Gd pb) l),σ):=
 Bk (dR:=[vb,.fn 358 [.rp [.ah pb]]]) (ts:=[sl 10 aQ l,.fn 358 [.rp [.ah pb]]]) ⟨atV BN H,D4 (aA8 (bO (LD (bO (cN _ _) lg)) lg)) rfl,trivial⟩ (λσ=>adr afV l hl _ _ _ σ (λb _=>alV b pb σ)) rfl
theorem ari(hK:mI d)(t pb:Int)(H:Hs bN aH σ (iU pd d*R)):Oe [pd,.ah pb,.ah t] σ=δ (.aM [.agg (aQ (mu d pb t).1),.ah (mu d pb t).2],σ):=by
 suffices h:∃v,Wo (.t [(.a LI),.k]) v=.aM [.agg (aQ (mu d pb t).1),.ah (mu d pb t).2]/\Oh pd (.ah pb) (.ah t) σ=δ (v,σ) by obtain⟨v,h1,h2⟩:=h;exact Lw h1 h2
 obtain⟨id,vb,bE,va,rfl,hp,H⟩:=apC H;have JF:d.bP.length<=aZ:=by have:=hK.len;unfold aZ;omega
 have kQ:=afU H;have JM:=dN (show _=Sl (fl aQ) 10 vb d.state.aD*(blk id (.box (iE vb bE va d))*(blk bE (.map ((d.params.getD []).map jo))*Sl (fl bz) 5 va d.bP)*R) by unfold nQ;ac_rfl) H;have Y3:d.state.aD.length<=aZ:=by have:=hK.si.len;unfold aZ;omega
 unfold Oh mu;rw[show(((Θ (ε pb)).bind λv=>δ [v]).bind λcs=>δ (Sf cs))=δ (.rp [.ah pb])from rfl,bS,show SD (.op id 0)=δ (.op id 0)from rfl,bS,show p5 0 (.op id 0)=δ (.op id 0)from by simp [p5],bS,show p5 0 (.op id 0)=δ (.op id 0)from by simp [p5],bS,show((χ (.op id 0) σ).bind λc=>φ 0 c)=δ vb from by simp only[χ,kQ];exact FB JM,bS,ash Y3 pb JM,bS];simp only;rw[aum hp JF H,bS];simp only;rw[lp,bS,oZ,bS];simp only;rw[ah8,bS,wO _ (by show 2<=aZ;decide),bS];simp only;obtain⟨ix,GN⟩:∃ix,ix=jM (Gd pb) d.state.aD:=⟨_,rfl⟩
 rw[<-GN];by_cases h0:rX d.bP t=0
 case neg=>
  rw[aO h0];rw[show(([rX d.bP t,if(decide (ix<0))=η then 8 else 0]:List Int).find? λn=>decide (¬n=0)).getD 0=rX d.bP t from by simp [S4,h0],fN,bS,cB h0,cK];simp only[show ψ 10 (.agg ru)=δ ru from rfl,show Φ 0 ru ru=δ ru from rfl,show l7 0 10 ru=δ (.agg ru)from rfl,bS];exact⟨_,rfl,bL _ _⟩
 rw[aL (λq=>q h0),h0];by_cases h1:ix<0
 ·rw[aO h1,cB h1,show(([0,if η=η then 8 else 0]:List Int).find? λn=>decide (¬n=0)).getD 0=8 from rfl,fN,bS,cB (show ¬(8:Int)=0 by decide),cK];simp only[show ψ 10 (.agg ru)=δ ru from rfl,show Φ 0 ru ru=δ ru from rfl,show l7 0 10 ru=δ (.agg ru)from rfl,bS];exact⟨_,rfl,bL _ _⟩
 rw[aL h1,cm h1,show(([0,if ι=η then 8 else 0]:List Int).find? λn=>decide (¬n=0)).getD 0=0 from rfl,fN,bS,cm (show ¬¬(0:Int)=0 by decide),cD];obtain⟨t1,t2⟩:=aeK h0;have hrd:=afx hp H;obtain⟨v,W,e1,e2⟩:=aeR hK.di hrd t1.2 hK.si t2 ⟨.op id 0,by simp [p5],by simp only[χ,kQ];rfl⟩ (afF JM)
 obtain⟨k,x,hk,hx⟩:∃(k:Nat)(x:bk),ix=(k:Int)/\(jB d d.state t).aD[k]? =δ x:=by
  rcases wL (Gd pb) d.state.aD with⟨q,_⟩|⟨k,y,hy,_,hk,_⟩
  ·rw[<-GN]at q;omega
  ·have hl:=congrArg VN (Fe d d.state t);rw[Z7,Z7]at hl;have hk':=(bD.1 hy).1;exact⟨k,_,by rw[GN];exact hk,bU (by omega)⟩
 obtain⟨s1,hs1⟩:∃s1,s1=jB d d.state t:=⟨_,rfl⟩
 rw[<-hs1]at e1 e2 hx ⊢;rw[e1,bS];simp only;rw[show ψ 4 (.agg (ck v s1))=δ (ck v s1)from rfl,bS];rw[hk,Tl,show s1.aD.getD k DW=x from by rw[aCN,hx];rfl];rcases e2 with⟨z1,z2,z3⟩|⟨g,z1,z2⟩
 ·rw[z1]at hx;simp at hx
 ·have hW:∃ex,W=σ++ex:=⟨_,z2⟩
  have hgt:W[σ.length+1]? =δ (.arr g 10 (s1.aD.map aQ)):=by rw[z2];exact Lz σ g s1
  have hl:=(bD.1 hx).1;rw[z1,show φ 0 (ck (.os (σ.length+1) g 10 0 s1.aD.length) s1)=δ (.os (σ.length+1) g 10 0 s1.aD.length)from rfl,bS]
  rw[show UM 10 (.os (σ.length+1) g 10 0 s1.aD.length) (.ah (k:Int))=δ (.oe (σ.length+1) g k 0)from by
   simp only[UM,A.idx];rw[aO ⟨by omega,by omega⟩]
   simp,bS]
  rw[show((χ (.oe (σ.length+1) g k 0) W).bind λc=>l7 0 10 c)=δ (.agg (aQ x))from by
   simp only[χ,hgt,if_true,qo,hx,cq,Tq]
   exact aAs x,bS]
  rw[O7,bS,apq _ _ rfl,bS,aAs,bS];obtain⟨ex,rfl⟩:=hW;exact⟨_,at2 x 0,ae0 (af9 (bO (vF (BN x)) (bO (cN _ _) lg))) σ ex⟩
end
end
section
open HP
theorem aoR{l:List bl}(h:qi l=0):(Cf l).length<=600000:=by
 have hf:=PX h
 have key:∀(l:List bl),(∀c∈l,c.ef.length<=2000)->(Cf l).length<=l.length*2000:=by
  intro l;induction l with
  |nil=>intro _;simp [Cf]
  |cons c l ih=>intro h;have h1:=ih (λc' qA=>h c' (rA _ qA));have h2:=h c (by simp);unfold Cf at h1 ⊢;rw[Vi,Ve,Z7,R7];omega
 have:=key l (λc hc=>(hf.mv c hc).1);have:=hf.len;omega
def De(l:List (aI×cS)):List ia:=l.filterMap λp=>if h:0<=p.1.unit/\p.1.unit<=1000000 then δ ⟨p.1,h⟩else ξ
def Jm (l:List (aI×cS)):List aI:=(oK (λa b:ia=>mj a.1 b.1) (De l)).map (·.1)
theorem P9{l:List (aI×cS)}(h:∀p∈l,0<=p.1.unit/\p.1.unit<=1000000):(De l).map (·.1)=l.map (·.1):=by
 unfold De;induction l with
 |nil=>rfl
 |cons p l ih=>have hp:=h p (by simp);rw[SU];rw[dif_pos hp];simp only[eo];rw[ih (λq hq=>h q (by simp [hq]))]
theorem val_inj:∀{a b:List ia},a.map (·.1)=b.map (·.1)->a=b
 |[],[],_=>rfl
 |[],_::_,h=>by simp at h
 |_::_,[],h=>by simp at h
 |x::a,y::b,h=>by simp only[eo,List.cons.injEq]at h;rw[Subtype.ext h.1,val_inj h.2]
theorem acW:∀{a b:List aI},a.map (λk=>Λ (aV k))=b.map (λk=>Λ (aV k))->a=b
 |[],[],_=>rfl
 |[],_::_,h=>by simp at h
 |_::_,[],h=>by simp at h
 |x::a,y::b,h=>by simp only[eo,List.cons.injEq]at h;rw[adY h.1,acW h.2]
theorem aps{l:List (aI×cS)}(h:∀p∈l,0<=p.1.unit/\p.1.unit<=1000000):(Jm l).Perm (l.map (·.1)):=by unfold Jm;have:=(Dz (zM λk:ia=>k.1) (De l)).1.map (·.1);rwa[P9 h]at this
abbrev Ew(o:Option (List (aI×cS))):AV:=oS (λx=>Λ (aV x)) (λx=>Λ (fQ x)) o
theorem apN(o:Option (List (aI×cS))):Θ (Ew o)=δ (Ew o):=by cases o<;>rfl
theorem atP(o:Option (List (aI×cS)))(W:Heap):N4 [Ew o] W=δ (.fn 359 [.rp [Ew o]],W):=by refine Fu (by cases o<;>rfl) rfl (iI _) ?_;unfold aaj;rw[apN,bS,bS,bS];exact bL _ _
theorem aqW{o:Option (List (aI×cS))}(hn:((o.getD []).map (·.1)).Nodup)(hu:∀p∈o.getD [],0<=p.1.unit/\p.1.unit<=1000000)(hl:(o.getD []).length<=1000000)(W:Heap):JX [.fn 359 [.rp [Ew o]],.fn 372 []] W=δ (sl 2 aV (Jm (o.getD [])),W):=by
 have hr:A.yx (Ew o)=δ ((o.getD []).map eH):=by cases o<;>rfl
 have hk:KeysOf ((o.getD []).map eH) (De (o.getD [])):=by
  refine⟨?_,?_,?_⟩
  ·rw[Zc];have:(De (o.getD [])).map (λk=>Λ (aV k.1))=((De (o.getD [])).map (·.1)).map (λk=>Λ (aV k)):=by rw[Zc];rfl
   rw[this,P9 hu,Zc];rfl
  ·have:((De (o.getD [])).map (·.1)).Nodup:=by rw[P9 hu];exact hn
   exact(List.pairwise_map.1 this).imp λq e=>q (by rw[e])
  ·have:=congrArg VN (P9 hu);rw[Z7,Z7]at this;omega
 show(A.yx (Ew o)).bind _=_;rw[hr,bS];have hex:∃l,KeysOf ((o.getD []).map eH) l:=⟨_,hk⟩
 rw[dif_pos hex];have hch:=ZR hex
 have e:V7 hex=De (o.getD []):=by refine val_inj (acW ?_);rw[Zc,Zc];exact hch.1.symm.trans hk.1
 rw[e];unfold Jm sl;rw[Zc];rfl
def D8(b:bk)(c:Int)(k:aI):Option Cl:=if(dX b k c).2=η then δ ⟨k,(dX b k c).1.gG,(dX b k c).1.mm,(dX b k c).1.ending⟩else ξ
def RX (pb:Int) (b:bk) (t:Int):zy:=⟨pb,if 0<=b.bw then((b.bg[b.bw.toNat]?).map (·.au)).getD 0 else 0,b.eF,b.aJ.gQ,gq b,(Jm (b.runs.getD [])).filterMap (D8 b (dU b.aJ t))⟩
def aut:zy:=⟨0,0,0,ι,0,[]⟩
def eS (d:bB) (pb t:Int):zy×Int:=if ¬((mu d pb t).2=0)then(aut,(mu d pb t).2)else(RX pb (mu d pb t).1 t,0)
theorem atU{W:Heap}{id:Nat}{b:bk}(h:W[id]? =δ (.box (aQ b)))(sh:Sh):Lt W sh (.op id 0) (.rp (aQ b)):=by refine⟨⟨.rp (aQ b),?_,rfl,rfl⟩,rfl,λh=>by cases h⟩;have q:=BN b W 0 7;simp only[Wr,aBP,if_false,h,Tq,Fw,q,cq]
theorem arF{W:Heap}{id:Nat}{b:bk}(h:W[id]? =δ (.box (aQ b))):Dl [.op id 0] W=δ (.ah (gq b),W):=
 Bk (dR:=[.op id 0]) (ts:=[.rp (aQ b)]) ⟨atU h _,trivial⟩ (λσ=>ag5 b σ) rfl
theorem am8{W:Heap}{id:Nat}{b:bk}(h:W[id]? =δ (.box (aQ b)))(k:aI)(c:Int):uq [.op id 0,.agg (aV k),.ah c] W=δ (.aM [.agg (fQ (dX b k c).1),.bool (dX b k c).2],W):=by refine aBq (q:=.op id 9) b k c W rfl (by simp [p5]) ?_;simp only[χ,h];exact HX b (σ:=[])
abbrev LJ:List Sh:=[.k,.k,.k,.k,.k,.k,.k,.k,(.s 2),.k,.k]
theorem at4(x:Cl):UZ LJ (lH x)=lH x:=rfl
theorem asB{v:AV}{l:List Cl}(h:Wo (.s 11) v=sl 11 lH l):Wo (.e 11 LJ) v=sl 11 lH l:=by
 have key:∀es:List an,es=l.map lH->es.map (UZ LJ)=l.map lH:=by rintro _ rfl;rw[Zc];exact TA λx _=>at4 x
 cases v<;>first|exact h|(unfold sl at h ⊢;simp only[Wo]at h ⊢;injection h with h1 h2;rw[h1,key _ h2])
theorem apQ(f:iF)(hf:f.fA.bV.length<=1000000)(W:Heap):A.oJ (.s 2) EV [sl 2 gY f.fA.bV] W=δ (sl 2 gY f.fA.bV,W):=
 Ff (most:=140737488355328 / 16) (m:=EV) (r0:=N2) KO rfl (λ_ _=>rfl) (by omega) W
section
variable {σ : Heap} {R : HP}
abbrev mA(pb:Int)(b:bk)(vo:AV):an:=[.ah pb,.ah (if 0<=b.bw then((b.bg[b.bw.toNat]?).map (·.au)).getD 0 else 0),.ah b.eF,.bool b.aJ.gQ,.ah (gq b),vo]
theorem as1{w:Heap}{b:bk}{t pb:Int}{ks:List aI}(hks:ks.length<=1000000){i:Nat}{k:aI}(hi:ks[i]? =δ k)(z:AV){vo:AV}{out:List Cl}(ho:out.length<=1000000)(hp:((dX b k (dU b.aJ t)).1.gG.fA.bV.length<=1000000)){id:Nat}(H:Hs bN σ w (blk id (.box (aQ b))*(Sl (fl lH) 11 vo out*R))):
  ∃fW w',(JV (δ (S7 id 0)) (ε t) id (sl 2 aV ks) (ε (ks.length:Int))) [z,.lbx (mA pb b vo),.ah (i:Int)] w=δ (.normal,[z,.lbx (mA pb b fW),.ah ((i+1:Nat):Int)],w')/\Hs bN σ w' (blk id (.box (aQ b))*(Sl (fl lH) 11 fW (out++(D8 b (dU b.aJ t) k).toList)*R)):=by
 have kQ:=(jj H).2;try unfold JV
 simp only[bM,cg];rw[gZ hi,bS,cK,gy hi,bS,pQ,bS,uA,bS,Iv,bS,Li _ _ rfl,bS,uA,bS,bS,show((χ (.op id 0) w).bind λc=>l7 0 3 c)=δ (.agg (wS b.aJ))from by simp only[χ,kQ];rfl,bS,dL (LA b.aJ t w),bS,dL (am8 kQ k (dU b.aJ t)),bS,jZ,bS,ext1,bS];rw[zD,bS,BS _ _ rfl,bS,vX,bS];obtain⟨r,hr⟩:∃r,r=(dX b k (dU b.aJ t)).1:=⟨_,rfl⟩
 rw[<-hr]at hp ⊢;cases hd:(dX b k (dU b.aJ t)).2
 ·rw[show(!ι)=η from rfl,cK,fK hi (by unfold aZ;omega),bS];refine⟨vo,w,rfl,?_⟩;unfold D8;rw[hd,aL (by decide)];simp only[Option.toList_none,TU];exact H
 ·rw[show(!η)=ι from rfl,cD,anI,bS,apQ r.gG hp w,bS];have hcv:φ 5 (mA pb b vo)=δ vo:=FB (dN (show _=Sl (fl lH) 11 vo out*(blk id (.box (aQ b))*R) by ac_rfl) H);obtain⟨x,hx⟩:∃x:Cl,x=⟨k,r.gG,r.mm,r.ending⟩:=⟨_,rfl⟩
  have K2:=dN (show _=Sl (fl lH) 11 vo out*(els (fl lH) [lH x] [x]*(blk id (.box (aQ b))*R)) by
   rw[show els (fl lH) [lH x] [x]=pr (lH x=lH x)*emp from rfl];ac_rfl) (oB.2 ⟨(rfl:lH x=lH x),dN (zG _).symm H⟩)
  obtain⟨fW,σ',f1,f2⟩:=IS (most:=140737488355328 / 112) K2 (by simp;omega) (λ_ _ _ _=>trivial);have f2':=dN (show _=Sl (fl lH) 11 fW (out++[x])*(blk id (.box (aQ b))*R) by rfl) f2;have awN:Θ fW=δ fW:=FB f2';rw[show((Θ (sl 2 gY r.gG.fA.bV)).bind λv=>δ [v])=δ [sl 2 gY r.gG.fA.bV]from rfl,bS,show Φ 6 [sl 2 gY r.gG.fA.bV] (fQ r)=δ (fQ r)from rfl,bS];simp only[iM,bS,hcv,uA,aa7,Ic,KJ];rw[show(((ψ 2 (.agg (aV k))).bind λqy=>(Φ 0 qy [(ε 0),dY,(ε 0),(ε 0),(ε 0),(ε 0),(ε 0),(ε 0),i6,(ε 0),aY]).bind λuR=>(ψ 7 (.agg (gA r.gG))).bind λxE=>(Φ 2 xE uR).bind λqz=>((Θ (.ah r.mm)).bind λv=>δ [v]).bind λsJ=>(Φ 9 sJ qz).bind λoQ=>((Θ (.bool r.ending)).bind λv=>δ [v]).bind λsK=>(Φ 10 sK oQ).bind λMF=>δ MF).bind λcs=>δ (Λ cs))=δ (.agg (lH x))from by rw[hx];rfl,bS];rw[show(((ψ 11 (.agg (lH x))).bind λwo=>(Φ 0 wo [(ε 0),dY,(ε 0),(ε 0),(ε 0),(ε 0),(ε 0),(ε 0),i6,(ε 0),aY]).bind λxF=>δ xF).bind λcs=>δ (SQ 11 (gd 11 1 cs)))=δ (.sl 11 [lH x])from rfl,bS,f1,bS];simp only[awN,bS];rw[show Φ 5 [fW] (mA pb b vo)=δ (mA pb b fW)from rfl,bS,fK hi (by unfold aZ;omega),bS];refine⟨fW,σ',rfl,?_⟩;unfold D8;rw[hd,aO rfl,<-hr,<-hx,Zh];exact dN (by ac_rfl) f2'
theorem auA{α β:Type}{X:Option α}{v:α}{f:α->Option β}{r:Option β}(e:X=δ v)(k:f v=r):X.bind f=r:=by rw[e];exact k
theorem akA{α β:Type}(f:α->Option β)(l:List α){i:Nat}{x:α}(h:l[i]? =δ x):(l.take (i+1)).filterMap f=(l.take i).filterMap f++(f x).toList:=by rw[S2,h,Zh,ZV,SU,ZP];cases f x<;>rfl
theorem ab1{aH:Heap}{pd:AV}{d:bB}(hK:mI d)(t pb:Int)(H:Hs bN aH σ (iU pd d*R))(hB:(mu d pb t).2=0->uE t (mu d pb t).1)(hl:((mu d pb t).1.runs.getD []).length<=1000000)(hp:∀p∈(mu d pb t).1.runs.getD [],p.2.gG.fA.bV.length<=1000000):
  Ht [pd,.ah pb,.ah t] σ=δ (.aM [.agg (pX (eS d pb t).1),.ah (eS d pb t).2],σ):=by
 suffices h:∃v,Wo (.t [(.a [.k,.k,.k,.k,.k,(.e 11 LJ)]),.k]) v=.aM [.agg (pX (eS d pb t).1),.ah (eS d pb t).2]/\N5 pd (.ah pb) (.ah t) σ=δ (v,σ) by obtain⟨v,h1,h2⟩:=h;exact Lw h1 h2
 unfold N5 eS;rw[ari hK t pb H,bS];simp only;obtain⟨b,hb⟩:∃b,b=(mu d pb t).1:=⟨_,rfl⟩
 obtain⟨e,he⟩:∃e,e=(mu d pb t).2:=⟨_,rfl⟩
 rw[<-hb,<-he]at hB ⊢;rw[<-hb]at hl hp;rw[jZ,bS,ext1,bS,O7,bS];have G0:(σ++[Sd ru])[σ.length]? =δ (.box ru):=by rw[iz (bF _),Wz];rfl
 have hst:l8 (.op σ.length 0) (aQ b) (σ++[Sd ru])=δ (σ++[Sd (aQ b)]):=by simp only[l8,G0];rw[show Φ 0 (aQ b) ru=δ (aQ b)from rfl,cq,pJ _ _ (bF _),Wz];rfl
 rw[hst,bS,fN,bS];by_cases h0:e=0
 case neg=>
  rw[cB h0,cK,aO h0];simp only[show ψ 6 (Λ [(ε 0),(ε 0),(ε 0),aY,(ε 0),i6])=δ [(ε 0),(ε 0),(ε 0),aY,(ε 0),i6]from rfl,bS,show Φ 0 [(ε 0),(ε 0),(ε 0),aY,(ε 0),i6] [(ε 0),(ε 0),(ε 0),aY,(ε 0),i6]=δ [(ε 0),(ε 0),(ε 0),aY,(ε 0),i6]from rfl,show l7 0 6 [(ε 0),(ε 0),(ε 0),aY,(ε 0),i6]=δ (.agg [(ε 0),(ε 0),(ε 0),aY,(ε 0),i6])from rfl];exact⟨_,rfl,ae0 (af9 (bO (vF (bO (cN _ _) (bO (cN _ _) (bO (cN _ _) (bO (AZ _) (bO (cN _ _) (bO af8 lg))))))) (bO (cN _ _) lg))) σ _⟩
 rw[cm (λq=>q h0),cD,aL (λq=>q h0)];have hI:=hB h0;obtain⟨id,hid⟩:∃id,id=σ.length:=⟨_,rfl⟩
 obtain⟨W0,Az⟩:∃W0,W0=σ++[Sd (aQ b)]:=⟨_,rfl⟩
 rw[<-Az,<-hid];have K0:Hs bN σ W0 (blk id (.box (aQ b))*emp):=by rw[Az,hid];exact FG (IL σ) trivial
 have kQ:=(jj K0).2;have fo:∀o,p5 o (.op id 0)=δ (.op id o):=λo=>by simp [p5]
 rw[fo 7,bS,show((χ (.op id 7) W0).bind λc=>φ 0 c)=δ (.ah b.eF)from by simp only[χ,kQ];rfl,bS,fo 0,bS,show p5 2 (.op id 0)=δ (.op id 2)from fo 2,bS,show((χ (.op id 2) W0).bind λc=>φ 0 c)=δ (.bool b.aJ.gQ)from by simp only[χ,kQ];rfl,bS,dL (arF kQ),bS];rw[show((((Θ (ε pb)).bind λv=>δ [v]).bind λjt=>(Φ 0 jt [(ε 0),(ε 0),(ε 0),aY,(ε 0),i6]).bind λiZ=>((Θ (ε b.eF)).bind λv=>δ [v]).bind λkG=>(Φ 2 kG iZ).bind λkN=>((Θ (i7 b.aJ.gQ)).bind λv=>δ [v]).bind λgR=>(Φ 3 gR kN).bind λiK=>((Θ (ε (gq b))).bind λv=>δ [v]).bind λjc=>(Φ 4 jc iK).bind λiL=>δ iL).bind λcs=>δ (Λ cs))=δ (.agg [.ah pb,.ah 0,.ah b.eF,.bool b.aJ.gQ,.ah (gq b),.aA])from rfl,bS];rw[show ψ 6 (.agg [.ah pb,.ah 0,.ah b.eF,.bool b.aJ.gQ,.ah (gq b),.aA])=δ [.ah pb,.ah 0,.ah b.eF,.bool b.aJ.gQ,.ah (gq b),.aA]from rfl,bS];rw[show Φ 0 [.ah pb,.ah 0,.ah b.eF,.bool b.aJ.gQ,.ah (gq b),.aA] [(ε 0),(ε 0),(ε 0),aY,(ε 0),i6]=δ [.ah pb,.ah 0,.ah b.eF,.bool b.aJ.gQ,.ah (gq b),.aA]from rfl,bS];rw[fo 6,bS,show((χ (.op id 6) W0).bind λc=>φ 0 c)=δ (.ah b.bw)from by simp only[χ,kQ];rfl,bS,qp,bS]
 have D0:(Γ (i7 (decide (0<=b.bw))) (
   (p5 5 (S7 id 0)).bind λx34=>
   ((χ x34 W0).bind λkg=>φ 0 kg).bind λgX=>
   (δ (S7 id 6)).bind λeY=>
   ((χ eY W0).bind λoP=>φ 0 oP).bind λiO=>
   (UM 11 gX iO).bind λfH=>
   (p5 0 fH).bind λiP=>
   ((χ iP W0).bind λkO=>φ 0 kO).bind λji=>
   ((Θ ji).bind λv=>δ [v]).bind λCL=>
   (Φ 1 CL [.ah pb,.ah 0,.ah b.eF,.bool b.aJ.gQ,.ah (gq b),.aA]).bind λuN=>
   δ ([p6 [(ε 0),(ε 0),(ε 0),aY,(ε 0),i6],p6 uN],W0)) (
   δ ([p6 [(ε 0),(ε 0),(ε 0),aY,(ε 0),i6],p6 [.ah pb,.ah 0,.ah b.eF,.bool b.aJ.gQ,.ah (gq b),.aA]],W0)))=δ ([p6 [(ε 0),(ε 0),(ε 0),aY,(ε 0),i6],p6 (mA pb b .aA)],W0):=by
  by_cases hc:0<=b.bw
  ·rw[cB hc,cK];obtain⟨j,hj⟩:∃j:Nat,b.bw=(j:Int):=⟨b.bw.toNat,by omega⟩
   have hjl:j<b.bg.length:=by have:=hI.bw.2;omega
   have hx:b.bg[j]? =δ b.bg[j]:=bU hjl;rw[fo 5,bS,show((χ (.op id 5) W0).bind λc=>φ 0 c)=δ (sl 11 bn b.bg)from by simp only[χ,kQ];rfl,bS,bS,show((χ (.op id 6) W0).bind λc=>φ 0 c)=δ (.ah b.bw)from by simp only[χ,kQ];rfl,bS,hj,gy hx,bS,nU,bS,show((χ (.rp ((bn b.bg[j]).drop 0)) W0).bind λc=>φ 0 c)=δ (.ah b.bg[j].au)from rfl,bS]
   have e1:(if 0<=b.bw then((b.bg[b.bw.toNat]?).map (·.au)).getD 0 else 0)=b.bg[j].au:=by rw[aO hc,hj,Tl,hx];rfl
   unfold mA;rw[e1];rfl
  ·rw[cm hc,cD];unfold mA;rw[aL hc]
 rw[D0,bS];simp only;rw[fo 9,bS,show((χ (.op id 9) W0).bind λc=>φ 0 c)=δ (Ew b.runs)from by simp only[χ,kQ];exact HX b (σ:=[]),bS,atP,bS];simp only;rw[aqW (OU hI) (λp hp=>acj hI.eD (hI.runs p.1 p.2 hp).2) hl W0,bS];simp only;rw[fJ,bS];obtain⟨ks,hks⟩:∃ks,ks=Jm (b.runs.getD []):=⟨_,rfl⟩
 have wv:ks.length<=1000000:=by rw[hks,(aps (λp hp=>acj hI.eD (hI.runs p.1 p.2 hp).2)).length_eq,Z7];exact hl
 rw[<-hks];obtain⟨z,hz⟩:∃z,z=p6 [(ε 0),(ε 0),(ε 0),aY,(ε 0),i6]:=⟨_,rfl⟩
 have hL:∃q,p7 (JV (δ (S7 id 0)) (ε t) id (sl 2 aV ks) (ε (ks.length:Int))) [z,.lbx (mA pb b .aA),.ah 0] W0=δ q/\∃vo u W',q=(.exit 0,[z,.lbx (mA pb b vo),u],W')/\Hs bN σ W' (blk id (.box (aQ b))*(Sl (fl lH) 11 vo (ks.filterMap (D8 b (dU b.aJ t)))*emp)):=by
  refine nO (λn u w=>∃(i:Nat)(vo:AV),i<=ks.length/\u=[z,.lbx (mA pb b vo),.ah (i:Int)]/\n=ks.length-i/\Hs bN σ w (blk id (.box (aQ b))*(Sl (fl lH) 11 vo ((ks.take i).filterMap (D8 b (dU b.aJ t)))*emp))) ?_ (n:=ks.length) ⟨0,.aA,kD _,rfl,rfl,dN (by ac_rfl) (vk (v:=.aA) (E:=fl lH) (sz:=11) K0 (.inl rfl))⟩;rintro n u w ⟨i,vo,hi,rfl,hn,K⟩;by_cases h:i<ks.length
  ·have hx:ks[i]? =δ ks[i]:=bU h
   obtain⟨fW,w',f1,f2⟩:=as1 (t:=t) (pb:=pb) wv hx z (by have:=List.length_filterMap_le (D8 b (dU b.aJ t)) (ks.take i);rw[oH]at this;omega) (by
    unfold dX;split
    ·show(0:Nat)<=_;omega
    ·rename_i r hr;exact hp _ (I2 hr)) K
   refine .inl ⟨ks.length-(i+1),_,w',by omega,f1,i+1,fW,h,rfl,rfl,?_⟩;rw[akA _ _ hx];exact f2
  ·have:i=ks.length:=by omega
   subst this;rw[Uo]at K;refine .inr ⟨(.exit 0,[z,.lbx (mA pb b vo),.ah (ks.length:Int)],w),?_,by simp,vo,_,w,rfl,K⟩;try unfold JV
   simp only[bM,cg];rw[iu,bS,cD]
 obtain⟨q,l1,vo,u,W',rfl,K'⟩:=hL;have K2:=dN (show _=Sl (fl lH) 11 vo (ks.filterMap (D8 b (dU b.aJ t)))*(blk id (.box (aQ b))*emp) by ac_rfl) K';obtain⟨v',g1,g2,g3⟩:=FK K2 arU (bF _) 7;have hcv:φ 5 (mA pb b vo)=δ vo:=FB K2;refine⟨.aM [.agg (mA pb b v'),.ah 0],?_,?_⟩
 ·have:UZ [.k,.k,.k,.k,.k,(.e 11 LJ)] (mA pb b v')=pX (RX pb b t):=by unfold mA RX pX;simp only[UZ,iI,asB g3,<-hks]
  show XF [.agg (UZ _ (mA pb b v')),.ah 0]=_;rw[this]
 ·simp only[bM,cg];rw[hz]at l1;refine auA l1 ?_;simp only[mB,bM,cg,iM,bS];rw[show l7 0 6 (mA pb b vo)=δ (.agg (mA pb b vo))from rfl,bS,show ψ 6 (.agg (mA pb b vo))=δ (mA pb b vo)from rfl,bS,show Φ 0 (mA pb b vo) [(ε 0),(ε 0),(ε 0),aY,(ε 0),i6]=δ (mA pb b vo)from rfl,bS,show l7 0 6 (mA pb b vo)=δ (.agg (mA pb b vo))from rfl,bS];refine FD K' ?_ (λe=>?_)
  ·simp only[Wr,UC,mA,g1,aP,cq]
  ·have h1:=(bD.1 (jj K').2).1;rw[e]at h1;omega
end
end
section
open HP
theorem wU{d:bB}{a:cW}(h1:d.state.aD.length=1)(hk:a.kind=4)(h:(lB d a).2=0):∃b,(lB d a).1.state.aD=[b]/\b.aJ.gQ=η/\(lB d a).1.bP=d.bP++[a]:=by
 unfold lB at h ⊢;by_cases h0:CY d a=0;case neg=>rw[aO h0]at h;exact absurd h h0
 rw[aL (λq=>q h0)]at h ⊢;by_cases hr:(iR d (jB d d.state a.time) a).2=0;case neg=>rw[aO hr]at h;exact absurd h hr
 rw[aL (λq=>q hr)];obtain⟨s,hs⟩:∃s,s=jB d d.state a.time:=⟨_,rfl⟩
 have hl:s.aD.length=1:=by have:=congrArg VN (Fe d d.state a.time);rw[Z7,Z7,<-hs]at this;omega
 rw[<-hs]at hr ⊢
 obtain⟨b,hb⟩:∃b,s.aD=[b]:=by
  cases hq:s.aD with
  |nil=>rw[hq]at hl;cases hl
  |cons b r=>
   cases r with
   |nil=>exact⟨b,rfl⟩
   |cons c r=>rw[hq]at hl;simp at hl
 have hi:(jM (λb:bk=>decide (b.au=a.gD)) s.aD).toNat=0:=by
  rcases wL (λb:bk=>decide (b.au=a.gD)) s.aD with⟨q,_,_⟩|⟨k,x,q1,_,q2,_,_⟩
  ·rw[q];rfl
  ·have:=(bD.1 q1).1;rw[q2];omega
 have hA:iR d s a=Bd d s a 0 b:=by unfold iR;rw[aL (by omega),aL (by omega),hi,hb];rfl
 rw[hA]at hr ⊢;unfold Bd at hr ⊢;rw[aL (by omega),aL (by omega),aL (by omega),aO hk]at hr ⊢;by_cases hq:b.aJ.gQ=η\/b.bw<0
 ·rw[aO hq]at hr;exact absurd hr (by show ¬(10:Int)=0;decide)
 ·rw[aL hq];exact⟨_,by show s.aD.set 0 _=_;rw[hb];rfl,rfl,rfl⟩
end
section
open HP
theorem aeu{α:Type}[DecidableEq α]:∀{l m:List α},l.Nodup->(∀x∈l,x∈m)->l.length<=m.length
 |[],m,_,_=>kD _
 |x::l,m,hn,hs=>by
  have hx:=hs x (by simp);have hn':=rB.1 hn
  have:l.length<=(m.erase x).length:=aeu hn'.2 λy hy=>by
   have hne:y≠x:=λe=>hn'.1 (e▸hy)
   exact(List.mem_erase_of_ne hne).2 (hs y (by simp [hy]))
  rw[List.length_erase_of_mem hx]at this;have:0<m.length:=List.length_pos_of_mem hx;simp only[R7];omega
theorem afW{d:bB}(hK:mI d){pb t:Int}(h:(mu d pb t).2=0):uE t (mu d pb t).1/\(mu d pb t).1∈(jB d d.state t).aD:=by
 unfold mu at h ⊢;by_cases h0:rX d.bP t=0;case neg=>rw[aO h0]at h;exact absurd h h0
 rw[aL (λq=>q h0)]at h ⊢;obtain⟨t1,t2⟩:=aeK h0;have hA:=UF hK.di hK.si t2 t1.2;rcases wL (Gd pb) d.state.aD with⟨q,_⟩|⟨k,y,hy,_,hk,_⟩
 ·rw[q]at h;rw[aO (by decide)]at h;exact absurd h (by decide)
 ·rw[hk]at h ⊢;rw[aL (by omega)]at h ⊢;have hl:=congrArg VN (Fe d d.state t);rw[Z7,Z7]at hl;have hk':=(bD.1 hy).1
  have hx:(jB d d.state t).aD[k]? =δ ((jB d d.state t).aD[k]'(by omega)):=bU _
  have e:(jB d d.state t).aD.getD (k:Int).toNat DW=(jB d d.state t).aD[k]'(by omega):=by
   rw[Tl,aCN,hx];rfl
  simp only[e];exact⟨hA.bs _ (UO _),UO _⟩
theorem auD{d:bB}{pb t:Int}(h:¬(mu d pb t).2=0):(mu d pb t).1=DW:=by
 unfold mu at h ⊢;split
 ·rfl
 ·rename_i q;rw[aL q]at h;split
  ·rfl
  ·rename_i q2;rw[aL q2]at h;exact absurd rfl h
section
variable {aH σ : Heap} {R : HP} {pd : AV}
theorem aAW{d:bB}(hK:mI d)(t pb:Int)(H:Hs bN aH σ (iU pd d*R)):Ht [pd,.ah pb,.ah t] σ=δ (.aM [.agg (pX (eS d pb t).1),.ah (eS d pb t).2],σ):=by
 by_cases h:(mu d pb t).2=0
 ·have hB:=(afW hK h).1;refine ab1 hK t pb H (λ_=>hB) ?_ (λp hp=>?_)
  ·have h1:=aeu (OU hB) (m:=Cf (mu d pb t).1.bg) (λx hx=>by
    obtain⟨p,hp,rfl⟩:=fL.1 hx
    exact(hB.runs p.1 p.2 hp).2)
   rw[Z7]at h1;have:=aoR hB.eD;omega
  ·have hc:=(hB.runs p.1 p.2 hp).1.c;unfold qV at hc;split at hc
   ·cases hc
   ·split at hc
    ·split at hc
     ·cases hc
     ·split at hc
      ·cases hc
      ·omega
    ·split at hc
     ·cases hc
     ·omega
 ·have hz:=auD h;exact ab1 hK t pb H (λq=>absurd q h) (by rw[hz];simp [DW]) (by rw[hz];simp [DW])
end
end
section
def AL (a0:Int):Option (Int×Int×Bool):=
 (show Option Bool from
   if a0=24 then
    δ (decide (a0=24))
   else
   (show Option Bool from
     if a0=25 then
      δ (decide (a0=25))
     else
     δ (decide (a0=30))).bind λj2=>
   δ j2).bind λj6=>
 if j6=η then
  δ (a0,1,η)
 else
 if a0=29 then
  δ (30000,1001,η)
 else
 δ (0,0,ι)
theorem aa5{a0:Int}{σ:Heap}{r:(Int×Int×Bool)}(h:AL a0=δ r):OC [(ε a0)] σ=δ ((XF [(ε r.1),(ε r.2.1),(i7 r.2.2)]),σ):=by
 refine ux (f:=Tx) (y0:=(ε a0)) (enc:=λr:(Int×Int×Bool)=>(XF [(ε r.1),(ε r.2.1),(i7 r.2.2)])) (T:=AL a0) rfl rfl ?_ r h;unfold Tx AL;refine ay _ (gK _ _ _) ?_
 refine Gg (ω:=Bool) (λj6 a=>a=(([(i7 j6)]:an),σ)) (
   by
    refine kE (p:=a0=24) (λc5=>?_) (λc5=>?_)
    ·exact cz rfl
    refine ay _ (gK _ _ _) ?_
    refine Gg (ω:=Bool) (λj2 a=>a=(([(i7 j2)]:an),σ)) (
      by
       refine kE (p:=a0=25) (λc1=>?_) (λc1=>?_)
       ·exact cz rfl
       refine ay _ (gK _ _ _) ?_;exact cz rfl
      ) (λj2 a ha=>?_)
    subst ha;exact cz rfl
   ) (λj6 a ha=>?_)
 subst ha;refine jE (c:=j6) (λfM=>?_) (λfM=>?_)
 ·exact eB _ (bL _ _) ⟨rfl,rfl⟩
 refine ay _ (gK _ _ _) ?_;refine kE (p:=a0=29) (λc9=>?_) (λc9=>?_)
 ·exact eB _ (bL _ _) ⟨rfl,rfl⟩
 exact eB _ (bL _ _) ⟨rfl,rfl⟩
def Fc (a0:Int):Option Int:=
 (AL a0).bind λr1=>
 δ (if(!r1.2.2)=η then 16 else 0)
theorem abm{a0:Int}{σ:Heap}{r:Int}(h:Fc a0=δ r):Kv [(ε a0)] σ=δ ((ε r),σ):=by refine ux (f:=TJ) (y0:=(ε a0)) (enc:=λr:Int=>(ε r)) (T:=Fc a0) rfl rfl ?_ r h;unfold TJ Fc;refine iJ (λr1:(Int×Int×Bool)=>((XF [(ε r1.1),(ε r1.2.1),(i7 r1.2.2)]),σ)) (λr1 iB=>aa5 iB) (λr1 iB=>?_);refine ay _ rfl<|ay _ rfl<|ay _ rfl<|ay _ rfl<|ay _ (oZ (!r1.2.2) 16 σ) ?_;exact eB _ (bL _ _) ⟨rfl,rfl⟩
def Dv (a0:Int):Option Int:=
 if a0=29 then
  δ 2589408
 else
 δ (θ.wrap (86400*a0))
theorem TV{a0:Int}{σ:Heap}{r:Int}(h:Dv a0=δ r):H6 [(ε a0)] σ=δ ((ε r),σ):=by
 refine ux (f:=T8) (y0:=(ε a0)) (enc:=λr:Int=>(ε r)) (T:=Dv a0) rfl rfl ?_ r h;unfold T8 Dv;refine ay _ (gK _ _ _) ?_;refine kE (p:=a0=29) (λc1=>?_) (λc1=>?_)
 ·exact eB _ (bL _ _) ⟨rfl,rfl⟩
 refine ay _ rfl ?_;exact eB _ (bL _ _) ⟨rfl,rfl⟩
def Dn (a0:ct) (a1:Int):Option (List bl):=
 kL a0.aS (λ(i8:Nat)e7(s1:Unit)=>(show Option (Lr Unit Unit (List bl))from
   kL a0.bZ (λ(i16:Nat)tY(s9:Unit)=>(show Option (Lr Unit Unit (List bl))from
     if((decide (e7.au=a1))&&(decide (tY.au=e7.list)))=η then
      δ (.ret tY.bg)
     else
     δ (.go ()))) (λs9=>δ ()) () (λnC=>
    δ (.go ())) (λnC=>
    δ (.ret nC)))) (λs1=>δ ()) () (λb2=>
  δ ([])) (λb2=>
  δ b2)
theorem akC{a0:ct}{a1:Int}{σ:Heap}{r:(List bl)}(h:Dn a0 a1=δ r):Ou [(Λ (bu a0)),(ε a1)] σ=δ ((sl 11 bn r),σ):=by
 refine uy (f:=Tj) (y0:=(Λ (bu a0))) (y1:=(ε a1)) (enc:=λr:(List bl)=>(sl 11 bn r)) (T:=Dn a0 a1) rfl rfl ?_ r h;unfold Tj Dn;refine ay _ rfl<|ay (sl 3 cr a0.aS) rfl<|ay _ (fJ _ _ _) ?_;refine oz (B:=Unit) (R:=(List bl)) (λ(i8:Nat)(s1:Unit)v w3=>∃u4,v=[(p6 (bu a0)),u4,(ε (i8:Int))]/\σ=w3) (λ(b2:Unit)(q:LS)=>∃u2 u4 Nr,q=((Ψ 0),([u2,u4,Nr]:an),σ)) (λ(b2:(List bl))(q:LS)=>∃u2 Nr,q=(n9,([u2,(sl 11 bn b2),Nr]:an),σ)) ?_ ?_ ⟨_,rfl,rfl⟩ ?_ ?_
 ·intro Ae i8 e7 s1 v w3 nG hI;obtain⟨u4,rfl,rfl⟩:=hI;refine ay _ (gZ nG)<|oD<|ay _ (gy nG)<|ay _ rfl<|ay _ rfl<|ay _ (TP _ _ rfl)<|ay _ rfl<|ay (sl 2 eZ a0.bZ) rfl<|ay _ (fJ _ _ _) ?_;refine oz (B:=Unit) (R:=(List bl)) (λ(i16:Nat)(s9:Unit)v AI=>∃u4,v=[(p6 (bu a0)),u4,(p6 (cr e7)),(ε (i16:Int))]/\σ=AI) (λ(nC:Unit)(q:LS)=>∃u4 u6 Nu,q=((Ψ 2),([(p6 (bu a0)),u4,u6,Nu]:an),σ)) (λ(nC:(List bl))(q:LS)=>∃u2 u6 Nu,q=(n9,([u2,(sl 11 bn nC),u6,Nu]:an),σ)) ?_ ?_ ⟨_,rfl,rfl⟩ ?_ ?_
  ·intro LF i16 tY s9 v AI Ad hI;obtain⟨u4,rfl,rfl⟩:=hI;refine ay _ (gZ Ad)<|oD<|ay _ (gy Ad)<|ay _ rfl<|ay _ rfl<|ay _ (Iu _ _ rfl)<|ay _ rfl<|ay _ rfl<|ay _ (gK _ _ _)<|cZ (ε tY.au) (λhg=>rfl)<|ay _ rfl<|cZ (ε e7.list) (λhg=>rfl)<|cZ (i7 (decide (tY.au=e7.list))) (λhg=>by(try rw[hg]);exact(gK _ _ _))<|ay _ (ow _ _) ?_;refine jE (c:=((decide (e7.au=a1))&&(decide (tY.au=e7.list)))) (λmL=>?_) (λmL=>?_)
   ·refine ay (sl 11 bn tY.bg) rfl ?_;exact cz (iD (by simp) ⟨_,_,_,rfl⟩)
   refine ay _ (fK Ad LF) ?_;exact cz (oA ⟨_,rfl,rfl⟩)
  ·intro hl s9 v AI hI;obtain⟨u4,rfl,rfl⟩:=hI;refine ay _ (iu _)<|oC ?_;exact cz ⟨by simp,⟨_,_,_,rfl⟩⟩
  ·intro hl nC q hq;obtain⟨u4,u6,Nu,rfl⟩:=hq;refine jl rfl<|ay _ (fK nG Ae) ?_;exact cz (oA ⟨_,rfl,rfl⟩)
  ·intro hl nC q hq;obtain⟨u2,u6,Nu,rfl⟩:=hq;refine tM rfl<|jl rfl ?_;exact cz (iD (by simp) ⟨_,_,rfl⟩)
 ·intro hl s1 v w3 hI;obtain⟨u4,rfl,rfl⟩:=hI;refine ay _ (iu _)<|oC ?_;exact cz ⟨by simp,⟨_,_,_,rfl⟩⟩
 ·intro hl b2 q hq;obtain⟨u2,u4,Nr,rfl⟩:=hq;refine jl rfl ?_;exact eB _ (bL _ _) ⟨(by first|rfl|exact VY _ _),rfl⟩
 ·intro hl b2 q hq;obtain⟨u2,Nr,rfl⟩:=hq;refine tM rfl<|jl rfl ?_;exact eB _ (bL _ _) ⟨(vW (λ_=>rfl) _),rfl⟩
def aBa (a0:bl) (a1:cW):Option Bool:=δ (decide (a0.au=a1.bw))
theorem ajm{a0:bl}{a1:cW}{σ:Heap}{r:Bool}(h:aBa a0 a1=δ r):JY [(Λ (bn a0)),(Sf (bz a1))] σ=δ ((i7 r),σ):=by refine uy (f:=aBx) (y0:=(Λ (bn a0))) (y1:=(Sf (bz a1))) (enc:=λr:Bool=>(i7 r)) (T:=aBa a0 a1) rfl rfl ?_ r h;unfold aBx aBa;refine ay _ rfl<|ay _ rfl<|ay _ rfl<|ay _ rfl<|ay _ (gK _ _ _) ?_;exact eB _ (bL _ _) ⟨rfl,rfl⟩
def Hv (a0:ct) (a1:Int) (a2:(List cV)):Option Int:=
 (HB a0).bind λr1=>
 (Fc a1).bind λr2=>
 (tq (([r1,r2,(if(decide (2000<(a2.length:Int)))=η then 2 else 0)]:(List Int)).length<=aZ) ((([r1,r2,(if(decide (2000<(a2.length:Int)))=η then 2 else 0)]:(List Int)).find? λn=>decide (¬n=0)).getD 0)).bind λr3=>
 if ¬(r3=0)then
  δ r3
 else
 kL a2 (λ(zc:Nat)kH(xV:Unit)=>(show Option (Lr Unit Unit Int)from
   (Dv a1).bind λjO=>
   (if decide (0<(zc:Int))=η then xW a2 (θ.wrap ((zc:Int) -1))else δ default).bind λgj=>
   (tq (([(if(!(aX kH.ep 0 (θ.wrap (jO-1))))=η then 1 else 0),(if((decide (0<(zc:Int)))&&(decide (kH.ep<gj.ep)))=η then 7 else 0)]:(List Int)).length<=aZ) ((([(if(!(aX kH.ep 0 (θ.wrap (jO-1))))=η then 1 else 0),(if((decide (0<(zc:Int)))&&(decide (kH.ep<gj.ep)))=η then 7 else 0)]:(List Int)).find? λn=>decide (¬n=0)).getD 0)).bind λrJ=>
   (zo kH.action).bind λjV=>
   (BI a0 kH.action).bind λsR=>
   (tq (([rJ,jV,(if(decide (¬(kH.action.time=0)))=η then 3 else 0),sR]:(List Int)).length<=aZ) ((([rJ,jV,(if(decide (¬(kH.action.time=0)))=η then 3 else 0),sR]:(List Int)).find? λn=>decide (¬n=0)).getD 0)).bind λuY=>
   if ¬(uY=0)then
    δ (.ret uY)
   else
   (if decide (kH.action.kind=3)=η then Dn a0 kH.action.gD else δ default).bind λxS=>
   (if decide (kH.action.kind=3)=η then tq (xS.length<=aZ) (xS.any (λx=>(decide (x.au=kH.action.bw))))else δ default).bind λuZ=>
   if((decide (kH.action.kind=3))&&(!uZ))=η then
    δ (.ret 8)
   else
   δ (.go ()))) (λxV=>δ ()) () (λGA=>
  δ 0) (λGA=>
  δ GA)
theorem ajI{a0:ct}{a1:Int}{a2:(List cV)}{σ:Heap}{r:Int}(h:Hv a0 a1 a2=δ r):Sy [(Λ (bu a0)),(ε a1),(sl 6 dW a2)] σ=δ ((ε r),σ):=by
 refine aAd (f:=N7) (y0:=(Λ (bu a0))) (y1:=(ε a1)) (y2:=(sl 6 dW a2)) (enc:=λr:Int=>(ε r)) (T:=Hv a0 a1 a2) rfl rfl ?_ r h;unfold N7 Hv;refine ay _ rfl<|ay _ rfl ?_;refine iJ (λr1:Int=>((ε r1),σ)) (λr1 iB=>aaA iB) (λr1 iB=>?_);refine iJ (λr2:Int=>((ε r2),σ)) (λr2 mg=>abm mg) (λr2 mg=>?_);refine ay _ (fJ _ _ _)<|ay _ rfl<|ay _ (oZ (decide (2000<(a2.length:Int))) 2 σ)<|ay (sl 1 nT ([r1,r2,(if(decide (2000<(a2.length:Int)))=η then 2 else 0)]:(List Int))) rfl ?_;refine iJ (λr3:Int=>((ε r3),σ)) (λr3 uV=>(rY (e:=λr:Int=>((ε r),σ)) (λhs=>wO ([r1,r2,(if(decide (2000<(a2.length:Int)))=η then 2 else 0)]:(List Int)) hs σ)) uV) (λr3 uV=>?_);refine ay _ (fN _ _ _) ?_;refine kE (p:=¬(r3=0)) (λCL=>?_) (λCL=>?_)
 ·exact eB _ (bL _ _) ⟨rfl,rfl⟩
 refine ay _ (fJ _ _ _) ?_;have XP:Hp σ σ []:=Ls σ;refine oz (B:=Unit) (R:=Int) (λ(zc:Nat)(xV:Unit)v ET=>v=[(p6 (bu a0)),(ε 0),(ε (zc:Int))]/\Hp σ ET []) (λ(GA:Unit)(q:LS)=>∃u3 u6 Nw G9,q=((Ψ 0),([u3,u6,Nw]:an),G9)/\Hp σ G9 []) (λ(GA:Int)(q:LS)=>∃u3 Nw G9,q=(n9,([u3,(ε GA),Nw]:an),G9)/\Hp σ G9 []) ?_ ?_ ⟨rfl,XP⟩ ?_ ?_
 ·intro auZ zc kH xV v ET XG hI;obtain⟨rfl,XR⟩:=hI;refine ay _ (gZ XG)<|oD<|ay _ (gy XG)<|ay _ rfl<|ay _ rfl<|ay _ (U5 _ _ rfl)<|ay _ rfl ?_;have En:Hp σ (ET++[Sd [(ε 0),(ε 0),(ε 0),(ε 0),(ε 0)]]) [((S7 ET.length 0),(Ct.b (bz (⟨0,0,0,0,0⟩:cW))))]:=au6 XR _;refine ay _ rfl ?_;obtain⟨zl,e33,Bj⟩:=aoK (cs':=(bz kH.action)) En 0 rfl 0 (by first|rfl|exact an6 _ _ rfl);change Hp σ zl [((S7 ET.length 0),(Ct.b (bz kH.action)))]at Bj;refine ay zl e33<|ay _ rfl ?_;refine iJ (λjO:Int=>(ε jO)) (λjO Mk=>(dL (TV Mk))) (λjO Mk=>?_);refine ay _ rfl<|ay _ (dL (kJ kH.ep 0 (θ.wrap (jO-1)) zl))<|ay _ rfl<|ay _ (dL (oZ (!(aX kH.ep 0 (θ.wrap (jO-1)))) 1 zl))<|ay _ rfl<|cZ (ε kH.ep) (λhg=>rfl)<|cZ (sl 6 dW a2) (λhg=>rfl)<|cZ (ε (zc:Int)) (λhg=>rfl)<|cZ (ε (θ.wrap ((zc:Int) -1))) (λhg=>by(try rw[hg]);exact rfl) ?_;refine vH (ω:=cV) (λgj=>(Sf (dW gj))) (λhg gj ah5=>by(try rw[hg]);exact D3 ah5) (λgj ah5=>?_);refine cZ (Sf (dW gj)) (λhg=>by(try rw[hg]);exact rfl)<|cZ (ε gj.ep) (λhg=>by(try rw[hg]);exact rfl)<|cZ (i7 (decide (kH.ep<gj.ep))) (λhg=>by(try rw[hg]);exact rfl)<|ay _ (ow _ _)<|ay _ (dL (oZ ((decide (0<(zc:Int)))&&(decide (kH.ep<gj.ep))) 7 zl))<|ay (sl 1 nT ([(if(!(aX kH.ep 0 (θ.wrap (jO-1))))=η then 1 else 0),(if((decide (0<(zc:Int)))&&(decide (kH.ep<gj.ep)))=η then 7 else 0)]:(List Int))) rfl ?_;refine iJ (λrJ:Int=>(ε rJ)) (λrJ ahR=>(dL ((rY (e:=λr:Int=>((ε r),zl)) (λhs=>wO ([(if(!(aX kH.ep 0 (θ.wrap (jO-1))))=η then 1 else 0),(if((decide (0<(zc:Int)))&&(decide (kH.ep<gj.ep)))=η then 7 else 0)]:(List Int)) hs zl)) ahR))) (λrJ ahR=>?_);refine ay _ (by rw[Lp Bj 0 rfl];rfl) ?_;refine iJ (λjV:Int=>(ε jV)) (λjV ahS=>(dL (aar ahS))) (λjV ahS=>?_);refine ay _ rfl<|ay _ (by rw[Lp Bj 0 rfl];rfl)<|ay _ (fN _ _ _)<|ay _ (dL (oZ (decide (¬(kH.action.time=0))) 3 zl))<|ay _ rfl<|ay _ (by rw[Lp Bj 0 rfl];rfl) ?_;refine iJ (λsR:Int=>(ε sR)) (λsR ahT=>(dL (aat ahT))) (λsR ahT=>?_);refine ay (sl 1 nT ([rJ,jV,(if(decide (¬(kH.action.time=0)))=η then 3 else 0),sR]:(List Int))) rfl ?_;refine iJ (λuY:Int=>(ε uY)) (λuY ahU=>(dL ((rY (e:=λr:Int=>((ε r),zl)) (λhs=>wO ([rJ,jV,(if(decide (¬(kH.action.time=0)))=η then 3 else 0),sR]:(List Int)) hs zl)) ahU))) (λuY ahU=>?_);refine ay _ (fN _ _ _) ?_;refine kE (p:=¬(uY=0)) (λsG=>?_) (λsG=>?_)
  ·exact cz (iD (by simp) ⟨_,_,_,rfl,(Lc Bj)⟩)
  refine ay _ rfl<|ay _ (by rw[Lp Bj 0 rfl];rfl)<|ay _ (gK _ _ _)<|cZ (Λ (bu a0)) (λhg=>rfl)<|cZ (S7 ET.length 2) (λhg=>rfl)<|cZ (ε kH.action.gD) (λhg=>by(try rw[hg]);(try simp only[cA]);exact(by rw[Lp Bj 0 rfl];rfl)) ?_;refine vH (ω:=(List bl)) (λxS=>(sl 11 bn xS)) (λhg xS ahV=>by(try rw[hg]);exact(dL (akC ahV))) (λxS ahV=>?_);refine cZ (AV.fn 157 [(S7 ET.length 0)]) (λhg=>rfl) ?_;refine vH (ω:=Bool) (λuZ=>(i7 uZ)) (λhg uZ ahX=>by(try rw[hg]);exact(dL ((rY (e:=λr:Bool=>((i7 r),zl)) (λhs=>aiu _ xS hs _ _ (λx=>(decide (x.au=kH.action.bw))) zl (λx hx=>arq Bj 0 rfl (OW _) (vF (Lb _)) rfl rfl (ajm (σ:=[]) (r:=(decide (x.au=kH.action.bw))) rfl)))) ahX))) (λuZ ahX=>?_);refine cZ (i7 (!uZ)) (λhg=>by(try rw[hg]);exact rfl)<|ay _ (ow _ _) ?_;refine jE (c:=((decide (kH.action.kind=3))&&(!uZ))) (λkO=>?_) (λkO=>?_)
  ·exact cz (iD (by simp) ⟨_,_,_,rfl,(Lc Bj)⟩)
  refine ay _ (fK XG auZ) ?_;exact cz (oA ⟨rfl,(asg Bj 0)⟩)
 ·intro hl xV v ET hI;obtain⟨rfl,XR⟩:=hI;refine ay _ (iu _)<|oC ?_;exact cz ⟨by simp,⟨_,_,_,_,rfl,XR⟩⟩
 ·intro hl GA q hq;obtain⟨u3,u6,Nw,G9,rfl,azG⟩:=hq;refine jl rfl ?_;exact eB _ (FF azG (IK (cN _ _))) ⟨rfl,rfl⟩
 ·intro hl GA q hq;obtain⟨u3,Nw,G9,rfl,azG⟩:=hq;refine tM rfl<|jl rfl ?_;exact eB _ (FF azG (IK (cN _ _))) ⟨rfl,rfl⟩
def KG (a0:ct) (a1:Int) (a2:(List cV)) (a3:Int) (a4:Int):Option ((List cV)×Int):=
 (Hv a0 a1 a2).bind λr1=>
 (if((decide (0<=a3))&&(decide (a3<=a4)))=η then Dv a1 else δ default).bind λr2=>
 (tq (([r1,(if(!(((decide (0<=a3))&&(decide (a3<=a4)))&&(decide (a4<=r2))))=η then 1 else 0)]:(List Int)).length<=aZ) ((([r1,(if(!(((decide (0<=a3))&&(decide (a3<=a4)))&&(decide (a4<=r2))))=η then 1 else 0)]:(List Int)).find? λn=>decide (¬n=0)).getD 0)).bind λr3=>
 if ¬(r3=0)then
  δ ([],r3)
 else
 kL a2 (λ(Zs:Nat)yV(s6:(List cV))=>(show Option (Lr (List cV) (List cV) Unit)from
   (show Option (List cV)from
     if((decide (a3<=yV.ep))&&(decide (yV.ep<a4)))=η then
      if s6.length+([yV]:(List cV)).length<=2932031007402 then
      δ (s6++([yV]:(List cV)))
      else ξ
     else
     δ s6).bind λRJ=>
   δ (.go RJ))) (λs6=>δ s6) ([]:List cV) (λb7=>
  δ (b7,0)) (λb7=>
  ξ)
theorem abL{a0:ct}{a1:Int}{a2:(List cV)}{a3:Int}{a4:Int}{σ:Heap}{r:((List cV)×Int)}(h:KG a0 a1 a2 a3 a4=δ r):KA [(Λ (bu a0)),(ε a1),(sl 6 dW a2),(ε a3),(ε a4)] σ=δ ((XF [(sl 6 dW r.1),(ε r.2)]),σ):=by
 refine aqJ (f:=aAV) (y0:=(Λ (bu a0))) (y1:=(ε a1)) (y2:=(sl 6 dW a2)) (y3:=(ε a3)) (y4:=(ε a4)) (enc:=λr:((List cV)×Int)=>(XF [(sl 6 dW r.1),(ε r.2)])) (T:=KG a0 a1 a2 a3 a4) rfl rfl ?_ r h;unfold aAV KG;refine ay _ rfl<|ay _ rfl ?_;refine iJ (λr1:Int=>((ε r1),σ)) (λr1 iB=>ajI iB) (λr1 iB=>?_);refine ay _ rfl<|cZ (ε a3) (λhg=>rfl)<|cZ (ε a4) (λhg=>rfl)<|cZ (i7 (decide (a3<=a4))) (λhg=>by(try rw[hg]);exact rfl)<|ay _ (ow _ _)<|cZ (ε a4) (λhg=>rfl)<|cZ (ε a1) (λhg=>rfl) ?_;refine vH (ω:=Int) (λr2=>(ε r2)) (λhg r2 mg=>by(try rw[hg]);exact(dL (TV mg))) (λr2 mg=>?_);refine cZ (i7 (decide (a4<=r2))) (λhg=>by(try rw[hg]);exact rfl)<|ay _ (ow _ _)<|ay _ rfl<|ay _ (oZ (!(((decide (0<=a3))&&(decide (a3<=a4)))&&(decide (a4<=r2)))) 1 σ)<|ay (sl 1 nT ([r1,(if(!(((decide (0<=a3))&&(decide (a3<=a4)))&&(decide (a4<=r2))))=η then 1 else 0)]:(List Int))) rfl ?_;refine iJ (λr3:Int=>((ε r3),σ)) (λr3 uV=>(rY (e:=λr:Int=>((ε r),σ)) (λhs=>wO ([r1,(if(!(((decide (0<=a3))&&(decide (a3<=a4)))&&(decide (a4<=r2))))=η then 1 else 0)]:(List Int)) hs σ)) uV) (λr3 uV=>?_);refine ay _ (fN _ _ _) ?_;refine kE (p:=¬(r3=0)) (λgR=>?_) (λgR=>?_)
 ·exact eB _ (bL _ _) ⟨(Q6 (jD (by first|rfl|exact VY _ _) (jD rfl D5))),rfl⟩
 refine ay _ (fJ _ _ _) ?_;have hp4:Hp σ σ []:=Ls σ;have aBf:Hp σ σ [(i6,(Ct.s 6 (V4 dW ([]:List cV))))]:=atM hp4 6;refine oz (B:=(List cV)) (R:=Unit) (λ(Zs:Nat)(s6:(List cV))v w8=>∃hh0,v=[hh0,(ε (Zs:Int))]/\Hp σ w8 [(hh0,(Ct.s 6 (V4 dW s6)))]) (λ(b7:(List cV))(q:LS)=>∃u42 hh0 w9,q=((Ψ 0),([hh0,u42]:an),w9)/\Hp σ w9 [(hh0,(Ct.s 6 (V4 dW b7)))]) (λ(b7:Unit)(q:LS)=>False) ?_ ?_ ⟨_,rfl,aBf⟩ ?_ ?_
 ·intro auU Zs yV s6 v w8 XA hI;obtain⟨hh0,rfl,Q3⟩:=hI;refine ay _ (gZ XA)<|oD<|ay _ (gy XA)<|ay _ rfl<|ay _ rfl<|ay _ (U5 _ _ rfl)<|ay _ rfl<|ay _ rfl<|cZ (ε yV.ep) (λhg=>rfl)<|cZ (ε a4) (λhg=>rfl)<|cZ (i7 (decide (yV.ep<a4))) (λhg=>by(try rw[hg]);exact rfl)<|ay _ (ow _ _) ?_
  refine Gg (ω:=(List cV)) (λRJ a=>∃hh0 G7,a=(([hh0]:an),G7)/\Hp σ G7 [(hh0,(Ct.s 6 (V4 dW RJ)))]) (
    by
     refine jE (c:=((decide (a3<=yV.ep))&&(decide (yV.ep<a4)))) (λjt=>?_) (λjt=>?_)
     ·refine ay _ rfl<|ay (sl 6 dW ([yV]:(List cV))) rfl ?_;refine ahh (λhm=>?_);obtain⟨YT,NG,e16,Ga⟩:=asb (c:=dW) (ys:=([yV]:(List cV))) (most:=2932031007402) Q3 0 rfl hm;change Hp σ NG [(YT,(Ct.s 6 (V4 dW (s6++([yV]:(List cV))))))]at Ga;refine ay _ e16 ?_;exact cz ⟨_,_,rfl,Ga⟩
     exact cz ⟨_,_,rfl,Q3⟩
    ) (λRJ a ha=>?_)
  obtain⟨hh0,G7,rfl,XP⟩:=ha;refine ay _ (fK XA auU) ?_;exact cz (oA ⟨_,rfl,XP⟩)
 ·intro hl s6 v w8 hI;obtain⟨hh0,rfl,Q3⟩:=hI;refine ay _ (iu _)<|oC ?_;exact cz ⟨by simp,⟨_,_,_,rfl,Q3⟩⟩
 ·intro hl b7 q hq;obtain⟨u42,hh0,w9,rfl,Jb⟩:=hq;refine jl rfl ?_;obtain⟨ra0,fa0,fb0⟩:=arW (c:=dW) (l:=b7) Jb (k:=0) rfl adg;exact eB _ (FF Jb (arX (adi fa0 (adi (IK (cN _ _)) aqc)))) ⟨(Q6 (jD (asA fb0) (jD rfl D5))),rfl⟩
 ·intro hl b7 q hq;exact False.elim hq
def Dp (a0:Int) (a1:Int):Option Int:=(AL a0).bind λr1=>(Dt (θ.wrap ((θ.wrap (a1*1000))*r1.2.1)) r1.1).bind λr2=>δ r2
theorem On{a0:Int}{a1:Int}{σ:Heap}{r:Int}(h:Dp a0 a1=δ r):BK [(ε a0),(ε a1)] σ=δ ((ε r),σ):=by refine uy (f:=Tk) (y0:=(ε a0)) (y1:=(ε a1)) (enc:=λr:Int=>(ε r)) (T:=Dp a0 a1) rfl rfl ?_ r h;unfold Tk Dp;refine iJ (λr1:(Int×Int×Bool)=>((XF [(ε r1.1),(ε r1.2.1),(i7 r1.2.2)]),σ)) (λr1 iB=>aa5 iB) (λr1 iB=>?_);refine ay _ rfl<|ay _ rfl<|ay _ rfl<|ay _ rfl<|ay _ rfl ?_;refine iJ (λr2:Int=>((ε r2),σ)) (λr2 mg=>abn mg) (λr2 mg=>?_);exact eB _ (bL _ _) ⟨rfl,rfl⟩
def Kn (a0:Int) (a1:Int):Option (Int×Int):=
 (Fc a0).bind λr1=>
 (Dv a0).bind λr2=>
 (tq (([r1,(if(!(aX a1 0 r2))=η then 1 else 0)]:(List Int)).length<=aZ) ((([r1,(if(!(aX a1 0 r2))=η then 1 else 0)]:(List Int)).find? λn=>decide (¬n=0)).getD 0)).bind λr3=>
 if ¬(r3=0)then
  δ (0,r3)
 else
 (Dp a0 a1).bind λr4=>
 δ (r4,0)
theorem akB{a0:Int}{a1:Int}{σ:Heap}{r:(Int×Int)}(h:Kn a0 a1=δ r):Td [(ε a0),(ε a1)] σ=δ ((XF [(ε r.1),(ε r.2)]),σ):=by
 refine uy (f:=az9) (y0:=(ε a0)) (y1:=(ε a1)) (enc:=λr:(Int×Int)=>(XF [(ε r.1),(ε r.2)])) (T:=Kn a0 a1) rfl rfl ?_ r h;unfold az9 Kn;refine iJ (λr1:Int=>((ε r1),σ)) (λr1 iB=>abm iB) (λr1 iB=>?_);refine iJ (λr2:Int=>((ε r2),σ)) (λr2 mg=>TV mg) (λr2 mg=>?_);refine ay _ (kJ a1 0 r2 σ)<|ay _ rfl<|ay _ (oZ (!(aX a1 0 r2)) 1 σ)<|ay (sl 1 nT ([r1,(if(!(aX a1 0 r2))=η then 1 else 0)]:(List Int))) rfl ?_;refine iJ (λr3:Int=>((ε r3),σ)) (λr3 uV=>(rY (e:=λr:Int=>((ε r),σ)) (λhs=>wO ([r1,(if(!(aX a1 0 r2))=η then 1 else 0)]:(List Int)) hs σ)) uV) (λr3 uV=>?_);refine ay _ (fN _ _ _) ?_;refine kE (p:=¬(r3=0)) (λc5=>?_) (λc5=>?_)
 ·exact eB _ (bL _ _) ⟨rfl,rfl⟩
 refine iJ (λr4:Int=>((ε r4),σ)) (λr4 JL=>On JL) (λr4 JL=>?_);exact eB _ (bL _ _) ⟨rfl,rfl⟩
def S9 (a0:Int):Option Bool:=δ (aX a0 0 36000000)
theorem aaL{a0:Int}{σ:Heap}{r:Bool}(h:S9 a0=δ r):wJ [(ε a0)] σ=δ ((i7 r),σ):=by refine ux (f:=S5) (y0:=(ε a0)) (enc:=λr:Bool=>(i7 r)) (T:=S9 a0) rfl rfl ?_ r h;unfold S5 S9;refine ay _ (kJ a0 0 36000000 σ) ?_;exact eB _ (bL _ _) ⟨rfl,rfl⟩
def KL (a0:ct):Option Bool:=
 kL a0.bZ (λ(i8:Nat)e7(s1:Unit)=>(show Option (Lr Unit Unit Bool)from
   kL e7.bg (λ(i16:Nat)tY(s9:Unit)=>(show Option (Lr Unit Unit Bool)from
     if 0<=tY.cM then
      δ (.ret ι)
     else
     δ (.go ()))) (λs9=>δ ()) () (λnC=>
    δ (.go ())) (λnC=>
    δ (.ret nC)))) (λs1=>δ ()) () (λb2=>
  δ η) (λb2=>
  δ b2)
theorem ank{a0:ct}{σ:Heap}{r:Bool}(h:KL a0=δ r):azX [(Λ (bu a0))] σ=δ ((i7 r),σ):=by
 refine ux (f:=Uy) (y0:=(Λ (bu a0))) (enc:=λr:Bool=>(i7 r)) (T:=KL a0) rfl rfl ?_ r h;unfold Uy KL;refine ay _ rfl<|ay (sl 2 eZ a0.bZ) rfl<|ay _ (fJ _ _ _) ?_;refine oz (B:=Unit) (R:=Bool) (λ(i8:Nat)(s1:Unit)v w3=>∃u2,v=[u2,(ε (i8:Int))]/\σ=w3) (λ(b2:Unit)(q:LS)=>∃u2 Nq,q=((Ψ 0),([u2,Nq]:an),σ)) (λ(b2:Bool)(q:LS)=>∃Nq,q=(n9,([(i7 b2),Nq]:an),σ)) ?_ ?_ ⟨_,rfl,rfl⟩ ?_ ?_
 ·intro Ae i8 e7 s1 v w3 nG hI;obtain⟨u2,rfl,rfl⟩:=hI;refine ay _ (gZ nG)<|oD<|ay _ (gy nG)<|ay _ rfl<|ay _ rfl<|ay _ (Iu _ _ rfl)<|ay (sl 11 bn e7.bg) rfl<|ay _ (fJ _ _ _) ?_;refine oz (B:=Unit) (R:=Bool) (λ(i16:Nat)(s9:Unit)v AI=>∃u2,v=[u2,(ε (i16:Int))]/\σ=AI) (λ(nC:Unit)(q:LS)=>∃u2 Nt,q=((Ψ 2),([u2,Nt]:an),σ)) (λ(nC:Bool)(q:LS)=>∃Nt,q=(n9,([(i7 nC),Nt]:an),σ)) ?_ ?_ ⟨_,rfl,rfl⟩ ?_ ?_
  ·intro LF i16 tY s9 v AI Ad hI;obtain⟨u2,rfl,rfl⟩:=hI;refine ay _ (gZ Ad)<|oD<|ay _ (gy Ad)<|ay _ rfl<|ay _ rfl<|ay _ (IE _ _ rfl)<|ay _ rfl<|ay _ rfl ?_;refine kE (p:=0<=tY.cM) (λmL=>?_) (λmL=>?_)
   ·exact cz (iD (by simp) ⟨_,rfl⟩)
   refine ay _ (fK Ad LF) ?_;exact cz (oA ⟨_,rfl,rfl⟩)
  ·intro hl s9 v AI hI;obtain⟨u2,rfl,rfl⟩:=hI;refine ay _ (iu _)<|oC ?_;exact cz ⟨by simp,⟨_,_,rfl⟩⟩
  ·intro hl nC q hq;obtain⟨u2,Nt,rfl⟩:=hq;refine jl rfl<|ay _ (fK nG Ae) ?_;exact cz (oA ⟨_,rfl,rfl⟩)
  ·intro hl nC q hq;obtain⟨Nt,rfl⟩:=hq;refine tM rfl<|jl rfl ?_;exact cz (iD (by simp) ⟨_,rfl⟩)
 ·intro hl s1 v w3 hI;obtain⟨u2,rfl,rfl⟩:=hI;refine ay _ (iu _)<|oC ?_;exact cz ⟨by simp,⟨_,_,rfl⟩⟩
 ·intro hl b2 q hq;obtain⟨u2,Nq,rfl⟩:=hq;refine jl rfl ?_;exact eB _ (bL _ _) ⟨rfl,rfl⟩
 ·intro hl b2 q hq;obtain⟨Nq,rfl⟩:=hq;refine tM rfl<|jl rfl ?_;exact eB _ (bL _ _) ⟨rfl,rfl⟩
end
section
def vN(r:Int):Int:=if r=24\/r=25\/r=30\/r=29 then 0 else 16
theorem agm(r:Int):Fc r=δ (vN r):=by
 unfold Fc AL vN;by_cases h1:r=24
 ·subst h1;rfl
 by_cases h2:r=25
 ·subst h2;rfl
 by_cases h3:r=30
 ·subst h3;rfl
 by_cases h4:r=29
 ·subst h4;rfl
 simp [h1,h2,h3,h4]
theorem acn{r:Int}(h:vN r=0):r=24\/r=25\/r=30\/r=29:=by
 unfold vN at h;split at h
 ·assumption
 ·cases h
def oI(r:Int):Int:=if r=29 then 2589408 else θ.wrap (86400*r)
theorem azV(r:Int):Dv r=δ (oI r):=by unfold Dv oI;split<;>rfl
def Cy (r n:Int):Int:=(Dp r n).getD 0
theorem QG{r:Int}(h:vN r=0)(n:Int):Dp r n=δ (Cy r n):=by
 have key:∀(x d:Int),θ.wrap (2*d)≠0->∃y,Dt x d=δ y:=by intro x d hd;unfold Dt HW Jn Jo;rw[aL hd,aL hd];simp only[aP];split<;>exact⟨_,rfl⟩
 have:∃y,Dp r n=δ y:=by
  unfold Dp;rcases acn h with rfl|rfl|rfl|rfl
  ·rw[show AL 24=δ (24,1,η)from rfl,aP];obtain⟨y,hy⟩:=key (θ.wrap ((θ.wrap (n*1000))*1)) 24 (by decide);exact⟨y,by rw[hy];rfl⟩
  ·rw[show AL 25=δ (25,1,η)from rfl,aP];obtain⟨y,hy⟩:=key (θ.wrap ((θ.wrap (n*1000))*1)) 25 (by decide);exact⟨y,by rw[hy];rfl⟩
  ·rw[show AL 30=δ (30,1,η)from rfl,aP];obtain⟨y,hy⟩:=key (θ.wrap ((θ.wrap (n*1000))*1)) 30 (by decide);exact⟨y,by rw[hy];rfl⟩
  ·rw[show AL 29=δ (30000,1001,η)from rfl,aP];obtain⟨y,hy⟩:=key (θ.wrap ((θ.wrap (n*1000))*1001)) 30000 (by decide);exact⟨y,by rw[hy];rfl⟩
 obtain⟨y,hy⟩:=this;unfold Cy;rw[hy];rfl
theorem atv(s:ct)(h1:s.aS.length<=aZ)(h2:fI Qp s.bZ)(n:Int):∃l,Dn s n=δ l/\l.length<=aZ:=by
 unfold Dn;rw[ac5 (q:=λe=>s.bZ.findSome? λx=>if e.au=n/\x.au=e.list then δ x.bg else ξ) h1 ?_]
 ·cases h:s.aS.findSome? λe=>s.bZ.findSome? λx=>if e.au=n/\x.au=e.list then δ x.bg else ξ with
  |none=>exact⟨_,rfl,kD _⟩
  |some l=>
   refine⟨_,rfl,?_⟩;obtain⟨e,_,he⟩:=aCl h;obtain⟨x,hx,hq⟩:=aCl he;split at hq
   ·injection hq with hq;rw[<-hq];exact(h2.2 x hx).2.1
   ·cases hq
 ·intro i e he;rw[ac5 (q:=λx=>if e.au=n/\x.au=e.list then δ x.bg else ξ) h2.1 ?_]
  ·cases s.bZ.findSome? λx=>if e.au=n/\x.au=e.list then δ x.bg else ξ<;>rfl
  ·intro j x hx;by_cases h1:e.au=n<;>by_cases h2:x.au=e.list<;>simp [h1,h2]
def LC (s:ct) (n:Int):List bl:=(Dn s n).getD []
theorem arz(s:ct)(h1:s.aS.length<=aZ)(h2:fI Qp s.bZ)(n:Int):Dn s n=δ (LC s n)/\(LC s n).length<=aZ:=by obtain⟨l,h3,h4⟩:=atv s h1 h2 n;unfold LC;rw[h3];exact⟨rfl,h4⟩
def I6 (s:ct) (d:Int) (l:List cV) (i:Nat) (e:cV):Int:=
 ([([(if(!(aX e.ep 0 (θ.wrap (d-1))))=η then 1 else 0),(if((decide (0<(i:Int)))&&(decide (e.ep<(pv l i).ep)))=η then 7 else 0)].find? λn:Int=>decide (¬n=0)).getD 0,qQ e.action,(if decide (¬(e.action.time=0))=η then 3 else 0),sB s e.action].find? λn:Int=>decide (¬n=0)).getD 0
def Qi (s:ct) (d:Int) (l:List cV) (i:Nat) (e:cV):Int:=
 if ¬(I6 s d l i e=0)then I6 s d l i e else if(decide (e.action.kind=3)&&!((LC s e.action.gD).any λx=>decide (x.au=e.action.bw)))=η then 8 else 0
def DC (s:ct) (r:Int) (l:List cV):Int:=
 if ¬(([wV s,vN r,if decide (2000<(l.length:Int))=η then 2 else 0].find? λn:Int=>decide (¬n=0)).getD 0=0)then([wV s,vN r,if decide (2000<(l.length:Int))=η then 2 else 0].find? λn:Int=>decide (¬n=0)).getD 0 else iW (Qi s (oI r) l) l 0
theorem apz(s:ct)(hs:rQ s)(r:Int)(l:List cV)(hl:l.length<=aZ):Hv s r l=δ (DC s r l):=by
 obtain⟨_,_,Rz,hb⟩:=id hs;unfold Hv DC;simp only[abe s hs,agm,aP];rw[qg (by show 3<=aZ;unfold aZ;omega)];simp only[aP];by_cases h0:([wV s,vN r,if decide (2000<(l.length:Int))=η then 2 else 0].find? λn:Int=>decide (¬n=0)).getD 0=0;case neg=>rw[aO h0,aO h0]
 rw[aL (λq=>q h0),aL (λq=>q h0)];rw[BP (f:=Qi s (oI r) l) hl ?_]
 ·split
  ·rename_i h;rw[h]
  ·rfl
 intro i e he;simp only[azV,aP,Fy he hl];rw[qg (by show 2<=aZ;unfold aZ;omega)];simp only[aP,aAM,aAG hb.1];rw[qg (by show 4<=aZ;unfold aZ;omega)];simp only[aP];show(if ¬(I6 s (oI r) l i e=0)then _ else _)=_;unfold Qi;by_cases h1:I6 s (oI r) l i e=0;case neg=>simp only[h1,not_false_eq_true,if_true,if_false];rfl
 simp only[h1,not_true_eq_false,if_false];obtain⟨c1,c2⟩:=arz s hb.1 Rz e.action.gD;by_cases h3:e.action.kind=3
 ·simp only[h3,decide_true,if_true,c1,aP,qg c2,Bool.true_and];cases(LC s e.action.gD).any λx=>decide (x.au=e.action.bw)<;>simp
 ·simp [h3]
def Yd(a b:Int)(l:List cV):List cV:=l.filter λe=>decide (a<=e.ep)&&decide (e.ep<b)
def jY (s:ct) (r:Int) (l:List cV) (a b:Int):List cV×Int:=
 if ¬(DC s r l=0)then([],DC s r l)else if 0<=a/\a<=b/\b<=oI r then(Yd a b l,0)else([],1)
theorem arN{a b c:Int}(h:(([a,b,c]:List Int).find? λn=>decide (¬n=0)).getD 0=0):a=0/\b=0/\c=0:=by
 by_cases ha:a=0
 ·by_cases hb:b=0
  ·by_cases hc:c=0
   ·exact⟨ha,hb,hc⟩
   ·simp [S4,ha,hb,hc]at h
  ·simp [S4,ha,hb]at h
 ·simp [S4,ha]at h
structure WN (s : ct) (r : Int) (l : List cV) : Prop where
 set:wV s=0
 mode:vN r=0
 len:l.length<=2000
 act:∀e∈l,qQ e.action=0/\e.action.time=0/\sB s e.action=0
theorem ahB{s:ct}{r:Int}{l:List cV}(h:DC s r l=0):WN s r l:=by
 unfold DC at h;by_cases h0:([wV s,vN r,if decide (2000<(l.length:Int))=η then 2 else 0].find? λn:Int=>decide (¬n=0)).getD 0=0;case neg=>rw[aO h0]at h;exact absurd h h0
 rw[aL (λq=>q h0)]at h;obtain⟨k1,k2,k3⟩:=arN h0;refine⟨k1,k2,?_,λe he=>?_⟩
 ·by_cases q:2000<(l.length:Int)
  ·rw[cB q,aO rfl]at k3;cases k3
  ·omega
 obtain⟨i,hi⟩:=pK.1 he;have:=(wM _ _).1 h i e hi;unfold Qi at this;rw[WW]at this;by_cases h1:I6 s (oI r) l i e=0;case neg=>rw[aO h1]at this;exact absurd this h1
 unfold I6 at h1;obtain⟨_,q2,q3,q4⟩:=ae4 h1;refine⟨q2,?_,q4⟩;by_cases q:e.action.time=0
 ·exact q
 ·rw[cB q,aO rfl]at q3;cases q3
theorem abh{α:Type}(p:α->Bool):∀(l acc:List α),l.foldl (λs x=>if p x=η then s++[x]else s) acc=acc++l.filter p
 |[],acc=>by simp
 |x::l,acc=>by rw[List.foldl_cons,abh p l,List.filter_cons];cases p x<;>simp
theorem aoy{γ:Type}{l:List cV}{a b:Int}(hl:l.length<=2000){body:Nat->cV->List cV->Option (Lr (List cV) (List cV) Unit)}{K1:List cV->Option γ}{K2:Unit->Option γ}
  (hb:∀i e s,body i e s=(if(decide (a<=e.ep)&&decide (e.ep<b))=η then(if s.length+([e]:List cV).length<=2932031007402 then δ (s++[e])else ξ)else δ s).bind λj=>δ (.go j)):
  kL l body (λs=>δ s) [] K1 K2=K1 (Yd a b l):=by
 rw[KM (λs e=>if(decide (a<=e.ep)&&decide (e.ep<b))=η then s++[e]else s) (λi s=>s.length<=i) (by unfold aZ;omega) (bF _) ?_ ?_]
 ·rw[abh];rfl
 ·intro i x s hx hs;show VN (if(decide (a<=x.ep)&&decide (x.ep<b))=η then s++[x]else s)<=i+1;split
  ·simp;omega
  ·omega
 ·intro i x s hx hs;have hi:=(bD.1 hx).1;rw[hb];by_cases h:(decide (a<=x.ep)&&decide (x.ep<b))=η
  ·simp only[h,if_true];rw[aO (by simp;omega)];rfl
  ·simp only[h,if_false,UP];rfl
theorem ag4(s:ct)(hs:rQ s)(r:Int)(l:List cV)(hl:l.length<=aZ)(a b:Int):KG s r l a b=δ (jY s r l a b):=by
 unfold KG jY;simp only[apz s hs r l hl,aP,azV,ite_self];have e0:(if((decide (0<=a))&&(decide (a<=b)))=η then δ (oI r)else δ default:Option Int)=δ (if((decide (0<=a))&&(decide (a<=b)))=η then oI r else default):=by split<;>rfl
 rw[e0];simp only[aP];rw[qg (by show 2<=aZ;unfold aZ;omega)];simp only[Qv,aP];by_cases h0:DC s r l=0;case neg=>simp [h0]
 have hE:=ahB h0
 have e:(!(((decide (0<=a))&&(decide (a<=b)))&&(decide (b<=if((decide (0<=a))&&(decide (a<=b)))=η then oI r else default))))=decide (¬(0<=a/\a<=b/\b<=oI r)):=by by_cases q1:0<=a<;>by_cases q2:a<=b<;>by_cases q3:b<=oI r<;>simp [q1,q2,q3]<;>omega
 rw[e];simp only[h0,not_true_eq_false,if_false];by_cases hq:0<=a/\a<=b/\b<=oI r;case neg=>simp [hq]
 simp only[hq,not_true_eq_false,decide_false,UP,if_false,and_self,if_true];rw[aoy (a:=a) (b:=b) hE.len (λi e s=>rfl)]
theorem ahy{α:Type}{p:α->Bool}{l:List α}{x:α}(h:l.find? p=δ x):l.any p=η:=Tg.2 ⟨x,zV h,aCW h⟩
def DV(s:ct):Bool:=!(s.bZ.any λl=>l.bg.any λc=>decide (0<=c.cM))
theorem asO(s:ct)(hs:rQ s):KL s=δ (DV s):=by
 obtain⟨_,_,Rz,_⟩:=id hs;unfold KL DV;rw[aBy (p:=λl:jU=>l.bg.any λc=>decide (0<=c.cM)) (r:=λ_=>ι) Rz.1 ?_]
 ·cases h:s.bZ.find? λl=>l.bg.any λc=>decide (0<=c.cM)with
  |none=>
   have:(s.bZ.any λl=>l.bg.any λc=>decide (0<=c.cM))=ι:=by rw[aB0];intro k;obtain⟨x,hx,hp⟩:=Tg.1 k;exact U0.1 h x hx hp
   simp only[this];rfl
  |some x=>have:(s.bZ.any λl=>l.bg.any λc=>decide (0<=c.cM))=η:=ahy h;simp only[this];rfl
 ·intro i e he;rw[aBy (p:=λc:bl=>decide (0<=c.cM)) (r:=λ_=>ι) (Rz.2 e (cE he)).2.1 ?_]
  ·cases h:e.bg.find? λc=>decide (0<=c.cM)with
   |none=>
    have:(e.bg.any λc=>decide (0<=c.cM))=ι:=by rw[aB0];intro k;obtain⟨x,hx,hp⟩:=Tg.1 k;exact U0.1 h x hx hp
    simp only[this];rfl
   |some x=>have:(e.bg.any λc=>decide (0<=c.cM))=η:=ahy h;simp only[this];rfl
  ·intro j x hx;by_cases q:0<=x.cM<;>simp [q]
theorem apg{s:ct}(h:DV s=η):∀l∈s.bZ,∀c∈l.bg,c.cM<0:=by
 intro l hl c hc;refine Int.not_le.1 λq=>?_
 unfold DV at h;have:(s.bZ.any λl=>l.bg.any λc=>decide (0<=c.cM))=η:=Tg.2 ⟨l,hl,Tg.2 ⟨c,hc,by simpa using q⟩⟩;rw[this]at h;cases h
end
end
end Go.Proofs.YtmjgmpmhipenjaaGreat
