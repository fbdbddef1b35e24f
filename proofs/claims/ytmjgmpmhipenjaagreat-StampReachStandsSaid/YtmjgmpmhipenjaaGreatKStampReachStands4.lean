/- Parts of the proof of StampReachStands, in order. -/
import Derived.Laws.Externs
import Derived.Test.YtmjgmpmhipenjaaGreatKStampReachStands3
namespace Go.Proofs.YtmjgmpmhipenjaaGreat
set_option linter.unusedVariables false
set_option linter.unusedSimpArgs false
set_option linter.unusedSectionVars false
set_option maxRecDepth 1000000
noncomputable section
open List renaming range'_succ->aCC,map_map->Zc,set_cons_succ->aBU,replicate->Z5,any_eq_true->Tg,take_append_drop->Wb,getElem?_cons_succ->Yw,eraseIdx_eq_take_drop_succ->YC,length_cons->R7,map_nil->Wf,nil_append->Tp,find?_some->aCW,pairwise_cons->Tc,set_cons_zero->aCg,length_range'->ZS,map_append->V8,append_nil->TU,find?_append->T3,getElem?_drop->YF,map_congr_left->TA,getElem?_take_of_lt->Vh,singleton_append->aBY,length_nil->TZ,length_append->Ve,range'->Tz,drop_zero->Tq,find?->S4,getElem?_take->aBQ,pairwise_append->aCr,size_toArray->Y9,map->V4,mem_singleton->Un,pairwise_iff_getElem->T4,find?_eq_none->U0,length_map->Z7,getD_eq_getElem?_getD->aCN,flatMap_cons->Vi,mem_cons_self->XJ
open A renaming az->Φ,neq->Uq,loop->p7,append->Uv,cQ->YS,cond->Γ,lb->ZE,mul->WR,guard->μ,deref->χ,quiet->wh,nn->Wo,bH->Wr,look->WK,fD->UC,cell->Θ,wrap->Ω,eql->Wn,bC->SD,add->Z8,sub->T6,iter->U1,ak->φ,lss->Sq,entries->Tn,aN->p5,aF->l7,cells->ψ,not->Yr,ext->TH,tab->ZG,fR->Uj,fin->l6,cU->UZ,storeAt->l8,find->XS,pick->p9,dZ->ZY
open fU renaming nil->Su,cons->V9
open Option renaming any_some->aCD,map_none->SX,none->ξ,getD_none->Va,some->δ,getD_some->SG
open AV renaming aA->i6,om->Vq,ah->ε,rp->Sf,agg->Λ,bool->i7,sl->SQ,aM->XF,lbx->p6,int->Z6,np->Wp
open Nat renaming lt_irrefl->aCp,mul_le_mul->Wa,mul_left_comm->Zv,zero_add->WW,sub_self->Wz,le_trans->X8,mul_comm->Wx,mul_add->XE,mul_assoc->aB3,not_lt_zero->aBP
open Classical renaming choose_spec->ZR,choose->V7
open Bool renaming not_eq_false'->aCd,false_eq_true->UP,eq_false_iff->aB0,false_and->Uu,false->ι,true->η
open Eq renaming refl->aCk
open Sound renaming wrap->Z9,yN->YB,none->X2,Gh->aC0,pM->Vu,oJ->aB2
open Go.Lib renaming bitLen->XK,compareBytes->Ux
open aT renaming map->YE,box->Sd
open Int renaming toNat_of_nonneg->SN,natCast_mul->aCE,lt_irrefl->WG,toNat_natCast->Tl
open eC renaming of->UJ
open AX renaming normal->l9,exit->Ψ,ret->n9
open _root_.Array renaming length_toList->YO,getElem?_toList->Ta
open Decidable renaming not_not->aC2
open Ct renaming m->aBX
open Option.some renaming injEq->Δ
open aG renaming cons->Ξ,nil->p4
open Prod.mk renaming injEq->j0
open List.Pairwise renaming nil->SE
open Go.IntKind renaming u64->Xl,i64->θ
open IntKind renaming i64->θ
open Go.World renaming cell?->XV
theorem HY(n:Int)(σ:Heap):Kb [.ah n] σ=δ (.bool (aX n 0 65535),σ):=by refine wrap_eq rfl ?_ rfl;show SK _ σ=_;unfold SK;simp only[aW,reduceCtorEq,kJ]
theorem akz(l:List qU)(hok:fI VZ l)(σ:Heap):aBh [sl 3 ou l] σ=δ (.ah (BY l),σ):=by
 refine wrap_eq rfl ?_ rfl;show Sv (sl 3 ou l) σ=_;unfold Sv BY;simp only[aW,reduceCtorEq];by_cases Ro:30<l.length
 ·have Mf:(30:Int)<l.length:=by omega
  simp only[aW,reduceCtorEq,Ro,Mf]
 ·have Mf:¬(30:Int)<l.length:=by omega
  simp only[aW,reduceCtorEq,Ro,Mf]
  refine(qP (S:=Unit) (R:=Int) l (λpre x _=>
    if aX x.low 0 65535=ι\/aX x.high 0 65535=ι\/x.high<x.low then .out 1
    else if 0<pre.length/\x.low<=(pre.getLast?.map (·.high)).getD 0 then .out 7
    else if xg x.name=ι then .out 5
    else if kM x.name (pre.map (·.name))=η then .out 6 else .go ())
   (λpre _=>[.ah 0,.ah (pre.length:Int)]) (λpre _=>σ++[YE (nX (·.name) pre)])
   (λ_=>(.exit 0,[.ah 0,.ah (l.length:Int)],σ++[YE (nX (·.name) l)])) (λpre _ r=>(.ret,[.ah r,.ah (pre.length:Int)],σ++[YE (nX (·.name) pre)]))
   (λ_ _=>True) () (λ_=>δ (ε 0,σ)) (λr=>δ (ε r,σ)) ?_ ?_ trivial (λ_ _ _ _ _ _ _ _=>trivial) ?_ ?_).trans ?_
  ·intro pre x rest u hl _;have hx:=qT hl;have hlt:=tK hl;have hi1:θ.wrap ((pre.length:Int)+1)=(pre.length:Int)+1:=cO (by unfold aU;omega);have hi2:θ.wrap ((pre.length:Int) -1)=(pre.length:Int) -1:=cO (by unfold aU;omega);have hlt':(pre.length:Int)<(l.length:Int):=by omega
   have hnm:=(hok.2 x (by rw[hl];simp)).2.2;have kI:=mR 3 ou l hx;have hN:=PN _ hnm;by_cases h0:0<pre.length
   ·obtain⟨y,hy,hy2⟩:=aey hl h0;have XI:=OX 3 ou l h0 hy2;have tZ:(0:Int)<pre.length:=by omega
    clear hl hx hlt hok Ro Mf hy2 hnm;simp only[aW,reduceCtorEq,ON,OO,OP,Pg,O8,Pm,hlt',kI,HY,hi1,hi2,hN,tZ,hy,h0]
    repeat' ((first|rw[C2]|rw[C1]|rw[CX]|rw[Cq]|rw[CW]|rw[CV]);split<;>try simp only[aW,reduceCtorEq,ON,OO,OP,Pg,O8,Pm,HY, *])
    all_goals first|with_reducible rfl|(simp [*];done)|(simp_all;done)|(simp_all;omega)|rfl
   ·have tZ:¬(0:Int)<pre.length:=by omega
    clear hl hx hlt hok Ro Mf hnm;simp only[aW,reduceCtorEq,ON,OO,OP,Pg,O8,Pm,hlt',kI,HY,hi1,hi2,hN,tZ,h0]
    repeat' ((first|rw[C2]|rw[C1]|rw[CX]|rw[Cq]|rw[CW]|rw[CV]);split<;>try simp only[aW,reduceCtorEq,ON,OO,OP,Pg,O8,Pm,HY, *])
    all_goals first|with_reducible rfl|(simp [*];done)|(simp_all;done)|(simp_all;omega)|rfl
  ·intro u _;simp only[aW,reduceCtorEq,WG]
  ·intro u _;simp only[aW,reduceCtorEq]
  ·intros;simp only[aW,reduceCtorEq]
  ·refine(O4 (xG:=QV) ?_ ?_ (λn=>δ (ε n,σ)) l []).trans ?_
   ·intro pre;rfl
   ·intro pre x rest;rw[QV];simp only[II,DO,DX]
   ·rfl
theorem aki(p:eA)(hok:Pe p)(σ:Heap):Sm [.agg (dF p)] σ=δ (.ah (tF p),σ):=by
 refine wrap_eq rfl ?_ rfl;show azZ (.agg (dF p)) σ=_;obtain⟨pn,ps,l⟩:=p;obtain⟨hnm,hps,XO⟩:=hok;simp only at hnm hps XO;have hN:=PN _ hnm;unfold azZ tF;simp only[aW,reduceCtorEq,tc,ur,td,uv,uu,uw,hN,kJ];cases hn:xg pn
 ·simp only[aW,reduceCtorEq]
 cases hz:aX ps 1 512
 ·simp only[aW,reduceCtorEq]
 by_cases h0:l.length=0
 ·obtain rfl:l=[]:=vQ h0;simp [aW,reduceCtorEq]
 have tZ:¬(l.length:Int)=0:=by omega
 by_cases YU:40<l.length
 ·have QY:(40:Int)<l.length:=by omega
  simp only[aW,reduceCtorEq,h0,tZ,YU,QY]
 have QY:¬(40:Int)<l.length:=by omega
 simp only[aW,reduceCtorEq,h0,tZ,YU,QY]
 refine(qP (S:=Unit) (R:=Int) l (λpre x _=>
   if xg x.name=ι then .out 5
   else if kM x.name (pre.map (·.name))=η then .out 6
   else if aX x.group 1 4=ι then .out 4
   else if aX x.ep 1 ps=ι\/aX x.nV 0 ps=ι\/aX x.default 0 65535=ι then .out 1
   else if x.ep=x.nV\/kM x.ep (slotsOf pre)=η\/(0<x.nV/\kM x.nV (slotsOf pre)=η)then .out 12
   else if BY x.ranges=0 then .go ()else .out (BY x.ranges))
  (λpre _=>[.lbx (dF ⟨pn,ps,l⟩),.ah 0,.ah (pre.length:Int)]) (λpre _=>σ++[YE (nX (·.name) pre),YE (tU id (slotsOf pre))])
  (λ_=>(.exit 1,[.lbx (dF ⟨pn,ps,l⟩),.ah 0,.ah (l.length:Int)],σ++[YE (nX (·.name) l),YE (tU id (slotsOf l))]))
  (λpre _ r=>(.ret,[.lbx (dF ⟨pn,ps,l⟩),.ah r,.ah (pre.length:Int)],σ++[YE (nX (·.name) pre),YE (tU id (slotsOf pre))]))
  (λ_ _=>True) () (λ_=>δ (ε 0,σ)) (λr=>δ (ε r,σ)) ?_ ?_ trivial (λ_ _ _ _ _ _ _ _=>trivial) ?_ ?_).trans ?_
 ·intro pre x rest u hl _;have hx:=qT hl;have hlt:=tK hl;have hi1:θ.wrap ((pre.length:Int)+1)=(pre.length:Int)+1:=cO (by unfold aU;omega);have hi2:θ.wrap ((pre.length:Int) -1)=(pre.length:Int) -1:=cO (by unfold aU;omega);have hlt':(pre.length:Int)<(l.length:Int):=by omega
  obtain⟨k1,k2,k3,k4,k5,k6⟩:=XO.2 x (by rw[hl];simp);have hNx:=PN _ k1;have hRx:=akz _ k6;have kI:=mR 7 gm l hx;clear hl hx hlt XO YU QY h0 tZ k1 k2 k3 k4 k5 k6 hnm hps hN hn hz;simp only[aW,reduceCtorEq,OM,TX,TY,azO,T0,aA9,aAx,aBz,azk,Pk,tc,ur,td,uv,uu,uw,hlt',kI,kJ,HY,hi1,hi2,hNx,hRx,List.map_id]
  repeat' ((first|rw[C2]|rw[C1]|rw[CX]|rw[Cq]|rw[CW]|rw[CV]);split<;>try simp only[aW,reduceCtorEq,OM,TX,TY,azO,T0,aA9,aAx,aBz,azk,Pk,tc,ur,td,uv,uu,uw,kJ,HY,List.map_id,adD,ao1,Bool.or_false, *])
  all_goals first|rfl|(simp_all;done)|(simp_all [abw,adD];done)|(simp only[abw,ite_false,ite_true,if_false,if_true, *]<;>simp_all)
 ·intro u _;simp only[aW,reduceCtorEq,WG]
 ·intro u _;simp only[aW,reduceCtorEq]
 ·intros;simp only[aW,reduceCtorEq]
 ·refine(O4 (xG:=Eg ps) ?_ ?_ (λn=>δ (ε n,σ)) l []).trans ?_
  ·intro pre;rfl
  ·intro pre x rest;rw[Eg];simp only[II,DO,DX]
  ·rfl
theorem akh(l:List eA)(hok:fI Pe l)(σ:Heap):Sk [sl 3 dF l] σ=δ (.ah (Ak l),σ):=by
 refine wrap_eq rfl ?_ rfl;show Sn (sl 3 dF l) σ=_;unfold Sn Ak;simp only[aW,reduceCtorEq];by_cases JB:60<l.length
 ·have Ej:(60:Int)<l.length:=by omega
  simp only[aW,reduceCtorEq,JB,Ej]
 have Ej:¬(60:Int)<l.length:=by omega
 simp only[aW,reduceCtorEq,JB,Ej]
 refine(qP (S:=Unit) (R:=Int) l (λpre x _=>if tF x=0 then(if kM x.name (pre.map (·.name))=η then .out 6 else .go ())else .out (tF x))
  (λpre _=>[.ah 0,.ah (pre.length:Int)]) (λpre _=>σ++[YE (nX (·.name) pre)])
  (λ_=>(.exit 0,[.ah 0,.ah (l.length:Int)],σ++[YE (nX (·.name) l)])) (λpre _ r=>(.ret,[.ah r,.ah (pre.length:Int)],σ++[YE (nX (·.name) pre)]))
  (λ_ _=>True) () (λ_=>δ (ε 0,σ)) (λr=>δ (ε r,σ)) ?_ ?_ trivial (λ_ _ _ _ _ _ _ _=>trivial) ?_ ?_).trans ?_
 ·intro pre x rest u hl _;have hx:=qT hl;have hlt:=tK hl;have hi1:θ.wrap ((pre.length:Int)+1)=(pre.length:Int)+1:=cO (by unfold aU;omega);have hi2:θ.wrap ((pre.length:Int) -1)=(pre.length:Int) -1:=cO (by unfold aU;omega);have hlt':(pre.length:Int)<(l.length:Int):=by omega
  have hP:=aki x (hok.2 x (by rw[hl];simp));have kI:=mR 3 dF l hx;clear hl hx hlt hok JB Ej;simp only[aW,reduceCtorEq,tc,ur,td,uv,uu,uw,hlt',kI,hi1,hP]
  repeat' ((first|rw[C2]|rw[C1]|rw[CX]|rw[Cq]|rw[CW]|rw[CV]);split<;>try simp only[aW,reduceCtorEq,tc,ur,td,uv,uu,uw, *])
  all_goals first|with_reducible rfl|(simp [*];done)|(simp_all;done)|(simp_all;omega)|rfl
 ·intro u _;simp only[aW,reduceCtorEq,WG]
 ·intro u _;simp only[aW,reduceCtorEq]
 ·intros;simp only[aW,reduceCtorEq]
 ·refine(O4 (xG:=Ef) ?_ ?_ (λn=>δ (ε n,σ)) l []).trans ?_
  ·intro pre;rfl
  ·intro pre x rest;rw[Ef];simp only[II,DO,DX]
  ·rfl
theorem Vm{α:Type}(p:α->Bool)(l:List α):decide (0<=jM p l)=l.any p:=by
 rcases wL p l with⟨h1,h2,_⟩|⟨k,x,h1,h2,h3,_⟩
 ·rw[h1,qn];simp only[decide_eq_true_eq,Tg];exact⟨λh=>by omega,λ⟨x,hx,hp⟩=>by rw[h2 x hx]at hp;cases hp⟩
 ·rw[h3,qn];simp only[decide_eq_true_eq,Tg];exact⟨λ_=>⟨x,cE h1,h2⟩,λ_=>by omega⟩
theorem ait(dyn:Nat->an->Heap->aC)(l:List eA)(hl:l.length<=aZ)(n:Nat)(caps:an)(p:eA->Bool)(σ:Heap)(hd:∀x∈l,dyn n ((.agg (dF x):AV)::caps) σ=δ (.bool (p x),σ)):NP dyn [sl 3 dF l,.fn n caps] σ=δ (.ah (jM p l),σ):=by
 refine wrap_eq rfl ?_ rfl;show NQ dyn (sl 3 dF l) (.fn n caps) σ=_;unfold NQ;simp only[aW,reduceCtorEq]
 refine(qP (S:=Unit) (R:=Int) l (λpre x _=>if p x=η then .out (pre.length:Int)else .go ())
  (λpre _=>[.ah 0,.ah (pre.length:Int)]) (λ_ _=>σ) (λ_=>(.exit 0,[.ah 0,.ah (l.length:Int)],σ)) (λpre _ r=>(.ret,[.ah (pre.length:Int),.ah (pre.length:Int)],σ))
  (λ_ _=>True) () (λ_=>δ (ε (-1),σ)) (λr=>δ (ε r,σ)) ?_ ?_ trivial (λ_ _ _ _ _ _ _ _=>trivial) ?_ ?_).trans ?_
 ·intro pre x rest u hl' _;have hx:=qT hl';have hlt:=tK hl';have hi1:θ.wrap ((pre.length:Int)+1)=(pre.length:Int)+1:=cO (by unfold aU;unfold aZ at hl;omega);have hlt':(pre.length:Int)<(l.length:Int):=by omega
  have kI:=mR 3 dF l hx;have oT:=hd x (by rw[hl'];simp);simp only[aW,reduceCtorEq,tc,ur,td,uv,uu,uw,hlt',kI,A.jC,mq,Tp,oT,hi1];cases p x<;>simp [aW,reduceCtorEq]
 ·intro u _;simp only[aW,reduceCtorEq,WG]
 ·intro u _;simp only[aW,reduceCtorEq]
 ·intro pre x rest s q hl' _ hb
  have:q=(pre.length:Int):=by
   cases hpx:p x
   ·rw[hpx]at hb;cases hb
   ·rw[hpx]at hb;simp at hb;exact hb.symm
  simp only[aW,reduceCtorEq,this]
 ·rw[DA p _ _ l [] (by simp)];simp only[Tp];split
  ·rename_i h;rw[h]
  ·rfl
theorem aiD(dyn:Nat->an->Heap->aC)(l:List gz)(hl:l.length<=aZ)(n:Nat)(caps:an)(p:gz->Bool)(σ:Heap)(hd:∀x∈l,dyn n ((.agg (gE x):AV)::caps) σ=δ (.bool (p x),σ)):JU dyn [sl 8 gE l,.fn n caps] σ=δ (.ah (jM p l),σ):=by
 refine wrap_eq rfl ?_ rfl;show NY dyn (sl 8 gE l) (.fn n caps) σ=_;unfold NY;simp only[aW,reduceCtorEq]
 refine(qP (S:=Unit) (R:=Int) l (λpre x _=>if p x=η then .out (pre.length:Int)else .go ())
  (λpre _=>[.ah 0,.ah (pre.length:Int)]) (λ_ _=>σ) (λ_=>(.exit 0,[.ah 0,.ah (l.length:Int)],σ)) (λpre _ r=>(.ret,[.ah (pre.length:Int),.ah (pre.length:Int)],σ))
  (λ_ _=>True) () (λ_=>δ (ε (-1),σ)) (λr=>δ (ε r,σ)) ?_ ?_ trivial (λ_ _ _ _ _ _ _ _=>trivial) ?_ ?_).trans ?_
 ·intro pre x rest u hl' _;have hx:=qT hl';have hlt:=tK hl';have hi1:θ.wrap ((pre.length:Int)+1)=(pre.length:Int)+1:=cO (by unfold aU;unfold aZ at hl;omega);have hlt':(pre.length:Int)<(l.length:Int):=by omega
  have kI:=mR 8 gE l hx;have oT:=hd x (by rw[hl'];simp);simp only[aW,reduceCtorEq,anv,anw,anx,anz,anA,anB,anC,anD,alG,akH,aqB,apM,PK,hlt',kI,A.jC,mq,Tp,oT,hi1];cases p x<;>simp [aW,reduceCtorEq]
 ·intro u _;simp only[aW,reduceCtorEq,WG]
 ·intro u _;simp only[aW,reduceCtorEq]
 ·intro pre x rest s q hl' _ hb
  have:q=(pre.length:Int):=by
   cases hpx:p x
   ·rw[hpx]at hb;cases hb
   ·rw[hpx]at hb;simp at hb;exact hb.symm
  simp only[aW,reduceCtorEq,this]
 ·rw[DA p _ _ l [] (by simp)];simp only[Tp];split
  ·rename_i h;rw[h]
  ·rfl
theorem aas(dyn:Nat->an->Heap->aC)(l:List bl)(hl:l.length<=aZ)(n:Nat)(caps:an)(p:bl->Bool)(σ:Heap)(hd:∀x∈l,dyn n ((.agg (bn x):AV)::caps) σ=δ (.bool (p x),σ)):EU dyn [sl 11 bn l,.fn n caps] σ=δ (.ah (jM p l),σ):=by
 refine wrap_eq rfl ?_ rfl;show N1 dyn (sl 11 bn l) (.fn n caps) σ=_;unfold N1;simp only[aW,reduceCtorEq]
 refine(qP (S:=Unit) (R:=Int) l (λpre x _=>if p x=η then .out (pre.length:Int)else .go ())
  (λpre _=>[.ah 0,.ah (pre.length:Int)]) (λ_ _=>σ) (λ_=>(.exit 0,[.ah 0,.ah (l.length:Int)],σ)) (λpre _ r=>(.ret,[.ah (pre.length:Int),.ah (pre.length:Int)],σ))
  (λ_ _=>True) () (λ_=>δ (ε (-1),σ)) (λr=>δ (ε r,σ)) ?_ ?_ trivial (λ_ _ _ _ _ _ _ _=>trivial) ?_ ?_).trans ?_
 ·intro pre x rest u hl' _;have hx:=qT hl';have hlt:=tK hl';have hi1:θ.wrap ((pre.length:Int)+1)=(pre.length:Int)+1:=cO (by unfold aU;unfold aZ at hl;omega);have hlt':(pre.length:Int)<(l.length:Int):=by omega
  have kI:=mR 11 bn l hx;have oT:=hd x (by rw[hl'];simp);simp only[aW,reduceCtorEq,UX,ao6,UY,adw,azY,adx,ao7,ao8,ao9,ady,acp,Tr,Lg,PR,IE,hlt',kI,A.jC,mq,Tp,oT,hi1];cases p x<;>simp [aW,reduceCtorEq]
 ·intro u _;simp only[aW,reduceCtorEq,WG]
 ·intro u _;simp only[aW,reduceCtorEq]
 ·intro pre x rest s q hl' _ hb
  have:q=(pre.length:Int):=by
   cases hpx:p x
   ·rw[hpx]at hb;cases hb
   ·rw[hpx]at hb;simp at hb;exact hb.symm
  simp only[aW,reduceCtorEq,this]
 ·rw[DA p _ _ l [] (by simp)];simp only[Tp];split
  ·rename_i h;rw[h]
  ·rfl
theorem aiu(dyn:Nat->an->Heap->aC)(l:List bl)(hl:l.length<=aZ)(n:Nat)(caps:an)(p:bl->Bool)(σ:Heap)(hd:∀x∈l,dyn n ((.agg (bn x):AV)::caps) σ=δ (.bool (p x),σ)):NR dyn [sl 11 bn l,.fn n caps] σ=δ (.bool (l.any p),σ):=by refine wrap_eq rfl ?_ rfl;show NS dyn (sl 11 bn l) (.fn n caps) σ=_;unfold NS;simp only[aW,reduceCtorEq,aas dyn l hl n caps p σ hd];refine congrArg δ (congrArg (λb=>(i7 b,σ)) ?_);exact Vm p l
theorem aiC(dyn:Nat->an->Heap->aC)(l:List jU)(hl:l.length<=aZ)(n:Nat)(caps:an)(p:jU->Bool)(σ:Heap)(hd:∀x∈l,dyn n ((.agg (eZ x):AV)::caps) σ=δ (.bool (p x),σ)):NW dyn [sl 2 eZ l,.fn n caps] σ=δ (.ah (jM p l),σ):=by
 refine wrap_eq rfl ?_ rfl;show NX dyn (sl 2 eZ l) (.fn n caps) σ=_;unfold NX;simp only[aW,reduceCtorEq]
 refine(qP (S:=Unit) (R:=Int) l (λpre x _=>if p x=η then .out (pre.length:Int)else .go ())
  (λpre _=>[.ah 0,.ah (pre.length:Int)]) (λ_ _=>σ) (λ_=>(.exit 0,[.ah 0,.ah (l.length:Int)],σ)) (λpre _ r=>(.ret,[.ah (pre.length:Int),.ah (pre.length:Int)],σ))
  (λ_ _=>True) () (λ_=>δ (ε (-1),σ)) (λr=>δ (ε r,σ)) ?_ ?_ trivial (λ_ _ _ _ _ _ _ _=>trivial) ?_ ?_).trans ?_
 ·intro pre x rest u hl' _;have hx:=qT hl';have hlt:=tK hl';have hi1:θ.wrap ((pre.length:Int)+1)=(pre.length:Int)+1:=cO (by unfold aU;unfold aZ at hl;omega);have hlt':(pre.length:Int)<(l.length:Int):=by omega
  have kI:=mR 2 eZ l hx;have oT:=hd x (by rw[hl'];simp);simp only[aW,reduceCtorEq,anu,ar3,aqA,apL,Iu,hlt',kI,A.jC,mq,Tp,oT,hi1];cases p x<;>simp [aW,reduceCtorEq]
 ·intro u _;simp only[aW,reduceCtorEq,WG]
 ·intro u _;simp only[aW,reduceCtorEq]
 ·intro pre x rest s q hl' _ hb
  have:q=(pre.length:Int):=by
   cases hpx:p x
   ·rw[hpx]at hb;cases hb
   ·rw[hpx]at hb;simp at hb;exact hb.symm
  simp only[aW,reduceCtorEq,this]
 ·rw[DA p _ _ l [] (by simp)];simp only[Tp];split
  ·rename_i h;rw[h]
  ·rfl
theorem aip(dyn:Nat->an->Heap->aC)(l:List iC)(hl:l.length<=aZ)(n:Nat)(caps:an)(p:iC->Bool)(σ:Heap)(hd:∀x∈l,dyn n ((.agg (cr x):AV)::caps) σ=δ (.bool (p x),σ)):NM dyn [sl 3 cr l,.fn n caps] σ=δ (.ah (jM p l),σ):=by
 refine wrap_eq rfl ?_ rfl;show NO dyn (sl 3 cr l) (.fn n caps) σ=_;unfold NO;simp only[aW,reduceCtorEq]
 refine(qP (S:=Unit) (R:=Int) l (λpre x _=>if p x=η then .out (pre.length:Int)else .go ())
  (λpre _=>[.ah 0,.ah (pre.length:Int)]) (λ_ _=>σ) (λ_=>(.exit 0,[.ah 0,.ah (l.length:Int)],σ)) (λpre _ r=>(.ret,[.ah (pre.length:Int),.ah (pre.length:Int)],σ))
  (λ_ _=>True) () (λ_=>δ (ε (-1),σ)) (λr=>δ (ε r,σ)) ?_ ?_ trivial (λ_ _ _ _ _ _ _ _=>trivial) ?_ ?_).trans ?_
 ·intro pre x rest u hl' _;have hx:=qT hl';have hlt:=tK hl';have hi1:θ.wrap ((pre.length:Int)+1)=(pre.length:Int)+1:=cO (by unfold aU;unfold aZ at hl;omega);have hlt':(pre.length:Int)<(l.length:Int):=by omega
  have kI:=mR 3 cr l hx;have oT:=hd x (by rw[hl'];simp);simp only[aW,reduceCtorEq,akD,akE,akF,alH,alr,TP,hlt',kI,A.jC,mq,Tp,oT,hi1];cases p x<;>simp [aW,reduceCtorEq]
 ·intro u _;simp only[aW,reduceCtorEq,WG]
 ·intro u _;simp only[aW,reduceCtorEq]
 ·intro pre x rest s q hl' _ hb
  have:q=(pre.length:Int):=by
   cases hpx:p x
   ·rw[hpx]at hb;cases hb
   ·rw[hpx]at hb;simp at hb;exact hb.symm
  simp only[aW,reduceCtorEq,this]
 ·rw[DA p _ _ l [] (by simp)];simp only[Tp];split
  ·rename_i h;rw[h]
  ·rfl
theorem aij(dyn:Nat->an->Heap->aC)(l:List iC)(hl:l.length<=aZ)(n:Nat)(caps:an)(p:iC->Bool)(σ:Heap)(hd:∀x∈l,dyn n ((.agg (cr x):AV)::caps) σ=δ (.bool (p x),σ)):NK dyn [sl 3 cr l,.fn n caps] σ=δ (.bool (l.any p),σ):=by refine wrap_eq rfl ?_ rfl;show NL dyn (sl 3 cr l) (.fn n caps) σ=_;unfold NL;simp only[aW,reduceCtorEq,aip dyn l hl n caps p σ hd];refine congrArg δ (congrArg (λb=>(i7 b,σ)) ?_);exact Vm p l
theorem T5(nm:ByteArray):∀(l:List eA),lG nm l=match l.find? (λx:eA=>decide (x.name=nm))with|some p=>(p,η)|none=>(⟨⟨#[]⟩,0,[]⟩,ι)
 |[]=>rfl
 |p::l=>by
  rw[lG];by_cases h:p.name=nm
  ·simp [h]
  ·simp [h,T5 nm l]
theorem akI(x:eA)(nm:ByteArray)(σ:Heap):J4 [.agg (dF x),.rp [.str nm]] σ=δ (.bool (decide (x.name=nm)),σ):=by refine wrap_eq rfl ?_ rfl;show Sw (.agg (dF x)) (.rp [.str nm]) σ=_;unfold Sw;simp only[aW,reduceCtorEq,tc,ur,td,uv,uu,uw];show(δ (AV.str nm)).bind _=_;simp only[aW,reduceCtorEq]
theorem nnP(x:fO):UZ [.k,.k,.k,.k,.k,.k,(.s 3)] (gm x)=gm x:=rfl
theorem at1(p:eA)(b:Bool):Wo (.t [(.a FQ),.k]) (.aM [.agg (dF p),.bool b])=.aM [.agg (dF p),.bool b]:=by show XF [.agg [.str p.name,.ah p.size,Wo (.e 7 [.k,.k,.k,.k,.k,.k,(.s 3)]) (sl 7 gm p.params)],.bool b]=_;rw[vW nnP];rfl
theorem acw(l:List eA)(hl:l.length<=aZ)(nm:ByteArray)(σ:Heap):Oc [sl 3 dF l,.str nm] σ=δ (.aM [.agg (dF (lG nm l).1),.bool (lG nm l).2],σ):=by
 have key:∃w,Of (sl 3 dF l) (.str nm) σ=δ (w,σ)/\Wo (.t [(.a FQ),.k]) w=.aM [.agg (dF (lG nm l).1),.bool (lG nm l).2]:=by
  unfold Of;simp only[aW,reduceCtorEq];rw[ait _ l hl 64 [.rp [.str nm]] (λx=>decide (x.name=nm)) σ (λx _=>akI x nm σ)];simp only[aW,reduceCtorEq];rw[T5];rcases wL (λx:eA=>decide (x.name=nm)) l with⟨h1,_,h3⟩|⟨k,x,h1,h2,h3,h4,_⟩
  ·refine⟨.aM [.agg [.str ⟨#[]⟩,.ah 0,.aA],.bool ι],?_,?_⟩
   ·rw[h1];simp only[aW,reduceCtorEq,show((-1:Int)<0)from by decide];rfl
   ·rw[h3];rfl
  ·refine⟨.aM [.agg (dF x),.bool η],?_,?_⟩
   ·rw[h3];simp only[aW,reduceCtorEq,tc,ur,td,uv,uu,uw,show ¬((k:Int)<0)from by omega,mR 3 dF l h1]
   ·rw[h4];exact at1 x η
 obtain⟨w,h1,h2⟩:=key;exact wrap_eq rfl h1 h2
def marks(f:Nat->Bool):an:=(List.range 513).map λk=>.bool (f k)
theorem Ii(f:Nat->Bool){k:Nat}(h:k<513):(marks f)[k]? =δ (.bool (f k)):=by simp [marks,h]
theorem Fk(f:Nat->Bool):(marks f).length=513:=by simp [marks]
theorem ac6(f:Nat->Bool){γ:Type}(K1 K2:γ):∀(s a:Nat)(pre:List Nat),(lW (λ_ k(_:Unit)=>if 512<k\/f k=η then(Rd.out ():Rd Unit Unit)else .go ()) pre (Tz a s) ()).el (λ_=>K1) (λ_=>K2)=if yB f s a=η then K1 else K2
 |0,a,pre=>by simp [lW,yB,Rd.el]
 |s+1,a,pre=>by
  rw[aCC,lW,yB];by_cases h:512<a\/f a=η
  ·simp only[aO h,Rd.el];simp
  ·simp only[aL h];exact ac6 f K1 K2 s (a+1) _
theorem arO(a s:Int)(h:aU (a+s))(h':aU (a+s-1))(σ:Heap):Hr [.np,.ah a,.ah s] σ=δ (.bool (decide (a+s-1<=512)),σ):=by refine wrap_eq rfl ?_ rfl;show J7 .np (.ah a) (.ah s) σ=_;unfold J7;simp only[aW,reduceCtorEq,show Wn .p Wp Wp=δ (.bool η)from rfl,cO h,cO h']
theorem apD(cs:an){k:Nat}(h:k<513):A.A8 513 1 (.rp cs) (.ah (k:Int))=δ (.rp (cs.drop k)):=by
 have h1:A.idx 513 (.ah (k:Int))=δ k:=by show(if(0:Int)<=(k:Int)/\(k:Int)<((513:Nat):Int)then δ (k:Int).toNat else ξ)=δ k;rw[aO ⟨by omega,by omega⟩];rfl
 unfold A.A8;rw[h1];simp only[aP,Nat.mul_one]
theorem arQ(f:Nat->Bool)(a s:Nat)(hs:a<=1024/\s<=1024)(σ:Heap):Hr [.rp (marks f),.ah (a:Int),.ah (s:Int)] σ=δ (.bool (yB f s a),σ):=by
 refine wrap_eq rfl ?_ rfl;show J7 (.rp (marks f)) (.ah (a:Int)) (.ah (s:Int)) σ=_;unfold J7;have hw:θ.wrap ((a:Int)+s)=(a:Int)+s:=cO (by unfold aU;omega);simp only[aW,reduceCtorEq,show Wn .p (Sf (marks f)) Wp=δ (.bool ι)from rfl,hw]
 refine(qP (S:=Unit) (R:=Unit) (Tz a s) (λ_ k(_:Unit)=>if 512<k\/f k=η then(Rd.out ():Rd Unit Unit)else .go ())
  (λpre _=>[.bool ι,.ah ((a:Int)+(pre.length:Int))]) (λ_ _=>σ) (λ_=>(.exit 0,[.bool ι,.ah ((a:Int)+s)],σ)) (λpre _ _=>(.ret,[.bool ι,.ah ((a:Int)+(pre.length:Int))],σ))
  (λ_ _=>True) () (λ_=>δ (i7 η,σ)) (λ_=>δ (i7 ι,σ)) ?_ ?_ trivial (λ_ _ _ _ _ _ _ _=>trivial) ?_ ?_ (hv:=by simp)).trans ?_
 ·intro pre k rest u hl _;have hx:=qT hl;have hlt:=tK hl;rw[ZS]at hlt
  obtain rfl:a+pre.length=k:=by have:=(bD.1 hx).2;simpa [List.getElem_range']using this
  have hlt':(a:Int)+(pre.length:Int)<(a:Int)+s:=by omega
  have hi1:θ.wrap ((a:Int)+(pre.length:Int)+1)=(a:Int)+((pre.length:Int)+1):=by rw[cO (by unfold aU;omega)];omega
  have ecast:(a:Int)+(pre.length:Int)=((a+pre.length:Nat):Int):=by omega
  clear hl hx;by_cases h5:512<a+pre.length
  ·have YV:(512:Int)<(a:Int)+(pre.length:Int):=by omega
   simp only[aW,reduceCtorEq,hlt',h5,YV]
  have YV:¬(512:Int)<(a:Int)+(pre.length:Int):=by omega
  have hp:φ 0 ((marks f).drop (a+pre.length))=δ (.bool (f (a+pre.length))):=by rw[aBp];simp only[φ,Nat.add_zero,Ii f (show a+pre.length<513 by omega)];rfl
  simp only[aW,reduceCtorEq,hlt',h5,YV,show SD (Sf (marks f))=δ (.rp (marks f))from rfl];rw[ecast,apD _ (by omega)];simp only[aW,reduceCtorEq,hp];cases hf:f (a+pre.length)
  ·simp only[aW,reduceCtorEq,<-ecast,hi1]
  ·simp only[aW,reduceCtorEq,<-ecast]
 ·intro u _;rw[ZS];exact Iq _ _ _
 ·intro u _;simp only[aW,reduceCtorEq]
 ·intros;simp only[aW,reduceCtorEq]
 ·rw[ac6];cases yB f s a<;>rfl
theorem arP(f:Nat->Bool)(a s:Nat)(hs:a<=1024/\s<=1024){σ:Heap}{id:Nat}(h:σ[id]? =δ (.box (marks f))):Hr [.op id 0,.ah (a:Int),.ah (s:Int)] σ=δ (.bool (yB f s a),σ):=by
 refine VC (args':=[.rp (marks f),.ah (a:Int),.ah (s:Int)]) rfl ?_ rfl (arQ f a s hs []) rfl
 have e:A.wZ σ 0 7 (marks f)=δ (marks f):=by
  have key:∀(l:List Nat),A.wZ σ 0 7 (l.map λk=>i7 (f k))=δ (l.map λk=>i7 (f k)):=by
   intro l;induction l with
   |nil=>simp [A.wZ]
   |cons x l ih=>simp [A.wZ,Wr,ih]
  exact key _
 simp [UC,Wr,h,e]
def wD(b:Nat):List Int->List (AV×AV)
 |[]=>[]
 |v::r=>(.int θ v,.op b 0)::wD (b+1) r
def jF(σ:Heap)(vs:List Int)(f:Int->Nat->Bool):Heap:=σ++(YE (wD (σ.length+1) vs)::vs.map λv=>Sd (marks (f v)))
theorem aeN(v:Int):∀(vs:List Int)(b:Nat),wD b (vs++[v])=wD b vs++[(.ah v,.op (b+vs.length) 0)]
 |[],b=>rfl
 |w::r,b=>by simp only[mq,wD,aeN v r (b+1),R7];rw[show b+1+r.length=b+(r.length+1) by omega]
theorem PM(v:Int):∀(vs:List Int)(b:Nat),XS .i (.ah v) (wD b vs)=δ (if v∈vs then δ (.op (b+vs.idxOf v) 0)else ξ)
 |[],b=>rfl
 |w::r,b=>by
  simp only[wD,XS,Uj,A.pR,if_true,aP];by_cases h:v=w
  ·subst h;simp
  ·have h1:(v==w)=ι:=by simpa using h
   have h2:(w==v)=ι:=by simpa using λe:w=v=>h e.symm
   simp only[h1,bK,PM v r (b+1),iV,h,false_or,List.idxOf_cons,h2];rw[show b+1+r.idxOf v=b+(r.idxOf v+1) by omega]
theorem afI(v:Int)(w:AV):∀(vs:List Int)(b:Nat),v∉vs->A.upd .i (.ah v) w (wD b vs)=δ (wD b vs++[(.ah v,w)])
 |[],b,_=>rfl
 |x::r,b,h=>by
  simp only[iV,not_or]at h;have h1:(v==x)=ι:=by simpa using h.1
  simp only[wD,A.upd,Uj,A.pR,if_true,aP,h1,bK,afI v w r (b+1) h.2,cq,mq]
theorem afK(σ:Heap)(vs:List Int)(f:Int->Nat->Bool):(jF σ vs f).length=σ.length+1+vs.length:=by simp [jF];omega
theorem Qa(σ:Heap)(vs:List Int)(f:Int->Nat->Bool):(jF σ vs f)[σ.length]? =δ (.map (wD (σ.length+1) vs)):=by simp [jF]
theorem afJ(σ:Heap){vs:List Int}(f:Int->Nat->Bool){v:Int}(h:v∈vs):(jF σ vs f)[σ.length+1+vs.idxOf v]? =δ (.box (marks (f v))):=by
 unfold jF;rw[iz (by omega),show σ.length+1+vs.idxOf v-σ.length=vs.idxOf v+1 by omega,Yw,qo]
 have:vs[vs.idxOf v]? =δ v:=by have hl:=List.idxOf_lt_length_of_mem h;rw[bU hl,List.getElem_idxOf hl]
 rw[this];rfl
theorem as9(σ:Heap){vs:List Int}(hn:vs.Nodup){f f':Int->Nat->Bool}{v:Int}(h:v∈vs)(ho:∀w,w≠v->f' w=f w):(jF σ vs f).set (σ.length+1+vs.idxOf v) (.box (marks (f' v)))=jF σ vs f':=by
 unfold jF;rw[pJ _ _ (by omega),show σ.length+1+vs.idxOf v-σ.length=vs.idxOf v+1 by omega,aBU];refine congrArg (λz=>σ++(YE (wD (σ.length+1) vs)::z)) ?_;clear σ;induction vs with
 |nil=>cases h
 |cons w r ih=>
  rw[rB]at hn;rw[List.idxOf_cons];by_cases e:w=v
  ·subst e;simp only[beq_self_eq_true,cA,eo,aCg];exact congrArg (Sd (marks (f' w))::·) (TA λx hx=>by rw[ho x (λe=>hn.1 (e▸hx))])
  ·have e2:(w==v)=ι:=by simpa using e
   simp only[e2,bK,eo,aBU];rw[ih hn.2 ((iV.1 h).resolve_left λq=>e q.symm),ho w e]
theorem as8(σ:Heap)(vs:List Int){f:Int->Nat->Bool}{v:Int}(h:∀k,f v k=ι):((jF σ vs f)++[Sd (Z5 513 aY)]).set σ.length (.map (wD (σ.length+1) (vs++[v])))=jF σ (vs++[v]) f:=by
 have e:marks (f v)=Z5 513 aY:=by rw[show f v=λ_=>ι from funext h];refine List.eq_replicate_iff.2 ⟨Fk _,λb hb=>?_⟩;obtain⟨k,_,rfl⟩:=fL.1 hb;rfl
 unfold jF;simp only[kS,mq];rw[pJ _ _ (bF _),Wz,aCg,V8,eo,e];rfl
theorem ao0(g g':Nat->Bool){k:Nat}(hk:k<513)(h1:g' k=η)(h2:∀j,j≠k->g' j=g j):Φ k [i7 η] (marks g)=δ (marks g'):=by
 unfold Φ;rw[aO (by rw[Fk];simp;omega)];refine congrArg δ (List.ext_getElem? λj=>?_);simp only[kS,mq,Tp,R7,TZ];by_cases hj:j<k
 ·rw[iG (by rw[oH,Fk];omega),Vh hj,Ii _ (by omega),Ii _ (by omega),h2 j (by omega)]
 ·rw[iz (by rw[oH,Fk];omega),oH,Fk,Nat.min_eq_left (by omega)];by_cases e:j=k
  ·subst e;rw[Wz,List.getElem?_cons_zero,Ii _ hk,h1]
  ·rw[show j-k=(j-k-1)+1 by omega,Yw,YF,show k+(0+1)+(j-k-1)=j by omega];by_cases hj2:j<513
   ·rw[Ii _ hj2,Ii _ hj2,h2 j e]
   ·rw[qm (by rw[Fk];omega),qm (by rw[Fk];omega)]
theorem Qr{α γ:Type}(K1:Unit->γ)(K2:Unit->γ):∀(l pre:List α),(lW (λ_(x:α)(_:Unit)=>(Rd.go ():Rd Unit Unit)) pre l ()).el K1 K2=K1 ()
 |[],pre=>rfl
 |x::l,pre=>by rw[lW];exact Qr K1 K2 l _
theorem acD{α S:Type}{body:List α->α->S->Rd S Int}{xG:List α->List α->Int}(h0:∀pre,xG pre []=0)(h:∀pre x rest s,xG pre (x::rest)=(body pre x s).el (λ_=>xG (pre++[x]) rest) (λr=>r)) {γ:Type} (K:Int->γ):
  ∀(l pre:List α)(s:S),(lW body pre l s).el (λ_=>K 0) K=K (xG pre l)
 |[],pre,s=>by rw[lW,h0];rfl
 |x::l,pre,s=>by
  rw[lW,h pre x l s];cases body pre x s with
  |go s'=>exact acD h0 h K l (pre++[x]) s'
  |out r=>rfl
theorem anp(f:Int->Nat->Bool)(v:Int)(a:Nat):qj f v a 0=f:=by funext w k;unfold qj;rw[aL (by omega)]
theorem adP{γ:Type}(σ:Heap){vs:List Int}(hn:vs.Nodup)(f:Int->Nat->Bool)(u:jk)(a s:Nat)(ha:u.address=a)(hs:a+s<=513)(hm:u.univ∈vs)(K:an->Heap->Option γ):
  (p7 (λv11 Dd=>
   ((ZE (aj v11 0)).bind λ_=>δ (3)).bind λZB=>
   ((ZE (aj v11 0)).bind λjN=>φ ZB jN).bind λeE=>
   (Z8 eE (.ah (s:Int))).bind λdJ=>
   (Sq (aj v11 1) dJ).bind λdz=>
   Γ dz (
    ((ZE (aj v11 0)).bind λ_=>δ (2)).bind λp18=>
    ((ZE (aj v11 0)).bind λiZ=>φ p18 iZ).bind λew=>
    (WK .i (.om σ.length) ew Wp Dd).bind λdm=>
    (SD dm).bind λey=>
    (A.A8 513 1 ey (aj v11 1)).bind λeU=>
    (l8 eU [i7 η] Dd).bind λiL=>
    (Z8 (aj v11 1) (ε 1)).bind λfF=>
    δ (l9,[(aj v11 0),fF],iL)) (
    δ (Ψ 0,[(aj v11 0),(aj v11 1)],Dd))) [.lbx (dr u),.ah (a:Int)] (jF σ vs f)).bind (λmO=>
 bif decide (mO.1=Ψ 0)then K mO.2.1 mO.2.2 else ξ)=K [.lbx (dr u),.ah ((a:Int)+s)] (jF σ vs (qj f u.univ a s)):=by
 have hw:θ.wrap ((a:Int)+s)=(a:Int)+s:=cO (by unfold aU;omega)
 refine(qP (S:=Unit) (R:=Unit) (Tz a s) (λ_ k(_:Unit)=>(Rd.go ():Rd Unit Unit))
  (λpre _=>[.lbx (dr u),.ah ((a:Int)+(pre.length:Int))]) (λpre _=>jF σ vs (qj f u.univ a pre.length)) (λ_=>(.exit 0,[.lbx (dr u),.ah ((a:Int)+s)],jF σ vs (qj f u.univ a s))) (λpre _ _=>(.ret,[],σ))
  (λ_ _=>True) () (λ_=>K [.lbx (dr u),.ah ((a:Int)+s)] (jF σ vs (qj f u.univ a s))) (λ_=>ξ) ?_ ?_ trivial (λ_ _ _ _ _ _ _ _=>trivial) ?_ ?_ (hv:=by simp) (gW:=by rw[TZ,anp])).trans (Qr _ _ _ _)
 ·intro pre k rest t hl _;have hx:=qT hl;have hlt:=tK hl;rw[ZS]at hlt
  obtain rfl:a+pre.length=k:=by have:=(bD.1 hx).2;simpa [List.getElem_range']using this
  have hlt':(a:Int)+(pre.length:Int)<(a:Int)+s:=by omega
  have hi1:θ.wrap ((a:Int)+(pre.length:Int)+1)=(a:Int)+((pre.length:Int)+1):=by rw[cO (by unfold aU;omega)];omega
  have ecast:(a:Int)+(pre.length:Int)=((a+pre.length:Nat):Int):=by omega
  clear hl hx
  have Ws:WK .i (.om σ.length) (.ah u.univ) Wp (jF σ vs (qj f u.univ a pre.length))=δ (.op (σ.length+1+vs.idxOf u.univ) 0):=by rw[DG .i rfl (Qa σ vs _),PM,aO hm];rfl
  have awF:A.A8 513 1 (.op (σ.length+1+vs.idxOf u.univ) 0) (.ah ((a+pre.length:Nat):Int))=δ (.op (σ.length+1+vs.idxOf u.univ) (a+pre.length)):=by
   have h1:A.idx 513 (.ah ((a+pre.length:Nat):Int))=δ (a+pre.length):=by show(if(0:Int)<=((a+pre.length:Nat):Int)/\((a+pre.length:Nat):Int)<((513:Nat):Int)then δ ((a+pre.length:Nat):Int).toNat else ξ)=_;rw[aO ⟨by omega,by omega⟩];rfl
   unfold A.A8;rw[h1];simp only[aP,Nat.mul_one,WW]
  have hst:l8 (.op (σ.length+1+vs.idxOf u.univ) (a+pre.length)) [.bool η] (jF σ vs (qj f u.univ a pre.length))=δ (jF σ vs (qj f u.univ a (pre.length+1))):=by
   simp only[l8,afJ σ _ hm]
   rw[ao0 _ (qj f u.univ a (pre.length+1) u.univ) (by omega) (by unfold qj;rw[aO ⟨rfl,by omega,by omega⟩]) (λj hj=>by
    unfold qj;by_cases q:a<=j/\j<a+pre.length
    ·rw[aO ⟨rfl,by omega,by omega⟩,aO ⟨rfl,q.1,q.2⟩]
    ·rw[aL (by omega),aL (by omega)])]
   simp only[cq];rw[as9 σ hn hm (λw hw=>by funext j;unfold qj;rw[aL (λq=>hw q.1),aL (λq=>hw q.1)])]
  simp only[aW,reduceCtorEq,tg,th,tj,tu,tD,tC,tG,ha,hw,hlt',Ws,show SD (.op (σ.length+1+vs.idxOf u.univ) 0)=δ (.op (σ.length+1+vs.idxOf u.univ) 0)from rfl];rw[ecast,awF];simp only[aW,reduceCtorEq,hst,<-ecast,hi1]
 ·intro t _;rw[ZS];simp only[aW,reduceCtorEq,tg,th,tj,tu,tD,tC,tG,ha,hw,WG]
 ·intro t _;simp only[aW,reduceCtorEq]
 ·intro pre x rest t r _ _ hb;cases hb
theorem as5(σ:Heap){vs:List Int}(hn:vs.Nodup)(f:Int->Nat->Bool)(u:jk)(a s:Nat)(ha:u.address=a)(hs:a+s<=513)(hf:u.univ∉vs->∀k,f u.univ k=ι):
  Oo [.om σ.length,.agg (dr u),.ah (s:Int)] (jF σ vs f)=δ (.aM [],jF σ (if u.univ∈vs then vs else vs++[u.univ]) (qj f u.univ a s)):=by
 have e:Km (.om σ.length) (.agg (dr u)) (.ah (s:Int)) (jF σ vs f)=δ (.aM [],jF σ (if u.univ∈vs then vs else vs++[u.univ]) (qj f u.univ a s)):=by
  unfold Km
  have Ws:WK .i (.om σ.length) (.ah u.univ) Wp (jF σ vs f)=δ (if u.univ∈vs then .op (σ.length+1+vs.idxOf u.univ) 0 else .np):=by rw[DG .i rfl (Qa σ vs _),PM];by_cases hm:u.univ∈vs<;>simp [hm]
  simp only[aW,reduceCtorEq,tg,th,tj,tu,tD,tC,tG,Ws];by_cases hm:u.univ∈vs
  ·simp only[aO hm,show Wn .p (.op (σ.length+1+vs.idxOf u.univ) 0) Wp=δ (.bool ι)from rfl,aW,reduceCtorEq,tg,th,tj,tu,tD,tC,tG,ha];exact adP σ hn f u a s ha hs hm λ_ h=>δ (XF [],h)
  ·have hup:A.iX .i (.om σ.length) (.ah u.univ) (.op (jF σ vs f).length 0) (jF σ vs f++[Sd (Z5 513 aY)])=δ (jF σ (vs++[u.univ]) f):=by rw[BW .i rfl (es:=wD (σ.length+1) vs) (by rw[iG (by rw[afK];omega)];exact Qa σ vs f),afI _ _ _ _ hm];rw[cq,afK,<-aeN,as8 σ vs (hf hm)]
   simp only[aL hm,show Wn .p Wp Wp=δ (.bool η)from rfl,aW,reduceCtorEq,tg,th,tj,tu,tD,tC,tG,hup,ha];exact adP σ (by rw[List.nodup_append];exact⟨hn,by simp,λx hx y hy e=>hm (by simp at hy;rw[<-hy,<-e];exact hx)⟩) f u a s ha hs (by simp) λ_ h=>δ (XF [],h)
 unfold Oo Ω;rw[Uu,bK];show(Km (.om σ.length) (.agg (dr u)) (.ah (s:Int)) (jF σ vs f)).map _=_;rw[e];rfl
theorem anr{α:Type}(f:α->Int){l pre rest:List α}{x:α}(h:l=pre++x::rest)(n:Int):(∃y,0<pre.length/\l[pre.length-1]? =δ y/\Ge (pre.map f) n=decide (n<=f y))\/(¬0<pre.length/\Ge (pre.map f) n=ι):=by
 by_cases h0:0<pre.length
 ·obtain⟨y,hy,hy2⟩:=aey h h0;exact .inl ⟨y,h0,hy2,by simp [Ge,List.getLast?_map,hy]⟩
 ·obtain rfl:pre=[]:=vQ (by omega);exact .inr ⟨h0,rfl⟩
theorem aq2(σ:Heap)(vs:List Int)(f:Int->Nat->Bool)(v:Int):WK .i (.om σ.length) (.ah v) Wp (jF σ vs f)=δ (if v∈vs then .op (σ.length+1+vs.idxOf v) 0 else .np):=by rw[DG .i rfl (Qa σ vs _),PM];by_cases hm:v∈vs<;>simp [hm]
theorem ae3(σ:Heap)(vs:List Int)(f:Int->Nat->Bool)(n:Int):l6 σ (.ah n) (jF σ vs f)=δ (.ah n,σ):=VQ _ _ _ _
theorem TT(r:iH)(hok:D7 r)(σ:Heap):N9 [.agg (lq r)] σ=δ (.ah (lI r),σ):=by
 refine wrap_eq rfl ?_ rfl;show SF (.agg (lq r)) σ=_;obtain⟨XM,Zn⟩:=hok;have MW:=XM.1;unfold SF lI;simp only[aW,reduceCtorEq,AO,AP,A0,AU,A3,akh _ XM];by_cases hf:Ak r.bA=0;case neg=>simp only[aW,reduceCtorEq,hf]
 by_cases h4:400<r.dK.length
 ·have h4':(400:Int)<r.dK.length:=by omega
  simp only[aW,reduceCtorEq,AO,AP,A0,AU,A3,hf,h4,h4']
 have h4':¬(400:Int)<r.dK.length:=by omega
 simp only[aW,reduceCtorEq,AO,AP,A0,AU,A3,hf,h4,h4'];have agh:=anm hf;generalize RA:r.dK=l at *
 refine(qP (S:=List Int×(Int->Nat->Bool)) (R:=Int) l (λpre u s=>if aX u.au 1 9999=ι then .out 1
    else if Ge (pre.map (·.au)) u.au=η then .out 7
    else if(lG u.jX r.bA).2=ι then .out 5
    else if aX u.univ 1 64=ι\/aX u.address 1 512=ι\/512<rU r.bA u then .out 1
    else if IG r.bA u pre=η then .out 12 else .go (if u.univ∈s.1 then s.1 else s.1++[u.univ],qj s.2 u.univ u.address.toNat (lG u.jX r.bA).1.size.toNat))
  (λpre _=>[.lbx (lq r),.ah 0,.ah (pre.length:Int)]) (λpre s=>jF σ s.1 s.2)
  (λs=>(.exit 0,[.lbx (lq r),.ah 0,.ah (l.length:Int)],jF σ s.1 s.2)) (λpre s n=>(.ret,[.lbx (lq r),.ah n,.ah (pre.length:Int)],jF σ s.1 s.2))
  (λpre s=>KZ r.bA pre/\DM r.bA pre s.2/\s.1.Nodup/\∀v,v∉s.1->∀k,s.2 v k=ι) ([],λ_ _=>ι) (λ_=>δ (ε 0,σ)) (λn=>δ (ε n,σ)) ?_ ?_ ⟨(by intro x hx;simp at hx),DM.nil _,List.nodup_nil,λ_ _ _=>rfl⟩ ?_ ?_ ?_).trans ?_
 ·intro pre u rest s hl hP;have hx:=qT hl;have hlt:=tK hl;have hi1:θ.wrap ((pre.length:Int)+1)=(pre.length:Int)+1:=cO (by unfold aU;omega);have hi2:θ.wrap ((pre.length:Int) -1)=(pre.length:Int) -1:=cO (by unfold aU;omega);have hlt':(pre.length:Int)<(l.length:Int):=by omega
  have hmp:pre.length<=aZ:=by unfold aZ;omega
  have kI:=mR 4 dr l hx;have Ru:=acw r.bA MW u.jX;have ho:=anr (·.au) hl u.au;obtain⟨vs,f⟩:=s;obtain⟨MO,MP,JD,JE⟩:=hP;dsimp only at MO MP JD JE ⊢;clear Zn h4 h4' hl hx;simp only[aW,reduceCtorEq,tg,th,tj,tu,tD,tC,tG,AO,AP,A0,AU,A3,RA,hlt',kI,Ru,tc,ur,td,uv,uu,uw,kJ];cases h1:aX u.au 1 9999
  ·simp only[aW,reduceCtorEq]
  simp only[aW,reduceCtorEq];rcases ho with⟨y,h0,hy,ho⟩|⟨h0,ho⟩
  case' inl=>
   have tZ:(0:Int)<pre.length:=by omega
   have XI:=OX 4 dr l h0 hy;by_cases hq:u.au<=y.au
   ·simp only[aW,reduceCtorEq,tg,th,tj,tu,tD,tC,tG,AO,AP,A0,AU,A3,RA,tZ,hi2,XI,ho,hq]
   simp only[aW,reduceCtorEq,tg,th,tj,tu,tD,tC,tG,AO,AP,A0,AU,A3,RA,tZ,hi2,XI,ho,hq]
  case' inr=>
   have tZ:¬(0:Int)<pre.length:=by omega
   simp only[aW,reduceCtorEq,tZ,ho]
  all_goals
   try simp only[aW,reduceCtorEq,tg,th,tj,tu,tD,tC,tG,AO,AP,A0,AU,A3,RA,Ru]
   cases hp:(lG u.jX r.bA).2
   ·simp only[aW,reduceCtorEq,tc,ur,td,uv,uu,uw]
   have hsz:=agh _ (aBj _ _ hp);try simp only[aW,reduceCtorEq,tg,th,tj,tu,tD,tC,tG,tc,ur,td,uv,uu,uw,kJ]
   cases hu:aX u.univ 1 64
   ·simp only[aW,reduceCtorEq]
   cases ha:aX u.address 1 512
   ·simp only[aW,reduceCtorEq,tg,th,tj,tu,tD,tC,tG,kJ,ha]
   have ha':1<=u.address/\u.address<=512:=by simpa [aX]using ha
   have hw1:θ.wrap (u.address+(lG u.jX r.bA).1.size)=u.address+(lG u.jX r.bA).1.size:=cO (by unfold aU;omega);have hw2:θ.wrap (u.address+(lG u.jX r.bA).1.size-1)=rU r.bA u:=cO (by unfold aU;omega);have hlu:rU r.bA u=u.address+(lG u.jX r.bA).1.size-1:=rfl;by_cases h5:512<rU r.bA u
   ·simp only[aW,reduceCtorEq,tg,th,tj,tu,tD,tC,tG,tc,ur,td,uv,uu,uw,kJ,ha,hw1,hw2,h5]
   obtain⟨a,Y2⟩:∃a:Nat,u.address=a:=⟨u.address.toNat,by omega⟩
   obtain⟨n,hne⟩:∃n:Nat,(lG u.jX r.bA).1.size=n:=⟨(lG u.jX r.bA).1.size.toNat,by omega⟩
   have Ry:=ang MP MO u a n Y2 (by omega) (by omega) (by omega)
   have hfree:Hr [if u.univ∈vs then .op (σ.length+1+vs.idxOf u.univ) 0 else .np,.ah (a:Int),.ah (n:Int)] (jF σ vs f)=δ (.bool (!IG r.bA u pre),jF σ vs f):=by
    by_cases hm:u.univ∈vs
    ·rw[aO hm,arP (f u.univ) a n (by omega) (afJ σ f hm),Ry]
    ·rw[aL hm,arO a n (by unfold aU;omega) (by unfold aU;omega),<-Ry];have e:yB (f u.univ) n a=η:=(UR _ _ _).2 λk h1 h2=>⟨by omega,JE _ hm k⟩
     rw[e,show decide ((a:Int)+n-1<=512)=η from cB (by omega)]
   have uf:=as5 σ JD f u a n Y2 (by omega) (JE u.univ);simp only[aW,reduceCtorEq,tg,th,tj,tu,tD,tC,tG,tc,ur,td,uv,uu,uw,kJ,ha,hw1,hw2,h5,aq2];rw[Y2,hne];simp only[aW,reduceCtorEq,hfree];cases hc:IG r.bA u pre
   ·simp only[aW,reduceCtorEq,tg,th,tj,tu,tD,tC,tG,tc,ur,td,uv,uu,uw,hne,uf,hi1,Tl]
   ·simp only[aW,reduceCtorEq]
 ·intro s _;exact Iq _ _ _
 ·intro pre u rest s s' hl hP hb;obtain⟨vs,f⟩:=s;obtain⟨MO,MP,JD,JE⟩:=hP;dsimp only at MO MP JD JE hb;split at hb
  ·cases hb
  split at hb
  ·cases hb
  split at hb
  ·cases hb
  rename_i hp;split at hb
  ·cases hb
  rename_i hw;split at hb
  ·cases hb
  injection hb with hb
  subst hb;simp only[not_or,Bool.not_eq_false,aX,je,decide_eq_true_eq]at hw hp;have hsz:=agh _ (aBj _ _ (by simpa using hp));have hlu:rU r.bA u=u.address+(lG u.jX r.bA).1.size-1:=rfl;refine⟨MO.snoc ⟨hw.2.1.1,by omega,by omega⟩,MP.snoc u u.address.toNat _ (by omega) (by omega),?_,?_⟩
  ·dsimp only;split
   ·exact JD
   ·rename_i hm;rw[List.nodup_append];exact⟨JD,by simp,λx hx y hy e=>hm (by simp at hy;rw[<-hy,<-e];exact hx)⟩
  ·intro v hv k;dsimp only at hv ⊢
   have h1:v≠u.univ/\v∉vs:=by
    split at hv
    ·rename_i hm;exact⟨λe=>hv (e▸hm),hv⟩
    ·simp only[jJ,Un,not_or]at hv;exact⟨hv.2,hv.1⟩
   unfold qj;rw[aL (λq=>h1.1 q.1)];exact JE v h1.2 k
 ·intro s _;simp only[aW,reduceCtorEq,ae3]
 ·intros;simp only[aW,reduceCtorEq,ae3]
 ·refine(acD (xG:=I5 r.bA) ?_ ?_ (λn=>δ (ε n,σ)) l [] _).trans ?_
  ·intro pre;rfl
  ·intro pre x rest s;rw[I5];simp only[II,DO,DX]
  ·rfl
def uz(jd:List eA)(u:jk):List aI:=(lG u.jX jd).1.params.map λx=>⟨u.au,x.name⟩
def pZ(r:iH):List aI:=r.dK.flatMap (uz r.bA)
theorem aaN{p:eA}(h:tF p=0):p.params.length<=40:=by
 unfold tF at h
 repeat' split at h
 all_goals first|(simp at h;done)|omega
theorem ab7:∀(l pre:List eA),Ef pre l=0->∀p∈l,tF p=0
 |[],pre,h,p,hp=>by simp at hp
 |q::rest,pre,h,p,hp=>by
  rw[Ef]at h;by_cases e:tF q=0
  ·rw[aO e]at h;by_cases e2:kM q.name (pre.map (·.name))=η
   ·rw[aO e2]at h;simp at h
   ·rw[aL e2]at h;simp only[iV]at hp;rcases hp with rfl|hp
    ·exact e
    ·exact ab7 rest _ h p hp
  ·rw[aL e]at h;exact absurd h e
theorem Vv{r:iH}(h:lI r=0):Ak r.bA=0:=by
 unfold lI at h;split at h
 ·assumption
 ·rename_i h2;exact absurd h h2
theorem azN{l:List eA}(h:Ak l=0):∀p∈l,tF p=0:=by
 unfold Ak at h;by_cases e:60<l.length
 ·rw[aO e]at h;simp at h
 ·rw[aL e]at h;exact ab7 l [] h
theorem acv{r:iH}(h:lI r=0)(nm:ByteArray):(lG nm r.bA).1.params.length<=40:=by
 rw[T5];cases hf:r.bA.find? (λx:eA=>decide (x.name=nm))with
 |none=>exact kD _
 |some p=>exact aaN (azN (Vv h) p (zV hf))
theorem aAn{r:iH}(h:lI r=0):∀(l:List jk),(l.flatMap (uz r.bA)).length<=l.length*40
 |[]=>by simp
 |u::l=>by
  have h1:=acv h u.jX;have h2:=aAn h l;rw[Vi,Ve,R7,Nat.succ_mul];have h3:(uz r.bA u).length=(lG u.jX r.bA).1.params.length:=by simp [uz]
  omega
theorem at0(l:List aI)(n:Int):Wo (.t [(.s 2),.k]) (.aM [if l=[]then .aA else sl 2 aV l,.ah n])=.aM [sl 2 aV l,.ah n]:=by show XF [Wo (.s 2) (if l=[]then .aA else sl 2 aV l),.ah n]=_;rw[at3]
theorem acC{r:iH}(h:lI r=0):r.dK.length<=400:=by
 unfold lI at h;split at h
 ·split at h
  ·cases h
  ·omega
 ·rename_i h2;exact absurd h h2
theorem VE(r:iH)(hok:D7 r)(σ:Heap):HL [.agg (lq r)] σ=δ (.aM [sl 2 aV (if lI r=0 then pZ r else[]),.ah (lI r)],σ):=by
 by_cases hf:lI r=0
 ·refine wrap_eq rfl (v:=.aM [if pZ r=[]then .aA else sl 2 aV (pZ r),.ah 0]) ?_ (by rw[aO hf,hf];exact at0 _ _);show Kl (.agg (lq r)) σ=_;unfold Kl;have hu:=acC hf;have XM:=hok.1.2;simp only[aW,reduceCtorEq,AO,AP,A0,AU,A3,TT r hok,hf]
  refine(qP (S:=Unit) (R:=Unit) r.dK (λpre u _=>(Rd.go ():Rd Unit Unit))
   (λpre _=>[.lbx (lq r),yJ σ.length 2 (pre.flatMap (uz r.bA)),.ah (pre.length:Int)]) (λpre _=>σ++uJ 2 aV (pre.flatMap (uz r.bA)))
   (λ_=>(.exit 0,[.lbx (lq r),yJ σ.length 2 (pZ r),.ah (r.dK.length:Int)],σ++uJ 2 aV (pZ r))) (λpre _ _=>(.ret,[],σ))
   (λ_ _=>True) () (λ_=>δ (XF [if pZ r=[]then .aA else sl 2 aV (pZ r),.ah 0],σ)) (λ_=>ξ) ?_ ?_ trivial (λ_ _ _ _ _ _ _ _=>trivial) ?_ ?_ (gW:=by simp [aqz])).trans (Qr _ _ _ _)
  ·intro pre u rest s hl _;have hx:=qT hl;have hlt:=tK hl;have hi1:θ.wrap ((pre.length:Int)+1)=(pre.length:Int)+1:=cO (by unfold aU;omega);have hlt':(pre.length:Int)<(r.dK.length:Int):=by omega
   have kI:=mR 4 dr r.dK hx;have Ru:=acw r.bA hok.1.1 u.jX;have hps:=acv hf u.jX;have wv:=aAn hf pre;have C8:(pre++[u]).flatMap (uz r.bA)=pre.flatMap (uz r.bA)++uz r.bA u:=by simp
   have ayN:pre.length<=399:=by omega
   generalize hK:pre.flatMap (uz r.bA)=K at *
   generalize hq:(lG u.jX r.bA).1=p at *
   simp only[aW,reduceCtorEq,tg,th,tj,tu,tD,tC,tG,AO,AP,A0,AU,A3,hlt',kI,Ru,hq,tc,ur,td,uv,uu,uw]
   refine(qP (S:=Unit) (R:=Unit) p.params (λpre u _=>(Rd.go ():Rd Unit Unit))
    (λAE _=>[.lbx (lq r),yJ σ.length 2 (K++AE.map λx=>(⟨u.au,x.name⟩:aI)),.lbx (dr u),.ah (AE.length:Int)]) (λAE _=>σ++uJ 2 aV (K++AE.map λx=>(⟨u.au,x.name⟩:aI)))
    (λ_=>(.exit 2,[.lbx (lq r),yJ σ.length 2 (K++uz r.bA u),.lbx (dr u),.ah (p.params.length:Int)],σ++uJ 2 aV (K++uz r.bA u))) (λpre _ _=>(.ret,[],σ))
    (λ_ _=>True) () (λ_=>δ (.normal,[.lbx (lq r),yJ σ.length 2 (K++uz r.bA u),.ah ((pre.length:Int)+1)],σ++uJ 2 aV (K++uz r.bA u))) (λ_=>ξ) ?_ ?_ trivial (λ_ _ _ _ _ _ _ _=>trivial) ?_ ?_ (hv:=by simp) (gW:=by simp)).trans ((Qr _ _ _ _).trans ?_)
   ·intro AE x rest' s hl' _;have gx:=qT hl';have glt:=tK hl';have gi1:θ.wrap ((AE.length:Int)+1)=(AE.length:Int)+1:=cO (by unfold aU;omega);have awC:(AE.length:Int)<(p.params.length:Int):=by omega
    have gia:=mR 7 gm p.params gx
    have hap:=ant (most:=140737488355328 / 24) (sz:=2) aV (K++AE.map λx=>(⟨u.au,x.name⟩:aI)) ⟨u.au,x.name⟩ σ (by
     rw[Ve,Z7]
     omega)
    have aw7:(K++(AE++[x]).map λx=>(⟨u.au,x.name⟩:aI))=(K++AE.map λx=>(⟨u.au,x.name⟩:aI))++[⟨u.au,x.name⟩]:=by simp
    clear hl gx glt hx hlt wv hl';rw[aw7];have hch:SQ 2 (gd 2 1 [ε u.au,AV.str x.name])=.sl 2 [aV ⟨u.au,x.name⟩]:=rfl;simp only[aW,reduceCtorEq,OM,TX,TY,azO,T0,aA9,aAx,aBz,azk,Pk,tg,th,tj,tu,tD,tC,tG,awC,gia,gi1];show(Uv 2 _ _ (SQ 2 [aV ⟨u.au,x.name⟩]) _).bind _=_;rw[hap];simp only[aW,reduceCtorEq,gi1]
   ·intro s _;refine(Iq _ _ _).trans ?_;subst hq;rfl
   ·intro s _;simp only[aW,reduceCtorEq,hi1]
   ·intros;rename_i hb;cases hb
   ·rw[C8]
  ·intro s _;exact Iq _ _ _
  ·intro s _;simp only[aW,reduceCtorEq,ap5 DE]
  ·intros;rename_i hb;cases hb
 ·refine wrap_eq rfl (v:=.aM [.aA,.ah (lI r)]) ?_ (by rw[aL hf];rfl);show Kl (.agg (lq r)) σ=_;unfold Kl;simp only[aW,reduceCtorEq,AO,AP,A0,AU,A3,TT r hok,hf]
theorem abM(n:Int)(σ:Heap):Ot [.ah n] σ=δ (.bool (aX n 0 65535),σ):=by refine wrap_eq rfl ?_ rfl;show Th (.ah n) σ=_;unfold Th;simp only[aW,reduceCtorEq,kJ]
def FA(s:ByteArray):Bool:=if s=⟨#[]⟩then η else Lv s
theorem apE(s:ByteArray)(hs:kj s)(σ:Heap):TC [.str s] σ=δ (.bool (FA s),σ):=by
 refine wrap_eq rfl ?_ rfl;show TI (.str s) σ=_;unfold TI FA;by_cases h:s=⟨#[]⟩
 ·simp only[aW,reduceCtorEq,h]
 ·simp only[aW,reduceCtorEq,h,adS s hs]
def agG:fO:=⟨⟨#[]⟩,0,0,0,0,ι,[]⟩
def azx(p:eA)(nm:ByteArray):fO×Bool:=(p.params.find? λx=>decide (x.name=nm)).elim (agG,ι) λx=>(x,η)
def afs(r:iH)(k:aI):fO×Bool:=(r.dK.find? λu=>decide (u.au=k.unit)).elim (agG,ι) λu=>azx (lG u.jX r.bA).1 k.param
section
def aAE (a0:Int):Option Bool:=δ (aX a0 0 36000000)
theorem HS{a0:Int}{σ:Heap}{r:Bool}(h:aAE a0=δ r):Ds [(ε a0)] σ=δ ((i7 r),σ):=by refine ux (f:=TG) (y0:=(ε a0)) (enc:=λr:Bool=>(i7 r)) (T:=aAE a0) rfl rfl ?_ r h;unfold TG aAE;refine ay _ (kJ a0 0 36000000 σ) ?_;exact eB _ (bL _ _) ⟨rfl,rfl⟩
def HQ (a0:aI) (a1:aI):Option Int:=
 if ¬(a0.unit=a1.unit)then
  if a0.unit<a1.unit then
   δ (-1)
  else
  δ 1
 else
 δ (Ux a0.param.data.toList a1.param.data.toList)
theorem ak2{a0:aI}{a1:aI}{σ:Heap}{r:Int}(h:HQ a0 a1=δ r):Oz [(Λ (aV a0)),(Λ (aV a1))] σ=δ ((ε r),σ):=by
 refine uy (f:=Ts) (y0:=(Λ (aV a0))) (y1:=(Λ (aV a1))) (enc:=λr:Int=>(ε r)) (T:=HQ a0 a1) rfl rfl ?_ r h;unfold Ts HQ;refine ay _ rfl<|ay _ rfl<|ay _ rfl<|ay _ rfl<|ay _ (fN _ _ _) ?_;refine kE (p:=¬(a0.unit=a1.unit)) (λc2=>?_) (λc2=>?_)
 ·refine ay _ rfl<|ay _ rfl<|ay _ rfl ?_;refine kE (p:=a0.unit<a1.unit) (λc1=>?_) (λc1=>?_)
  ·exact eB _ (bL _ _) ⟨rfl,rfl⟩
  exact eB _ (bL _ _) ⟨rfl,rfl⟩
 refine ay _ rfl<|ay _ rfl<|ay _ rfl ?_;exact eB _ (bL _ _) ⟨rfl,rfl⟩
def HI (a0:(List gz)):Option Int:=
 kL a0 (λ(i8:Nat)e7(s1:Unit)=>(show Option (Lr Unit Unit Int)from
   if(!(aX e7.key.unit 1 9999))=η then
    δ (.ret 1)
   else
   (tq (kj e7.key.param) (xg e7.key.param)).bind λr9=>
   if(!r9)=η then
    δ (.ret 5)
   else
   if((e7.release&&(decide (¬(e7.value=(⟨0,0⟩:nP)))))||((decide (¬(e7.value.level=0)))&&(decide (¬(e7.value.iw=0)))))=η then
    δ (.ret 3)
   else
   if((!(aX e7.value.level 0 65535))||(!(aX e7.value.iw 0 999)))=η then
    δ (.ret 1)
   else
   if((!e7.Bb)&&((decide (¬(e7.cI=0)))||(decide (¬(e7.time=0)))))=η then
    δ (.ret 3)
   else
   if((!((aX e7.cI 0 36000000)))||(!((aX e7.time 0 36000000))))=η then
    δ (.ret 1)
   else
   (if decide (0<(i8:Int))=η then xW a0 (θ.wrap ((i8:Int) -1))else δ default).bind λbR=>
   (if decide (0<(i8:Int))=η then HQ bR.key e7.key else δ default).bind λdH=>
   if((decide (0<(i8:Int)))&&(decide (0<=dH)))=η then
    δ (.ret 7)
   else
   δ (.go ()))) (λs1=>δ ()) () (λb2=>
  δ 0) (λb2=>
  δ b2)
theorem aj7{a0:(List gz)}{σ:Heap}{r:Int}(h:HI a0=δ r):aAv [(sl 8 gE a0)] σ=δ ((ε r),σ):=by
 refine ux (f:=SR) (y0:=(sl 8 gE a0)) (enc:=λr:Int=>(ε r)) (T:=HI a0) rfl rfl ?_ r h;unfold SR HI;refine ay _ (fJ _ _ _) ?_;refine oz (B:=Unit) (R:=Int) (λ(i8:Nat)(s1:Unit)v w3=>v=[(ε 0),(ε (i8:Int))]/\σ=w3) (λ(b2:Unit)(q:LS)=>∃u2 u7,q=((Ψ 0),([u2,u7]:an),σ)) (λ(b2:Int)(q:LS)=>∃u7,q=(n9,([(ε b2),u7]:an),σ)) ?_ ?_ ⟨rfl,rfl⟩ ?_ ?_
 ·intro Ae i8 e7 s1 v w3 nG hI;obtain⟨rfl,rfl⟩:=hI;refine ay _ (gZ nG)<|oD<|ay _ (gy nG)<|ay _ rfl<|ay _ rfl<|ay _ (PK _ _ rfl)<|ay _ rfl<|ay _ (kJ e7.key.unit 1 9999 σ)<|ay _ rfl ?_;refine jE (c:=(!(aX e7.key.unit 1 9999))) (λjt=>?_) (λjt=>?_)
  ·exact cz (iD (by simp) ⟨_,rfl⟩)
  refine ay _ rfl ?_;refine iJ (λr9:Bool=>((i7 r9),σ)) (λr9 hr9=>(rY (e:=λr:Bool=>((i7 r),σ)) (λhs=>PN e7.key.param hs σ)) hr9) (λr9 hr9=>?_);refine ay _ rfl ?_;refine jE (c:=(!r9)) (λmL=>?_) (λmL=>?_)
  ·exact cz (iD (by simp) ⟨_,rfl⟩)
  refine ay _ rfl<|cZ (Λ (yt e7.value)) (λhg=>rfl)<|cZ (Λ (yt (⟨0,0⟩:nP))) (λhg=>rfl)<|cZ (i7 (decide (¬(e7.value=(⟨0,0⟩:nP))))) (λhg=>by(try rw[hg]);exact(aqw _ _))<|ay _ (ow _ _)<|fT (ε e7.value.level) (λhg=>rfl)<|fT (i7 (decide (¬(e7.value.level=0)))) (λhg=>by(try rw[hg]);exact(fN _ _ _))<|fT (i7 (decide (¬(e7.value.level=0)))) (λhg=>by(try rw[hg]);exact rfl)<|IP (ε e7.value.iw) (λhg=>rfl)<|IP (i7 (decide (¬(e7.value.iw=0)))) (λhg=>by(try rw[hg]);exact(fN _ _ _))<|fT (i7 ((decide (¬(e7.value.level=0)))&&(decide (¬(e7.value.iw=0))))) (λhg=>by(try rw[hg]);exact(ow _ _))<|ay _ (rV _ _) ?_;refine jE (c:=((e7.release&&(decide (¬(e7.value=(⟨0,0⟩:nP)))))||((decide (¬(e7.value.level=0)))&&(decide (¬(e7.value.iw=0)))))) (λoO=>?_) (λoO=>?_)
  ·exact cz (iD (by simp) ⟨_,rfl⟩)
  refine ay _ rfl<|ay _ (kJ e7.value.level 0 65535 σ)<|ay _ rfl<|fT (ε e7.value.iw) (λhg=>rfl)<|fT (i7 (aX e7.value.iw 0 999)) (λhg=>by(try rw[hg]);exact(dL (kJ e7.value.iw 0 999 σ)))<|fT (i7 (!(aX e7.value.iw 0 999))) (λhg=>by(try rw[hg]);exact rfl)<|ay _ (rV _ _) ?_;refine jE (c:=((!(aX e7.value.level 0 65535))||(!(aX e7.value.iw 0 999)))) (λkF=>?_) (λkF=>?_)
  ·exact cz (iD (by simp) ⟨_,rfl⟩)
  refine ay _ rfl<|ay _ rfl<|cZ (ε e7.cI) (λhg=>rfl)<|cZ (i7 (decide (¬(e7.cI=0)))) (λhg=>by(try rw[hg]);exact(fN _ _ _))<|cZ (i7 (decide (¬(e7.cI=0)))) (λhg=>by(try rw[hg]);exact rfl)<|agx (ε e7.time) (λhg=>rfl)<|agx (i7 (decide (¬(e7.time=0)))) (λhg=>by(try rw[hg]);exact(fN _ _ _))<|cZ (i7 ((decide (¬(e7.cI=0)))||(decide (¬(e7.time=0))))) (λhg=>by(try rw[hg]);exact(rV _ _))<|ay _ (ow _ _) ?_;refine jE (c:=((!e7.Bb)&&((decide (¬(e7.cI=0)))||(decide (¬(e7.time=0)))))) (λjN=>?_) (λjN=>?_)
  ·exact cz (iD (by simp) ⟨_,rfl⟩)
  refine ay _ rfl<|ay _ (HS (σ:=σ) (r:=(aX e7.cI 0 36000000)) rfl)<|ay _ rfl<|fT (ε e7.time) (λhg=>rfl)<|fT (i7 ((aX e7.time 0 36000000))) (λhg=>by(try rw[hg]);exact(dL (HS (σ:=σ) (r:=(aX e7.time 0 36000000)) rfl)))<|fT (i7 (!((aX e7.time 0 36000000)))) (λhg=>by(try rw[hg]);exact rfl)<|ay _ (rV _ _) ?_;refine jE (c:=((!((aX e7.cI 0 36000000)))||(!((aX e7.time 0 36000000))))) (λjr=>?_) (λjr=>?_)
  ·exact cz (iD (by simp) ⟨_,rfl⟩)
  refine ay _ rfl<|cZ (sl 8 gE a0) (λhg=>rfl)<|cZ (ε (i8:Int)) (λhg=>rfl)<|cZ (ε (θ.wrap ((i8:Int) -1))) (λhg=>by(try rw[hg]);exact rfl) ?_;refine vH (ω:=gz) (λbR=>(Sf (gE bR))) (λhg bR ah0=>by(try rw[hg]);exact D3 ah0) (λbR ah0=>?_);refine cZ (Sf (gE bR)) (λhg=>by(try rw[hg]);exact rfl)<|cZ (Λ (aV bR.key)) (λhg=>by(try rw[hg]);exact rfl)<|cZ (Λ (aV e7.key)) (λhg=>rfl) ?_;refine vH (ω:=Int) (λdH=>(ε dH)) (λhg dH Mj=>by(try rw[hg]);exact(dL (ak2 Mj))) (λdH Mj=>?_);refine cZ (i7 (decide (0<=dH))) (λhg=>by(try rw[hg]);exact rfl)<|ay _ (ow _ _) ?_;refine jE (c:=((decide (0<(i8:Int)))&&(decide (0<=dH)))) (λfq=>?_) (λfq=>?_)
  ·exact cz (iD (by simp) ⟨_,rfl⟩)
  refine ay _ (fK nG Ae) ?_;exact cz (oA ⟨rfl,rfl⟩)
 ·intro hl s1 v w3 hI;obtain⟨rfl,rfl⟩:=hI;refine ay _ (iu _)<|oC ?_;exact cz ⟨by simp,⟨_,_,rfl⟩⟩
 ·intro hl b2 q hq;obtain⟨u2,u7,rfl⟩:=hq;refine jl rfl ?_;exact eB _ (bL _ _) ⟨rfl,rfl⟩
 ·intro hl b2 q hq;obtain⟨u7,rfl⟩:=hq;refine tM rfl<|jl rfl ?_;exact eB _ (bL _ _) ⟨rfl,rfl⟩
def Ie (a0:(List bl)):Option Int:=
 if 300<(a0.length:Int)then
  δ 2
 else
 kL a0 (λ(i8:Nat)e7(s1:Int)=>(show Option (Lr Int Int Int)from
   if(!(aX e7.au 1 9999999))=η then
    δ (.ret 1)
   else
   (if decide (0<(i8:Int))=η then xW a0 (θ.wrap ((i8:Int) -1))else δ default).bind λx9=>
   if((decide (0<(i8:Int)))&&(decide (e7.au<=x9.au)))=η then
    δ (.ret 7)
   else
   (if decide (¬(e7.title=(⟨#[]⟩:ByteArray)))=η then tq (kj e7.title) (Lv e7.title)else δ default).bind λjf=>
   if((decide (¬(e7.title=(⟨#[]⟩:ByteArray))))&&(!jf))=η then
    δ (.ret 3)
   else
   if(((((!((aX e7.cI 0 36000000)))||(!((aX e7.up 0 36000000))))||(!((aX e7.down 0 36000000))))||(!((aX e7.other 0 36000000))))||(!(aX e7.cM (-1) 36000000)))=η then
    δ (.ret 1)
   else
   if ¬((qV e7.fA)=0)then
    δ (.ret (qV e7.fA))
   else
   if 2000<(e7.ef.length:Int)then
    δ (.ret 2)
   else
   (HI e7.ef).bind λdH=>
   if ¬(dH=0)then
    δ (.ret dH)
   else
   δ (.go (θ.wrap (s1+(e7.ef.length:Int)))))) (λs1=>δ s1) 0 (λb2=>
  δ (if(decide (10000<b2))=η then 2 else 0)) (λb2=>
  δ b2)
theorem ach{a0:(List bl)}{σ:Heap}{r:Int}(h:Ie a0=δ r):KI [(sl 11 bn a0)] σ=δ ((ε r),σ):=by
 refine ux (f:=Uz) (y0:=(sl 11 bn a0)) (enc:=λr:Int=>(ε r)) (T:=Ie a0) (jD (vW (λ_=>rfl) _) rfl) rfl ?_ r h;unfold Uz Ie;refine ay _ (fJ _ _ _)<|ay _ rfl ?_;refine kE (p:=300<(a0.length:Int)) (λiZ=>?_) (λiZ=>?_)
 ·exact eB _ (bL _ _) ⟨rfl,rfl⟩
 refine ay _ (fJ _ _ _) ?_;refine oz (B:=Int) (R:=Int) (λ(i8:Nat)(s1:Int)v w3=>v=[(ε 0),(ε s1),(ε (i8:Int))]/\σ=w3) (λ(b2:Int)(q:LS)=>∃u2 Ns,q=((Ψ 0),([u2,(ε b2),Ns]:an),σ)) (λ(b2:Int)(q:LS)=>∃u3 Ns,q=(n9,([(ε b2),u3,Ns]:an),σ)) ?_ ?_ ⟨rfl,rfl⟩ ?_ ?_
 ·intro Ae i8 e7 s1 v w3 nG hI;obtain⟨rfl,rfl⟩:=hI;refine ay _ (gZ nG)<|oD<|ay _ (gy nG)<|ay _ rfl<|ay _ rfl<|ay _ (IE _ _ rfl)<|ay _ rfl<|ay _ (kJ e7.au 1 9999999 σ)<|ay _ rfl ?_;refine jE (c:=(!(aX e7.au 1 9999999))) (λjt=>?_) (λjt=>?_)
  ·exact cz (iD (by simp) ⟨_,_,rfl⟩)
  refine ay _ rfl<|cZ (ε e7.au) (λhg=>rfl)<|cZ (sl 11 bn a0) (λhg=>rfl)<|cZ (ε (i8:Int)) (λhg=>rfl)<|cZ (ε (θ.wrap ((i8:Int) -1))) (λhg=>by(try rw[hg]);exact rfl) ?_;refine vH (ω:=bl) (λx9=>(Sf (bn x9))) (λhg x9 hx9=>by(try rw[hg]);exact D3 hx9) (λx9 hx9=>?_);refine cZ (Sf (bn x9)) (λhg=>by(try rw[hg]);exact rfl)<|cZ (ε x9.au) (λhg=>by(try rw[hg]);exact rfl)<|cZ (i7 (decide (e7.au<=x9.au))) (λhg=>by(try rw[hg]);exact rfl)<|ay _ (ow _ _) ?_;refine jE (c:=((decide (0<(i8:Int)))&&(decide (e7.au<=x9.au)))) (λmL=>?_) (λmL=>?_)
  ·exact cz (iD (by simp) ⟨_,_,rfl⟩)
  refine ay _ rfl<|ay _ (azj _ _)<|cZ (AV.str e7.title) (λhg=>rfl) ?_;refine vH (ω:=Bool) (λjf=>(i7 jf)) (λhg jf ahM=>by(try rw[hg]);exact(dL ((rY (e:=λr:Bool=>((i7 r),σ)) (λhs=>adS e7.title hs σ)) ahM))) (λjf ahM=>?_);refine cZ (i7 (!jf)) (λhg=>by(try rw[hg]);exact rfl)<|ay _ (ow _ _) ?_;refine jE (c:=((decide (¬(e7.title=(⟨#[]⟩:ByteArray))))&&(!jf))) (λoO=>?_) (λoO=>?_)
  ·exact cz (iD (by simp) ⟨_,_,rfl⟩)
  refine ay _ rfl<|ay _ (HS (σ:=σ) (r:=(aX e7.cI 0 36000000)) rfl)<|ay _ rfl<|fT (ε e7.up) (λhg=>rfl)<|fT (i7 ((aX e7.up 0 36000000))) (λhg=>by(try rw[hg]);exact(dL (HS (σ:=σ) (r:=(aX e7.up 0 36000000)) rfl)))<|fT (i7 (!((aX e7.up 0 36000000)))) (λhg=>by(try rw[hg]);exact rfl)<|ay _ (rV _ _)<|fT (ε e7.down) (λhg=>rfl)<|fT (i7 ((aX e7.down 0 36000000))) (λhg=>by(try rw[hg]);exact(dL (HS (σ:=σ) (r:=(aX e7.down 0 36000000)) rfl)))<|fT (i7 (!((aX e7.down 0 36000000)))) (λhg=>by(try rw[hg]);exact rfl)<|ay _ (rV _ _)<|fT (ε e7.other) (λhg=>rfl)<|fT (i7 ((aX e7.other 0 36000000))) (λhg=>by(try rw[hg]);exact(dL (HS (σ:=σ) (r:=(aX e7.other 0 36000000)) rfl)))<|fT (i7 (!((aX e7.other 0 36000000)))) (λhg=>by(try rw[hg]);exact rfl)<|ay _ (rV _ _)<|fT (ε e7.cM) (λhg=>rfl)<|fT (i7 (aX e7.cM (-1) 36000000)) (λhg=>by(try rw[hg]);exact(dL (kJ e7.cM (-1) 36000000 σ)))<|fT (i7 (!(aX e7.cM (-1) 36000000))) (λhg=>by(try rw[hg]);exact rfl)<|ay _ (rV _ _) ?_;refine jE (c:=(((((!((aX e7.cI 0 36000000)))||(!((aX e7.up 0 36000000))))||(!((aX e7.down 0 36000000))))||(!((aX e7.other 0 36000000))))||(!(aX e7.cM (-1) 36000000)))) (λkF=>?_) (λkF=>?_)
  ·exact cz (iD (by simp) ⟨_,_,rfl⟩)
  refine ay _ rfl<|ay _ (aa4 e7.fA σ)<|ay _ (fN _ _ _) ?_;refine kE (p:=¬((qV e7.fA)=0)) (λjN=>?_) (λjN=>?_)
  ·exact cz (iD (by simp) ⟨_,_,rfl⟩)
  refine ay (sl 8 gE e7.ef) rfl<|ay _ (fJ _ _ _)<|ay _ rfl ?_;refine kE (p:=2000<(e7.ef.length:Int)) (λjr=>?_) (λjr=>?_)
  ·exact cz (iD (by simp) ⟨_,_,rfl⟩)
  refine ay (sl 8 gE e7.ef) rfl ?_;refine iJ (λdH:Int=>((ε dH),σ)) (λdH Mj=>aj7 Mj) (λdH Mj=>?_);refine ay _ (fN _ _ _) ?_;refine kE (p:=¬(dH=0)) (λfq=>?_) (λfq=>?_)
  ·exact cz (iD (by simp) ⟨_,_,rfl⟩)
  refine ay (sl 8 gE e7.ef) rfl<|ay _ (fJ _ _ _)<|ay _ rfl<|ay _ (fK nG Ae) ?_;exact cz (oA ⟨rfl,rfl⟩)
 ·intro hl s1 v w3 hI;obtain⟨rfl,rfl⟩:=hI;refine ay _ (iu _)<|oC ?_;exact cz ⟨by simp,⟨_,_,rfl⟩⟩
 ·intro hl b2 q hq;obtain⟨u2,Ns,rfl⟩:=hq;refine jl rfl<|ay _ rfl<|ay _ (oZ (decide (10000<b2)) 2 σ) ?_;exact eB _ (bL _ _) ⟨rfl,rfl⟩
 ·intro hl b2 q hq;obtain⟨u3,Ns,rfl⟩:=hq;refine tM rfl<|jl rfl ?_;exact eB _ (bL _ _) ⟨rfl,rfl⟩
def H8 (a0:iH):Option (List (aI×Bool)):=
 (tq (D7 a0) (((if lI a0=0 then pZ a0 else[]:List aI),lI a0))).bind λr1=>
 kL r1.1 (λ(xP:Nat)lY(s4:(List (aI×Bool)))=>(show Option (Lr (List (aI×Bool)) (List (aI×Bool)) Unit)from
   δ (.go (eT lY η s4)))) (λs4=>δ s4) ([]:List (aI×Bool)) (λb5=>
  δ b5) (λb5=>
  ξ)
theorem al9{a0:iH}{σ:Heap}{r:(List (aI×Bool))}(h:H8 a0=δ r):TW [(Λ (lq a0))] σ=δ ((xH (λx=>(Λ (aV x))) (λx=>(i7 x)) r),σ):=by
 refine ux (f:=T7) (y0:=(Λ (lq a0))) (enc:=λr:(List (aI×Bool))=>(xH (λx=>(Λ (aV x))) (λx=>(i7 x)) r)) (T:=H8 a0) rfl rfl ?_ r h;unfold T7 H8;refine ay _ rfl<|ay _ rfl ?_;refine iJ (λr1:((List aI)×Int)=>((XF [(sl 2 aV r1.1),(ε r1.2)]),σ)) (λr1 iB=>(rY (e:=λr:((List aI)×Int)=>((XF [(sl 2 aV r.1),(ε r.2)]),σ)) (λhs=>VE a0 hs σ)) iB) (λr1 iB=>?_);refine ay (sl 2 aV r1.1) rfl<|ay _ rfl ?_;have hp2:Hp σ σ []:=Ls σ;have hp3:Hp σ (σ++[YE []]) [((Vq σ.length),(aBX (V4 (λp=>((λx=>(Λ (aV x))) p.1,(λx=>(i7 x)) p.2)) ([]:List (aI×Bool)))))]:=azA hp2;refine ay _ (fJ _ _ _) ?_;refine oz (B:=(List (aI×Bool))) (R:=Unit) (λ(xP:Nat)(s4:(List (aI×Bool)))v w6=>v=[(ε (xP:Int))]/\Hp σ w6 [((Vq σ.length),(aBX (V4 (λp=>((λx=>(Λ (aV x))) p.1,(λx=>(i7 x)) p.2)) s4)))]) (λ(b5:(List (aI×Bool)))(q:LS)=>∃u16 w7,q=((Ψ 0),([u16]:an),w7)/\Hp σ w7 [((Vq σ.length),(aBX (V4 (λp=>((λx=>(Λ (aV x))) p.1,(λx=>(i7 x)) p.2)) b5)))]) (λ(b5:Unit)(q:LS)=>False) ?_ ?_ ⟨rfl,hp3⟩ ?_ ?_
 ·intro azo xP lY s4 v w6 F9 hI;obtain⟨rfl,za⟩:=hI;refine ay _ (gZ F9)<|oD<|ay _ (gy F9)<|ay _ rfl<|ay _ rfl<|ay _ (Li _ _ rfl)<|ay _ rfl ?_;obtain⟨w12,e14,ahK⟩:=aA7 (ek:=(.s [0,2])) (eK:=(λx=>(Λ (aV x)))) (eV:=(λx=>(i7 x))) za 0 rfl tI lY η rfl;change Hp σ w12 [((Vq σ.length),(aBX (V4 (λp=>((λx=>(Λ (aV x))) p.1,(λx=>(i7 x)) p.2)) (eT lY η s4))))]at ahK;refine ay w12 e14<|ay _ (fK F9 azo) ?_;exact cz (oA ⟨rfl,ahK⟩)
 ·intro hl s4 v w6 hI;obtain⟨rfl,za⟩:=hI;refine ay _ (iu _)<|oC ?_;exact cz ⟨by simp,⟨_,_,rfl,za⟩⟩
 ·intro hl b5 q hq;obtain⟨u16,w7,rfl,hp9⟩:=hq;refine jl rfl ?_;exact eB _ (FF hp9 (aga hp9 (k:=0) rfl (by intro p hp;obtain⟨x,_,rfl⟩:=fL.1 hp;exact⟨(vF (DE _)),(AZ _)⟩))) ⟨rfl,rfl⟩
 ·intro hl b5 q hq;exact False.elim hq
def HR (a0:aI) (a1:aI):Option Bool:=
 if ¬(a0.unit=a1.unit)then
  δ (decide (a0.unit<a1.unit))
 else
 δ (decide ((Ux a0.param.data.toList a1.param.data.toList)<0))
theorem ak4{a0:aI}{a1:aI}{σ:Heap}{r:Bool}(h:HR a0 a1=δ r):auz [(Λ (aV a0)),(Λ (aV a1))] σ=δ ((i7 r),σ):=by
 refine uy (f:=az7) (y0:=(Λ (aV a0))) (y1:=(Λ (aV a1))) (enc:=λr:Bool=>(i7 r)) (T:=HR a0 a1) rfl rfl ?_ r h;unfold az7 HR;refine ay _ rfl<|ay _ rfl<|ay _ rfl<|ay _ rfl<|ay _ (fN _ _ _) ?_;refine kE (p:=¬(a0.unit=a1.unit)) (λc1=>?_) (λc1=>?_)
 ·refine ay _ rfl<|ay _ rfl<|ay _ rfl ?_;exact eB _ (bL _ _) ⟨rfl,rfl⟩
 refine ay _ rfl<|ay _ rfl<|ay _ rfl<|ay _ rfl ?_;exact eB _ (bL _ _) ⟨rfl,rfl⟩
def EY (a0:iH) (a1:(List lF)):Option Int:=
 (tq (D7 a0) (lI a0)).bind λr1=>
 (tq (([r1,(if(decide (200<(a1.length:Int)))=η then 2 else 0)]:(List Int)).length<=aZ) ((([r1,(if(decide (200<(a1.length:Int)))=η then 2 else 0)]:(List Int)).find? λn=>decide (¬n=0)).getD 0)).bind λr2=>
 if ¬(r2=0)then
  δ r2
 else
 (H8 a0).bind λr3=>
 kL a1 (λ(xP:Nat)lY(s4:Unit)=>(show Option (Lr Unit Unit Int)from
   if(!(aX lY.au 1 999))=η then
    δ (.ret 1)
   else
   (if decide (0<(xP:Int))=η then xW a1 (θ.wrap ((xP:Int) -1))else δ default).bind λdc=>
   if((decide (0<(xP:Int)))&&(decide (lY.au<=dc.au)))=η then
    δ (.ret 7)
   else
   (tq (kj lY.title) (FA lY.title)).bind λqB=>
   if(!qB)=η then
    δ (.ret 3)
   else
   if 2000<(lY.kZ.length:Int)then
    δ (.ret 2)
   else
   kL lY.kZ (λ(i21:Nat)CZ(AH:Unit)=>(show Option (Lr Unit Unit Int)from
     if(!((dO CZ.key r3).getD ι))=η then
      δ (.ret 8)
     else
     if(!(aX CZ.level 0 65535))=η then
      δ (.ret 1)
     else
     (if decide (0<(i21:Int))=η then xW lY.kZ (θ.wrap ((i21:Int) -1))else δ default).bind λey=>
     (if decide (0<(i21:Int))=η then HR ey.key CZ.key else δ default).bind λuk=>
     if((decide (0<(i21:Int)))&&(!uk))=η then
      δ (.ret 7)
     else
     δ (.go ()))) (λAH=>δ ()) () (λGx=>
    δ (.go ())) (λGx=>
    δ (.ret Gx)))) (λs4=>δ ()) () (λb5=>
  δ 0) (λb5=>
  δ b5)
theorem aan{a0:iH}{a1:(List lF)}{σ:Heap}{r:Int}(h:EY a0 a1=δ r):N6 [(Λ (lq a0)),(sl 3 fk a1)] σ=δ ((ε r),σ):=by
 refine uy (f:=Sz) (y0:=(Λ (lq a0))) (y1:=(sl 3 fk a1)) (enc:=λr:Int=>(ε r)) (T:=EY a0 a1) rfl rfl ?_ r h;unfold Sz EY;refine ay _ rfl<|ay _ rfl ?_;refine iJ (λr1:Int=>((ε r1),σ)) (λr1 iB=>(rY (e:=λr:Int=>((ε r),σ)) (λhs=>TT a0 hs σ)) iB) (λr1 iB=>?_);refine ay _ (fJ _ _ _)<|ay _ rfl<|ay _ (oZ (decide (200<(a1.length:Int))) 2 σ)<|ay (sl 1 nT ([r1,(if(decide (200<(a1.length:Int)))=η then 2 else 0)]:(List Int))) rfl ?_;refine iJ (λr2:Int=>((ε r2),σ)) (λr2 mg=>(rY (e:=λr:Int=>((ε r),σ)) (λhs=>wO ([r1,(if(decide (200<(a1.length:Int)))=η then 2 else 0)]:(List Int)) hs σ)) mg) (λr2 mg=>?_);refine ay _ (fN _ _ _) ?_;refine kE (p:=¬(r2=0)) (λwk=>?_) (λwk=>?_)
 ·exact eB _ (bL _ _) ⟨rfl,rfl⟩
 refine ay _ rfl ?_;refine iJ (λr3:(List (aI×Bool))=>((xH (λx=>(Λ (aV x))) (λx=>(i7 x)) r3),σ)) (λr3 uV=>al9 uV) (λr3 uV=>?_);refine ay _ (fJ _ _ _) ?_;refine oz (B:=Unit) (R:=Int) (λ(xP:Nat)(s4:Unit)v w6=>∃u4,v=[u4,(ε (xP:Int))]/\σ=w6) (λ(b5:Unit)(q:LS)=>∃u4 Nv,q=((Ψ 0),([u4,Nv]:an),σ)) (λ(b5:Int)(q:LS)=>∃Nv,q=(n9,([(ε b5),Nv]:an),σ)) ?_ ?_ ⟨_,rfl,rfl⟩ ?_ ?_
 ·intro azo xP lY s4 v w6 F9 hI;obtain⟨u4,rfl,rfl⟩:=hI;refine ay _ (gZ F9)<|oD<|ay _ (gy F9)<|ay _ rfl<|ay _ rfl<|ay _ (acO _ _ rfl)<|ay _ rfl<|ay _ (kJ lY.au 1 999 σ)<|ay _ rfl ?_;refine jE (c:=(!(aX lY.au 1 999))) (λAo=>?_) (λAo=>?_)
  ·exact cz (iD (by simp) ⟨_,rfl⟩)
  refine ay _ rfl<|cZ (ε lY.au) (λhg=>rfl)<|cZ (sl 3 fk a1) (λhg=>rfl)<|cZ (ε (xP:Int)) (λhg=>rfl)<|cZ (ε (θ.wrap ((xP:Int) -1))) (λhg=>by(try rw[hg]);exact rfl) ?_;refine vH (ω:=lF) (λdc=>(Sf (fk dc))) (λhg dc ah2=>by(try rw[hg]);exact D3 ah2) (λdc ah2=>?_);refine cZ (Sf (fk dc)) (λhg=>by(try rw[hg]);exact rfl)<|cZ (ε dc.au) (λhg=>by(try rw[hg]);exact rfl)<|cZ (i7 (decide (lY.au<=dc.au))) (λhg=>by(try rw[hg]);exact rfl)<|ay _ (ow _ _) ?_;refine jE (c:=((decide (0<(xP:Int)))&&(decide (lY.au<=dc.au)))) (λiA=>?_) (λiA=>?_)
  ·exact cz (iD (by simp) ⟨_,rfl⟩)
  refine ay _ rfl ?_;refine iJ (λqB:Bool=>((i7 qB),σ)) (λqB ahO=>(rY (e:=λr:Bool=>((i7 r),σ)) (λhs=>apE lY.title hs σ)) ahO) (λqB ahO=>?_);refine ay _ rfl ?_;refine jE (c:=(!qB)) (λnD=>?_) (λnD=>?_)
  ·exact cz (iD (by simp) ⟨_,rfl⟩)
  refine ay (sl 3 tv lY.kZ) rfl<|ay _ (fJ _ _ _)<|ay _ rfl ?_;refine kE (p:=2000<(lY.kZ.length:Int)) (λpO=>?_) (λpO=>?_)
  ·exact cz (iD (by simp) ⟨_,rfl⟩)
  refine ay (sl 3 tv lY.kZ) rfl<|ay _ (fJ _ _ _) ?_;refine oz (B:=Unit) (R:=Int) (λ(i21:Nat)(AH:Unit)v Z1=>∃u4,v=[u4,(p6 (fk lY)),(ε (i21:Int))]/\σ=Z1) (λ(Gx:Unit)(q:LS)=>∃u4 u8 NC,q=((Ψ 3),([u4,u8,NC]:an),σ)) (λ(Gx:Int)(q:LS)=>∃u8 NC,q=(n9,([(ε Gx),u8,NC]:an),σ)) ?_ ?_ ⟨_,rfl,rfl⟩ ?_ ?_
  ·intro auX i21 CZ AH v Z1 XD hI;obtain⟨u4,rfl,rfl⟩:=hI;refine ay _ (gZ XD)<|oD<|ay _ (gy XD)<|ay _ rfl<|ay _ rfl<|ay _ (ab0 _ _ rfl)<|ay _ rfl<|ay _ (ap8 (ek:=(.s [0,2])) (eK:=(λx=>(Λ (aV x)))) (eV:=(λx=>(i7 x))) tI CZ.key ι rfl)<|ay _ rfl ?_;refine jE (c:=(!((dO CZ.key r3).getD ι))) (λlz=>?_) (λlz=>?_)
   ·exact cz (iD (by simp) ⟨_,_,rfl⟩)
   refine ay _ rfl<|ay _ (abM CZ.level σ)<|ay _ rfl ?_;refine jE (c:=(!(aX CZ.level 0 65535))) (λiL=>?_) (λiL=>?_)
   ·exact cz (iD (by simp) ⟨_,_,rfl⟩)
   refine ay _ rfl<|ay _ rfl<|cZ (sl 3 tv lY.kZ) (λhg=>rfl)<|cZ (ε (i21:Int)) (λhg=>rfl)<|cZ (ε (θ.wrap ((i21:Int) -1))) (λhg=>by(try rw[hg]);exact rfl) ?_;refine vH (ω:=zC) (λey=>(Sf (tv ey))) (λhg ey ah3=>by(try rw[hg]);exact D3 ah3) (λey ah3=>?_);refine cZ (Sf (tv ey)) (λhg=>by(try rw[hg]);exact rfl)<|cZ (Λ (aV ey.key)) (λhg=>by(try rw[hg]);exact rfl)<|cZ (Λ (aV CZ.key)) (λhg=>rfl) ?_;refine vH (ω:=Bool) (λuk=>(i7 uk)) (λhg uk ahP=>by(try rw[hg]);exact(dL (ak4 ahP))) (λuk ahP=>?_);refine cZ (i7 (!uk)) (λhg=>by(try rw[hg]);exact rfl)<|ay _ (ow _ _) ?_;refine jE (c:=((decide (0<(i21:Int)))&&(!uk))) (λjc=>?_) (λjc=>?_)
   ·exact cz (iD (by simp) ⟨_,_,rfl⟩)
   refine ay _ (fK XD auX) ?_;exact cz (oA ⟨_,rfl,rfl⟩)
  ·intro hl AH v Z1 hI;obtain⟨u4,rfl,rfl⟩:=hI;refine ay _ (iu _)<|oC ?_;exact cz ⟨by simp,⟨_,_,_,rfl⟩⟩
  ·intro hl Gx q hq;obtain⟨u4,u8,NC,rfl⟩:=hq;refine jl rfl<|ay _ (fK F9 azo) ?_;exact cz (oA ⟨_,rfl,rfl⟩)
  ·intro hl Gx q hq;obtain⟨u8,NC,rfl⟩:=hq;refine tM rfl<|jl rfl ?_;exact cz (iD (by simp) ⟨_,rfl⟩)
 ·intro hl s4 v w6 hI;obtain⟨u4,rfl,rfl⟩:=hI;refine ay _ (iu _)<|oC ?_;exact cz ⟨by simp,⟨_,_,rfl⟩⟩
 ·intro hl b5 q hq;obtain⟨u4,Nv,rfl⟩:=hq;refine jl rfl ?_;exact eB _ (bL _ _) ⟨rfl,rfl⟩
 ·intro hl b5 q hq;obtain⟨Nv,rfl⟩:=hq;refine tM rfl<|jl rfl ?_;exact eB _ (bL _ _) ⟨rfl,rfl⟩
def HV (a0:(List lF)) (a1:aI) (a2:nP):Option (Int×Int):=
 if((decide (¬(a2.level=0)))&&(decide (¬(a2.iw=0))))=η then
  δ (0,3)
 else
 if(!(aX a2.level 0 65535))=η then
  δ (0,1)
 else
 if a2.iw=0 then
  δ (a2.level,0)
 else
 kL a0 (λ(i8:Nat)e7(s1:Unit)=>(show Option (Lr Unit Unit Int)from
   if ¬(e7.au=a2.iw)then
    δ (.go ())
   else
   kL e7.kZ (λ(i16:Nat)tY(s9:Unit)=>(show Option (Lr Unit Unit Int)from
     if tY.key=a1 then
      δ (.ret tY.level)
     else
     δ (.go ()))) (λs9=>δ ()) () (λnC=>
    δ (.brk ())) (λnC=>
    δ (.ret nC)))) (λs1=>δ ()) () (λb2=>
  δ (0,8)) (λb2=>
  δ (b2,0))
theorem abl{a0:(List lF)}{a1:aI}{a2:nP}{σ:Heap}{r:(Int×Int)}(h:HV a0 a1 a2=δ r):Ku [(sl 3 fk a0),(Λ (aV a1)),(Λ (yt a2))] σ=δ ((XF [(ε r.1),(ε r.2)]),σ):=by
 refine aAd (f:=ar1) (y0:=(sl 3 fk a0)) (y1:=(Λ (aV a1))) (y2:=(Λ (yt a2))) (enc:=λr:(Int×Int)=>(XF [(ε r.1),(ε r.2)])) (T:=HV a0 a1 a2) rfl rfl ?_ r h;unfold ar1 HV;refine ay _ rfl<|ay _ rfl<|ay _ rfl<|ay _ (fN _ _ _)<|cZ (ε a2.iw) (λhg=>rfl)<|cZ (i7 (decide (¬(a2.iw=0)))) (λhg=>by(try rw[hg]);exact(fN _ _ _))<|ay _ (ow _ _) ?_;refine jE (c:=((decide (¬(a2.level=0)))&&(decide (¬(a2.iw=0))))) (λkN=>?_) (λkN=>?_)
 ·exact eB _ (bL _ _) ⟨rfl,rfl⟩
 refine ay _ rfl<|ay _ (abM a2.level σ)<|ay _ rfl ?_;refine jE (c:=(!(aX a2.level 0 65535))) (λkG=>?_) (λkG=>?_)
 ·exact eB _ (bL _ _) ⟨rfl,rfl⟩
 refine ay _ rfl<|ay _ (gK _ _ _) ?_;refine kE (p:=a2.iw=0) (λiZ=>?_) (λiZ=>?_)
 ·refine ay _ rfl ?_;exact eB _ (bL _ _) ⟨rfl,rfl⟩
 refine ay _ (fJ _ _ _) ?_;refine oz (B:=Unit) (R:=Int) (λ(i8:Nat)(s1:Unit)v w3=>v=[(p6 (aV a1)),(p6 (yt a2)),(ε 0),(ε 0),(ε (i8:Int))]/\σ=w3) (λ(b2:Unit)(q:LS)=>∃u4 u5 u6 u7 Ny,q=((Ψ 0),([u4,u5,u6,u7,Ny]:an),σ)) (λ(b2:Int)(q:LS)=>∃u4 u5 Ny,q=(n9,([u4,u5,(ε b2),(ε 0),Ny]:an),σ)) ?_ ?_ ⟨rfl,rfl⟩ ?_ ?_
 ·intro Ae i8 e7 s1 v w3 nG hI;obtain⟨rfl,rfl⟩:=hI;refine ay _ (gZ nG)<|oD<|ay _ (gy nG)<|ay _ rfl<|ay _ rfl<|ay _ (acO _ _ rfl)<|ay _ rfl<|ay _ rfl<|ay _ rfl<|ay _ (fN _ _ _) ?_;refine kE (p:=¬(e7.au=a2.iw)) (λjt=>?_) (λjt=>?_)
  ·refine ay _ (fK nG Ae) ?_;exact cz (oA ⟨rfl,rfl⟩)
  refine ay (sl 3 tv e7.kZ) rfl<|ay _ (fJ _ _ _) ?_;refine oz (B:=Unit) (R:=Int) (λ(i16:Nat)(s9:Unit)v AI=>v=[(p6 (aV a1)),(ε 0),(ε 0),(ε (i16:Int))]/\σ=AI) (λ(nC:Unit)(q:LS)=>∃u4 u6 u7 Nz,q=((Ψ 2),([u4,u6,u7,Nz]:an),σ)) (λ(nC:Int)(q:LS)=>∃u4 Nz,q=(n9,([u4,(ε nC),(ε 0),Nz]:an),σ)) ?_ ?_ ⟨rfl,rfl⟩ ?_ ?_
  ·intro LF i16 tY s9 v AI Ad hI;obtain⟨rfl,rfl⟩:=hI;refine ay _ (gZ Ad)<|oD<|ay _ (gy Ad)<|ay _ rfl<|ay _ rfl<|ay _ (ab0 _ _ rfl)<|ay _ rfl<|ay _ rfl<|ay _ (af2 _ _) ?_;refine kE (p:=tY.key=a1) (λmL=>?_) (λmL=>?_)
   ·refine ay _ rfl ?_;exact cz (iD (by simp) ⟨_,_,rfl⟩)
   refine ay _ (fK Ad LF) ?_;exact cz (oA ⟨rfl,rfl⟩)
  ·intro hl s9 v AI hI;obtain⟨rfl,rfl⟩:=hI;refine ay _ (iu _)<|oC ?_;exact cz ⟨by simp,⟨_,_,_,_,rfl⟩⟩
  ·intro hl nC q hq;obtain⟨u4,u6,u7,Nz,rfl⟩:=hq;refine jl rfl ?_;exact cz (asS (by simp) ⟨_,_,_,_,_,rfl⟩)
  ·intro hl nC q hq;obtain⟨u4,Nz,rfl⟩:=hq;refine tM rfl<|jl rfl ?_;exact cz (iD (by simp) ⟨_,_,_,rfl⟩)
 ·intro hl s1 v w3 hI;obtain⟨rfl,rfl⟩:=hI;refine ay _ (iu _)<|oC ?_;exact cz ⟨by simp,⟨_,_,_,_,_,rfl⟩⟩
 ·intro hl b2 q hq;obtain⟨u4,u5,u6,u7,Ny,rfl⟩:=hq;refine jl rfl ?_;exact eB _ (bL _ _) ⟨rfl,rfl⟩
 ·intro hl b2 q hq;obtain⟨u4,u5,Ny,rfl⟩:=hq;refine tM rfl<|jl rfl ?_;exact eB _ (bL _ _) ⟨rfl,rfl⟩
def HK (a0:iH) (a1:(List lF)) (a2:(List bl)):Option Int:=
 (EY a0 a1).bind λr1=>
 (Ie a2).bind λr2=>
 (tq (([r1,r2]:(List Int)).length<=aZ) ((([r1,r2]:(List Int)).find? λn=>decide (¬n=0)).getD 0)).bind λr3=>
 if ¬(r3=0)then
  δ r3
 else
 (tq (D7 a0) (((if lI a0=0 then pZ a0 else[]:List aI),lI a0))).bind λr4=>
 kL r4.1 (λ(Zt:Nat)Rm(s7:(List (aI×Bool)))=>(show Option (Lr (List (aI×Bool)) (List (aI×Bool)) Unit)from
   δ (.go (eT Rm η s7)))) (λs7=>δ s7) ([]:List (aI×Bool)) (λb8=>
  kL a2 (λ(aAT:Nat)MI(sS:Unit)=>(show Option (Lr Unit Unit Int)from
    kL MI.ef (λ(i33:Nat)Jw(RU:Unit)=>(show Option (Lr Unit Unit Int)from
      if(!((dO Jw.key b8).getD ι))=η then
       δ (.ret 8)
      else
      (HV a1 Jw.key Jw.value).bind λjO=>
      if ¬(jO.2=0)then
       δ (.ret jO.2)
      else
      δ (.go ()))) (λRU=>δ ()) () (λGB=>
     δ (.go ())) (λGB=>
     δ (.ret GB)))) (λsS=>δ ()) () (λGz=>
   δ 0) (λGz=>
   δ Gz)) (λb8=>
  ξ)
theorem akj{a0:iH}{a1:(List lF)}{a2:(List bl)}{σ:Heap}{r:Int}(h:HK a0 a1 a2=δ r):aAK [(Λ (lq a0)),(sl 3 fk a1),(sl 11 bn a2)] σ=δ ((ε r),σ):=by
 refine aAd (f:=SZ) (y0:=(Λ (lq a0))) (y1:=(sl 3 fk a1)) (y2:=(sl 11 bn a2)) (enc:=λr:Int=>(ε r)) (T:=HK a0 a1 a2) (jD (uH (jD (vW (λ_=>(jD rfl (jD rfl (jD (vW (λ_=>rfl) _) D5)))) _) (jD rfl D5))) (jD (vW (λ_=>rfl) _) (jD (vW (λ_=>rfl) _) rfl))) rfl ?_ r h;unfold SZ HK;refine ay _ rfl<|ay _ rfl ?_;refine iJ (λr1:Int=>((ε r1),σ)) (λr1 iB=>aan iB) (λr1 iB=>?_);refine iJ (λr2:Int=>((ε r2),σ)) (λr2 mg=>ach mg) (λr2 mg=>?_);refine ay (sl 1 nT ([r1,r2]:(List Int))) rfl ?_;refine iJ (λr3:Int=>((ε r3),σ)) (λr3 uV=>(rY (e:=λr:Int=>((ε r),σ)) (λhs=>wO ([r1,r2]:(List Int)) hs σ)) uV) (λr3 uV=>?_);refine ay _ (fN _ _ _) ?_;refine kE (p:=¬(r3=0)) (λlK=>?_) (λlK=>?_)
 ·exact eB _ (bL _ _) ⟨rfl,rfl⟩
 refine ay _ rfl ?_;refine iJ (λr4:((List aI)×Int)=>((XF [(sl 2 aV r4.1),(ε r4.2)]),σ)) (λr4 JL=>(rY (e:=λr:((List aI)×Int)=>((XF [(sl 2 aV r.1),(ε r.2)]),σ)) (λhs=>VE a0 hs σ)) JL) (λr4 JL=>?_);refine ay (sl 2 aV r4.1) rfl<|ay _ rfl ?_;have aBf:Hp σ σ []:=Ls σ;have hp6:Hp σ (σ++[YE []]) [((Vq σ.length),(aBX (V4 (λp=>((λx=>(Λ (aV x))) p.1,(λx=>(i7 x)) p.2)) ([]:List (aI×Bool)))))]:=azA aBf;refine ay _ (fJ _ _ _) ?_;refine oz (B:=(List (aI×Bool))) (R:=Unit) (λ(Zt:Nat)(s7:(List (aI×Bool)))v w9=>v=[(ε (Zt:Int))]/\Hp σ w9 [((Vq σ.length),(aBX (V4 (λp=>((λx=>(Λ (aV x))) p.1,(λx=>(i7 x)) p.2)) s7)))]) (λ(b8:(List (aI×Bool)))(q:LS)=>∃u37 ZZ,q=((Ψ 0),([u37]:an),ZZ)/\Hp σ ZZ [((Vq σ.length),(aBX (V4 (λp=>((λx=>(Λ (aV x))) p.1,(λx=>(i7 x)) p.2)) b8)))]) (λ(b8:Unit)(q:LS)=>False) ?_ ?_ ⟨rfl,hp6⟩ ?_ ?_
 ·intro auV Zt Rm s7 v w9 XB hI;obtain⟨rfl,Jb⟩:=hI;refine ay _ (gZ XB)<|oD<|ay _ (gy XB)<|ay _ rfl<|ay _ rfl<|ay _ (Li _ _ rfl)<|ay _ rfl ?_;obtain⟨w15,lZ,Q4⟩:=aA7 (ek:=(.s [0,2])) (eK:=(λx=>(Λ (aV x)))) (eV:=(λx=>(i7 x))) Jb 0 rfl tI Rm η rfl;change Hp σ w15 [((Vq σ.length),(aBX (V4 (λp=>((λx=>(Λ (aV x))) p.1,(λx=>(i7 x)) p.2)) (eT Rm η s7))))]at Q4;refine ay w15 lZ<|ay _ (fK XB auV) ?_;exact cz (oA ⟨rfl,Q4⟩)
 ·intro hl s7 v w9 hI;obtain⟨rfl,Jb⟩:=hI;refine ay _ (iu _)<|oC ?_;exact cz ⟨by simp,⟨_,_,rfl,Jb⟩⟩
 ·intro hl b8 q hq;obtain⟨u37,ZZ,rfl,aw0⟩:=hq;refine jl rfl<|ay _ (fJ _ _ _) ?_;refine oz (B:=Unit) (R:=Int) (λ(aAT:Nat)(sS:Unit)v G7=>∃u6,v=[u6,(ε (aAT:Int))]/\Hp σ G7 [((Vq σ.length),(aBX (V4 (λp=>((λx=>(Λ (aV x))) p.1,(λx=>(i7 x)) p.2)) b8)))]) (λ(Gz:Unit)(q:LS)=>∃u6 NA G8,q=((Ψ 2),([u6,NA]:an),G8)/\Hp σ G8 [((Vq σ.length),(aBX (V4 (λp=>((λx=>(Λ (aV x))) p.1,(λx=>(i7 x)) p.2)) b8)))]) (λ(Gz:Int)(q:LS)=>∃NA G8,q=(n9,([(ε Gz),NA]:an),G8)/\Hp σ G8 []) ?_ ?_ ⟨_,rfl,aw0⟩ ?_ ?_
  ·intro auY aAT MI sS v G7 azg hI;obtain⟨u6,rfl,XQ⟩:=hI;refine ay _ (gZ azg)<|oD<|ay _ (gy azg)<|ay _ rfl<|ay _ rfl<|ay _ (IE _ _ rfl)<|ay (sl 8 gE MI.ef) rfl<|ay _ (fJ _ _ _) ?_;refine oz (B:=Unit) (R:=Int) (λ(i33:Nat)(RU:Unit)v R3=>∃u6,v=[u6,(ε (i33:Int))]/\Hp σ R3 [((Vq σ.length),(aBX (V4 (λp=>((λx=>(Λ (aV x))) p.1,(λx=>(i7 x)) p.2)) b8)))]) (λ(GB:Unit)(q:LS)=>∃u6 NB He,q=((Ψ 4),([u6,NB]:an),He)/\Hp σ He [((Vq σ.length),(aBX (V4 (λp=>((λx=>(Λ (aV x))) p.1,(λx=>(i7 x)) p.2)) b8)))]) (λ(GB:Int)(q:LS)=>∃NB He,q=(n9,([(ε GB),NB]:an),He)/\Hp σ He []) ?_ ?_ ⟨_,rfl,XQ⟩ ?_ ?_
   ·intro au0 i33 Jw RU v R3 XH hI;obtain⟨u6,rfl,En⟩:=hI;refine ay _ (gZ XH)<|oD<|ay _ (gy XH)<|ay _ rfl<|ay _ rfl<|ay _ (PK _ _ rfl)<|ay _ rfl<|ay _ (aqd (ek:=(.s [0,2])) (eK:=(λx=>(Λ (aV x)))) (eV:=(λx=>(i7 x))) En 0 rfl tI Jw.key ι rfl)<|ay _ rfl ?_;refine jE (c:=(!((dO Jw.key b8).getD ι))) (λmM=>?_) (λmM=>?_)
    ·exact cz (iD (by simp) ⟨_,_,rfl,(Lc En)⟩)
    refine ay _ rfl<|ay _ rfl ?_;refine iJ (λjO:(Int×Int)=>((XF [(ε jO.1),(ε jO.2)]),R3)) (λjO Mk=>abl Mk) (λjO Mk=>?_);refine ay _ rfl<|ay _ rfl<|ay _ (fN _ _ _) ?_;refine kE (p:=¬(jO.2=0)) (λkg=>?_) (λkg=>?_)
    ·exact cz (iD (by simp) ⟨_,_,rfl,(Lc En)⟩)
    refine ay _ (fK XH au0) ?_;exact cz (oA ⟨_,rfl,En⟩)
   ·intro hl RU v R3 hI;obtain⟨u6,rfl,En⟩:=hI;refine ay _ (iu _)<|oC ?_;exact cz ⟨by simp,⟨_,_,_,rfl,En⟩⟩
   ·intro hl GB q hq;obtain⟨u6,NB,He,rfl,XT⟩:=hq;refine jl rfl<|ay _ (fK azg auY) ?_;exact cz (oA ⟨_,rfl,XT⟩)
   ·intro hl GB q hq;obtain⟨NB,He,rfl,XT⟩:=hq;refine tM rfl<|jl rfl ?_;exact cz (iD (by simp) ⟨_,_,rfl,(Lc XT)⟩)
  ·intro hl sS v G7 hI;obtain⟨u6,rfl,XQ⟩:=hI;refine ay _ (iu _)<|oC ?_;exact cz ⟨by simp,⟨_,_,_,rfl,XQ⟩⟩
  ·intro hl Gz q hq;obtain⟨u6,NA,G8,rfl,Jc⟩:=hq;refine jl rfl ?_;exact eB _ (FF Jc (IK (cN _ _))) ⟨rfl,rfl⟩
  ·intro hl Gz q hq;obtain⟨NA,G8,rfl,Jc⟩:=hq;refine tM rfl<|jl rfl ?_;exact eB _ (FF Jc (IK (cN _ _))) ⟨rfl,rfl⟩
 ·intro hl b8 q hq;exact False.elim hq
end
section
def S8 (a0:jU) (a1:Int):Option Bool:=δ (decide (a0.au=a1))
theorem akl{a0:jU}{a1:Int}{σ:Heap}{r:Bool}(h:S8 a0 a1=δ r):Kh [(Λ (eZ a0)),(Sf [(ε a1)])] σ=δ ((i7 r),σ):=by refine uy (f:=az0) (y0:=(Λ (eZ a0))) (y1:=(Sf [(ε a1)])) (enc:=λr:Bool=>(i7 r)) (T:=S8 a0 a1) rfl rfl ?_ r h;unfold az0 S8;refine ay _ rfl<|ay _ rfl<|ay _ rfl<|ay _ (gK _ _ _) ?_;exact eB _ (bL _ _) ⟨rfl,rfl⟩
def H9 (a0:ct) (a1:Int):Option (jU×Bool):=
 (tq (a0.bZ.length<=aZ) (jM (λx=>(decide (x.au=a1))) a0.bZ)).bind λr1=>
 if r1<0 then
  δ ((⟨0,[]⟩:jU),ι)
 else
 (xW a0.bZ r1).bind λx2=>
 δ (x2,η)
theorem abK{a0:ct}{a1:Int}{σ:Heap}{r:(jU×Bool)}(h:H9 a0 a1=δ r):Ky [(Λ (bu a0)),(ε a1)] σ=δ ((XF [(Λ (eZ r.1)),(i7 r.2)]),σ):=by
 refine uy (f:=OT) (y0:=(Λ (bu a0))) (y1:=(ε a1)) (enc:=λr:(jU×Bool)=>(XF [(Λ (eZ r.1)),(i7 r.2)])) (T:=H9 a0 a1) rfl rfl ?_ r h;unfold OT H9;refine ay _ rfl<|ay _ rfl<|ay (sl 2 eZ a0.bZ) rfl ?_;refine iJ (λr1:Int=>((ε r1),σ)) (λr1 iB=>(rY (e:=λr:Int=>((ε r),σ)) (λhs=>aiC _ a0.bZ hs _ _ (λx=>(decide (x.au=a1))) σ (λx hx=>akl (σ:=σ) (r:=(decide (x.au=a1))) rfl))) iB) (λr1 iB=>?_);refine ay _ rfl ?_;refine kE (p:=r1<0) (λc3=>?_) (λc3=>?_)
 ·refine ay [(ε 0),i6] rfl<|ay [(ε 0),i6] rfl<|ay _ rfl ?_;exact eB _ (bL _ _) ⟨(Q6 (jD (uH (jD rfl (jD (by first|rfl|exact VY _ _) D5))) (jD rfl D5))),rfl⟩
 refine ay (sl 2 eZ a0.bZ) rfl ?_;refine iJ (λx2:jU=>(Sf (eZ x2))) (λx2 hx2=>D3 hx2) (λx2 hx2=>?_);refine ay _ rfl<|ay _ rfl<|ay _ (Iu _ _ rfl)<|ay _ rfl ?_;exact eB _ (bL _ _) ⟨(Q6 (jD (uH (jD rfl (jD (vW (λ_=>rfl) _) D5))) (jD rfl D5))),rfl⟩
def HB (a0:ct):Option Int:=
 (EY a0.bh a0.cG).bind λr1=>
 (tq (([r1,(if(decide (30<(a0.bZ.length:Int)))=η then 2 else 0)]:(List Int)).length<=aZ) ((([r1,(if(decide (30<(a0.bZ.length:Int)))=η then 2 else 0)]:(List Int)).find? λn=>decide (¬n=0)).getD 0)).bind λr2=>
 if ¬(r2=0)then
  δ r2
 else
 kL a0.bZ (λ(xO:Nat)e9(s3:Unit)=>(show Option (Lr Unit Unit Int)from
   if(!(aX e9.au 1 999))=η then
    δ (.ret 1)
   else
   (if decide (0<(xO:Int))=η then xW a0.bZ (θ.wrap ((xO:Int) -1))else δ default).bind λcR=>
   if((decide (0<(xO:Int)))&&(decide (e9.au<=cR.au)))=η then
    δ (.ret 7)
   else
   (HK a0.bh a0.cG e9.bg).bind λgp=>
   if ¬(gp=0)then
    δ (.ret gp)
   else
   δ (.go ()))) (λs3=>δ ()) () (λb4=>
  if 40<(a0.aS.length:Int)then
   δ 2
  else
  kL a0.aS (λ(i23:Nat)yW(nL:Unit)=>(show Option (Lr Unit Unit Int)from
    if(!(aX yW.au 1 40))=η then
     δ (.ret 1)
    else
    (if decide (0<(i23:Int))=η then xW a0.aS (θ.wrap ((i23:Int) -1))else δ default).bind λx24=>
    if((decide (0<(i23:Int)))&&(decide (yW.au<=x24.au)))=η then
     δ (.ret 7)
    else
    (H9 a0 yW.list).bind λqD=>
    if(!qD.2)=η then
     δ (.ret 8)
    else
    if(!(aX yW.jT 0 100))=η then
     δ (.ret 1)
    else
    δ (.go ()))) (λnL=>δ ()) () (λGy=>
   δ 0) (λGy=>
   δ Gy)) (λb4=>
  δ b4)
theorem aaA{a0:ct}{σ:Heap}{r:Int}(h:HB a0=δ r):Hz [(Λ (bu a0))] σ=δ ((ε r),σ):=by
 refine ux (f:=SO) (y0:=(Λ (bu a0))) (enc:=λr:Int=>(ε r)) (T:=HB a0) rfl rfl ?_ r h;unfold SO HB;refine ay _ rfl<|ay _ rfl<|ay (sl 3 fk a0.cG) rfl ?_;refine iJ (λr1:Int=>(ε r1)) (λr1 iB=>(dL (aan iB))) (λr1 iB=>?_);refine ay (sl 2 eZ a0.bZ) rfl<|ay _ (fJ _ _ _)<|ay _ rfl<|ay _ (dL (oZ (decide (30<(a0.bZ.length:Int))) 2 σ))<|ay (sl 1 nT ([r1,(if(decide (30<(a0.bZ.length:Int)))=η then 2 else 0)]:(List Int))) rfl ?_;refine iJ (λr2:Int=>(ε r2)) (λr2 mg=>(dL ((rY (e:=λr:Int=>((ε r),σ)) (λhs=>wO ([r1,(if(decide (30<(a0.bZ.length:Int)))=η then 2 else 0)]:(List Int)) hs σ)) mg))) (λr2 mg=>?_);refine ay _ (fN _ _ _) ?_;refine kE (p:=¬(r2=0)) (λwk=>?_) (λwk=>?_)
 ·exact eB _ (bL _ _) ⟨rfl,rfl⟩
 refine ay (sl 2 eZ a0.bZ) rfl<|ay _ (fJ _ _ _) ?_;refine oz (B:=Unit) (R:=Int) (λ(xO:Nat)(s3:Unit)v w5=>v=[(p6 (bu a0)),(ε 0),(ε (xO:Int))]/\σ=w5) (λ(b4:Unit)(q:LS)=>∃u2 Nx,q=((Ψ 0),([(p6 (bu a0)),u2,Nx]:an),σ)) (λ(b4:Int)(q:LS)=>∃u1 Nx,q=(n9,([u1,(ε b4),Nx]:an),σ)) ?_ ?_ ⟨rfl,rfl⟩ ?_ ?_
 ·intro XL xO e9 s3 v w5 GM hI;obtain⟨rfl,rfl⟩:=hI;refine ay _ (gZ GM)<|oD<|ay _ (gy GM)<|ay _ rfl<|ay _ rfl<|ay _ (Iu _ _ rfl)<|ay _ rfl<|ay _ (kJ e9.au 1 999 σ)<|ay _ rfl ?_;refine jE (c:=(!(aX e9.au 1 999))) (λkF=>?_) (λkF=>?_)
  ·exact cz (iD (by simp) ⟨_,_,rfl⟩)
  refine ay _ rfl<|cZ (ε e9.au) (λhg=>rfl)<|ay _ rfl<|cZ (sl 2 eZ a0.bZ) (λhg=>rfl)<|cZ (ε (xO:Int)) (λhg=>rfl)<|cZ (ε (θ.wrap ((xO:Int) -1))) (λhg=>by(try rw[hg]);exact rfl) ?_;refine vH (ω:=jU) (λcR=>(Sf (eZ cR))) (λhg cR ah1=>by(try rw[hg]);exact D3 ah1) (λcR ah1=>?_);refine cZ (Sf (eZ cR)) (λhg=>by(try rw[hg]);exact rfl)<|cZ (ε cR.au) (λhg=>by(try rw[hg]);exact rfl)<|cZ (i7 (decide (e9.au<=cR.au))) (λhg=>by(try rw[hg]);exact rfl)<|ay _ (ow _ _) ?_;refine jE (c:=((decide (0<(xO:Int)))&&(decide (e9.au<=cR.au)))) (λjN=>?_) (λjN=>?_)
  ·exact cz (iD (by simp) ⟨_,_,rfl⟩)
  refine ay _ rfl<|ay _ rfl<|ay _ rfl<|ay (sl 3 fk a0.cG) rfl<|ay (sl 11 bn e9.bg) rfl ?_;refine iJ (λgp:Int=>((ε gp),σ)) (λgp ahN=>akj ahN) (λgp ahN=>?_);refine ay _ (fN _ _ _) ?_;refine kE (p:=¬(gp=0)) (λjr=>?_) (λjr=>?_)
  ·exact cz (iD (by simp) ⟨_,_,rfl⟩)
  refine ay _ (fK GM XL) ?_;exact cz (oA ⟨rfl,rfl⟩)
 ·intro hl s3 v w5 hI;obtain⟨rfl,rfl⟩:=hI;refine ay _ (iu _)<|oC ?_;exact cz ⟨by simp,⟨_,_,rfl⟩⟩
 ·intro hl b4 q hq;obtain⟨u2,Nx,rfl⟩:=hq;refine jl rfl<|ay _ rfl<|ay (sl 3 cr a0.aS) rfl<|ay _ (fJ _ _ _)<|ay _ rfl ?_;refine kE (p:=40<(a0.aS.length:Int)) (λAo=>?_) (λAo=>?_)
  ·exact eB _ (bL _ _) ⟨rfl,rfl⟩
  refine ay _ rfl<|ay (sl 3 cr a0.aS) rfl<|ay _ (fJ _ _ _) ?_;refine oz (B:=Unit) (R:=Int) (λ(i23:Nat)(nL:Unit)v Z2=>∃u2,v=[(p6 (bu a0)),u2,(ε (i23:Int))]/\σ=Z2) (λ(Gy:Unit)(q:LS)=>∃u1 u2 ND,q=((Ψ 2),([u1,u2,ND]:an),σ)) (λ(Gy:Int)(q:LS)=>∃u1 ND,q=(n9,([u1,(ε Gy),ND]:an),σ)) ?_ ?_ ⟨_,rfl,rfl⟩ ?_ ?_
  ·intro hle22 i23 yW nL v Z2 aAZ hI;obtain⟨u2,rfl,rfl⟩:=hI;refine ay _ (gZ aAZ)<|oD<|ay _ (gy aAZ)<|ay _ rfl<|ay _ rfl<|ay _ (TP _ _ rfl)<|ay _ rfl<|ay _ (kJ yW.au 1 40 σ)<|ay _ rfl ?_;refine jE (c:=(!(aX yW.au 1 40))) (λiA=>?_) (λiA=>?_)
   ·exact cz (iD (by simp) ⟨_,_,rfl⟩)
   refine ay _ rfl<|cZ (ε yW.au) (λhg=>rfl)<|ay _ rfl<|cZ (sl 3 cr a0.aS) (λhg=>rfl)<|cZ (ε (i23:Int)) (λhg=>rfl)<|cZ (ε (θ.wrap ((i23:Int) -1))) (λhg=>by(try rw[hg]);exact rfl) ?_;refine vH (ω:=iC) (λx24=>(Sf (cr x24))) (λhg x24 ah4=>by(try rw[hg]);exact D3 ah4) (λx24 ah4=>?_);refine cZ (Sf (cr x24)) (λhg=>by(try rw[hg]);exact rfl)<|cZ (ε x24.au) (λhg=>by(try rw[hg]);exact rfl)<|cZ (i7 (decide (yW.au<=x24.au))) (λhg=>by(try rw[hg]);exact rfl)<|ay _ (ow _ _) ?_;refine jE (c:=((decide (0<(i23:Int)))&&(decide (yW.au<=x24.au)))) (λnD=>?_) (λnD=>?_)
   ·exact cz (iD (by simp) ⟨_,_,rfl⟩)
   refine ay _ rfl<|ay _ rfl ?_;refine iJ (λqD:(jU×Bool)=>((XF [(Λ (eZ qD.1)),(i7 qD.2)]),σ)) (λqD ahQ=>abK ahQ) (λqD ahQ=>?_);refine ay _ rfl<|ay _ rfl<|ay _ rfl<|ay _ (Iu _ _ rfl)<|ay _ rfl ?_;refine jE (c:=(!qD.2)) (λpO=>?_) (λpO=>?_)
   ·exact cz (iD (by simp) ⟨_,_,rfl⟩)
   refine ay _ rfl<|ay _ (kJ yW.jT 0 100 σ)<|ay _ rfl ?_;refine jE (c:=(!(aX yW.jT 0 100))) (λlz=>?_) (λlz=>?_)
   ·exact cz (iD (by simp) ⟨_,_,rfl⟩)
   refine ay _ (fK aAZ hle22) ?_;exact cz (oA ⟨_,rfl,rfl⟩)
  ·intro hl nL v Z2 hI;obtain⟨u2,rfl,rfl⟩:=hI;refine ay _ (iu _)<|oC ?_;exact cz ⟨by simp,⟨_,_,_,rfl⟩⟩
  ·intro hl Gy q hq;obtain⟨u1,u2,ND,rfl⟩:=hq;refine jl rfl ?_;exact eB _ (bL _ _) ⟨rfl,rfl⟩
  ·intro hl Gy q hq;obtain⟨u1,ND,rfl⟩:=hq;refine tM rfl<|jl rfl ?_;exact eB _ (bL _ _) ⟨rfl,rfl⟩
 ·intro hl b4 q hq;obtain⟨u1,Nx,rfl⟩:=hq;refine tM rfl<|jl rfl ?_;exact eB _ (bL _ _) ⟨rfl,rfl⟩
end
section
section
variable {κ ν : Type} [DecidableEq κ]
theorem acS(k a:κ)(v:ν):∀(l:List (κ×ν)),dO k (eT a v l)=if k=a then δ v else dO k l
 |[]=>by simp [eT,dO]
 |(b,w)::l=>by
  rw[eT];by_cases h:a=b
  ·subst h;rw[aO rfl,dO,dO];split<;>rfl
  ·rw[aL h,dO,dO,acS k a v l];by_cases h2:k=b
   ·subst h2;rw[aO rfl,aO rfl,aL (λe=>h e.symm)]
   ·rw[aL h2,aL h2]
theorem ar2(k:κ):∀(l:List κ)(s:List (κ×Bool)),(dO k (l.foldl (λs x=>eT x η s) s)).getD ι=(decide (k∈l)||(dO k s).getD ι)
 |[],s=>by simp
 |x::l,s=>by
  rw[List.foldl_cons,ar2 k l,acS];by_cases h:k=x
  ·simp [h]
  ·simp [h]
end
theorem amJ{l:List Int}{n:Int}(h:l.Pairwise (·<·))(k:Ge l n=ι):(l++[n]).Pairwise (·<·):=by
 rw[aCr];refine⟨h,by simp,λa ha b hb=>?_⟩;simp at hb;subst hb;unfold Ge at k;cases hl:l.getLast? with
 |none=>rw[List.getLast?_eq_none_iff]at hl;subst hl;simp at ha
 |some m=>
  rw[hl]at k;simp at k;obtain⟨ys,rfl⟩:=List.getLast?_eq_some_iff.1 hl;rw[aCr]at h;rcases jJ.1 ha with ha|ha
  ·have:=h.2.2 a ha m (by simp);omega
  ·simp at ha;omega
theorem abC{jd:List eA}:∀(rest pre:List jk),I5 jd pre rest=0->(pre.map (·.au)).Pairwise (·<·)->((pre++rest).map (·.au)).Pairwise (·<·)
 |[],pre,_,h=>by simpa using h
 |u::rest,pre,hc,h=>by
  rw[I5]at hc;split at hc
  ·cases hc
  split at hc
  ·cases hc
  rename_i ho;split at hc
  ·cases hc
  split at hc
  ·cases hc
  split at hc
  ·cases hc
  have:=abC rest (pre++[u]) hc (by rw[V8];exact amJ h (by simpa using ho));simpa using this
theorem amz{r:iH}(h:lI r=0):(r.dK.map (·.au)).Pairwise (·<·):=by
 unfold lI at h;split at h
 ·split at h
  ·cases h
  ·simpa using abC r.dK [] h (by simp)
 ·rename_i h2;exact absurd h h2
theorem anJ(p:eA)(nm:ByteArray):(azx p nm).2=η↔∃x∈p.params,x.name=nm:=by
 unfold azx;cases h:p.params.find? λx=>decide (x.name=nm)with
 |none=>simp only[Option.elim_none,UP,false_iff];rintro⟨x,hx,e⟩;have:=U0.1 h x hx;simp [e]at this
 |some x=>simp only[Option.elim_some,true_iff];exact⟨x,zV h,by simpa using aCW h⟩
theorem apx{l:List jk}(h:(l.map (·.au)).Pairwise (·<·)){u v:jk}(hu:u∈l)(hv:v∈l)(e:u.au=v.au):u=v:=by
 induction l with
 |nil=>simp at hu
 |cons x l ih=>
  rw[eo,Tc]at h;rcases iV.1 hu with GS|GS<;>rcases iV.1 hv with M4|M4
  ·rw[GS,M4]
  ·have:=h.1 v.au (fL.2 ⟨v,M4,rfl⟩);rw[<-GS]at this;omega
  ·have:=h.1 u.au (fL.2 ⟨u,GS,rfl⟩);rw[<-M4]at this;omega
  ·exact ih h.2 GS M4
def El(r:iH)(k:aI):Bool:=(afs r k).2
theorem aeg{r:iH}(h:lI r=0)(k:aI):El r k=decide (k∈pZ r):=by
 rw[qn,decide_eq_true_iff];unfold El afs pZ;rw[List.mem_flatMap];cases hf:r.dK.find? λu=>decide (u.au=k.unit)with
 |none=>simp only[Option.elim_none,UP,false_iff];rintro⟨u,hu,hk⟩;obtain⟨x,_,rfl⟩:=fL.1 hk;have:=U0.1 hf u hu;simp at this
 |some u=>
  have hu:=zV hf;have hn:u.au=k.unit:=by simpa using aCW hf
  simp only[Option.elim_some,anJ];constructor
  ·rintro⟨x,hx,e⟩;exact⟨u,hu,fL.2 ⟨x,hx,by rw[hn,e]⟩⟩
  ·rintro⟨v,hv,hk⟩;obtain⟨x,hx,rfl⟩:=fL.1 hk;obtain rfl:=apx (amz h) hu hv hn;exact⟨x,hx,rfl⟩
theorem aej{r:iH}(h:lI r=0):(pZ r).length<=16000:=by have h1:=aAn h r.dK;have h2:=acC h;show(r.dK.flatMap (uz r.bA)).length<=_;omega
theorem aqf{α:Type}{p:Prop}[Decidable p](a b:α):(if p then δ a else δ b)=δ (if p then a else b):=by split<;>rfl
theorem UG{α β:Type}{p:Prop}[Decidable p](a b:α)(f:α->Option β):(if p then δ a else δ b).bind f=f (if p then a else b):=by split<;>rfl
theorem before_eq(a b:aI):HR a b=δ (gr a b):=by
 unfold HR gr;by_cases h:a.unit=b.unit
 ·simp [h,PL,VM]
 ·by_cases h2:a.unit<b.unit<;>simp [h,h2]
theorem compare_eq(a b:aI):HQ a b=δ (yH a b):=by
 unfold HQ yH;by_cases h:a.unit=b.unit
 ·simp [h]
 ·by_cases h2:a.unit<b.unit<;>simp [h,h2]
def QJ(has:aI->Bool)(l:List zC)(i:Nat)(x:zC):Int:=
 if(!has x.key)=η then 8
 else if(!(aX x.level 0 65535))=η then 1
 else if(decide (0<(i:Int))&&!gr (pv l i).key x.key)=η then 7 else 0
def P7(has:aI->Bool)(l:List lF)(i:Nat)(p:lF):Int:=
 if(!(aX p.au 1 999))=η then 1
 else if(decide (0<(i:Int))&&decide (p.au<=(pv l i).au))=η then 7
 else if(!(FA p.title))=η then 3
 else if 2000<(p.kZ.length:Int)then 2
 else iW (QJ has p.kZ) p.kZ 0
def tE(r:iH)(l:List lF):Int:=
 if ¬(lI r=0)then lI r else if 200<(l.length:Int)then 2 else iW (P7 (El r) l) l 0
theorem alw(c:Bool)(a b:aI):(c&&!(if c=η then gr a b else(default:Bool)))=(c&&!gr a b):=by cases c<;>rfl
theorem aoJ(c:Bool)(a b:aI):(c&&decide (0<=(if c=η then yH a b else(default:Int))))=(c&&!gr a b):=by
 cases c
 ·rfl
 ·simp only[if_true,Bool.true_and];exact aru a b
theorem al7(s:ByteArray):(decide (¬(s=(⟨#[]⟩:ByteArray)))&&!(if decide (¬(s=(⟨#[]⟩:ByteArray)))=η then Lv s else(default:Bool)))=!FA s:=by unfold FA;by_cases h:s=⟨#[]⟩<;>simp [h]
theorem aaT(r:iH)(l:List lF)(hr:D7 r)(hl:fI BQ l):EY r l=δ (tE r l):=by
 unfold EY tE;simp only[qg hr,aP];rw[qg (by show 2<=aZ;unfold aZ;omega)];simp only[Qv,aP];by_cases h0:lI r=0;case neg=>simp [h0]
 by_cases h1:200<(l.length:Int)
 ·simp [h0,h1]
 have hk:H8 r=δ ((pZ r).foldl (λs x=>eT x η s) []):=by unfold H8;have:=aej h0;simp only[qg hr,aP,h0,if_true];rw[KM (λs x=>eT x η s) (λ_ _=>True) (by unfold aZ;omega) trivial (λ_ _ _ _ _=>trivial) (λ_ _ _ _ _=>rfl)];rfl
 simp only[h0,h1,not_true_eq_false,if_false,decide_false,UP,hk,aP]
 have has:∀k,(dO k ((pZ r).foldl (λs x=>eT x η s) [])).getD ι=El r k:=by intro k;rw[ar2,aeg h0];simp [dO]
 rw[BP (f:=P7 (El r) l) hl.1 ?_]
 ·split
  ·rename_i h;rw[h]
  ·rfl
 intro i p hp;have Zk:=hl.2 p (cE hp);obtain⟨_,ht,hs⟩:=Zk;simp only[Fy hp hl.1,aP,qg ht,has];rw[BP (f:=QJ (El r) p.kZ) hs.1 ?_]
 ·unfold P7;repeat first|exact ad3 _|exact go_ret|refine IB (by decide) ?_
 intro j x hx;simp only[Fy hx hs.1,aP,before_eq,UG,alw];unfold QJ;repeat first|exact go_ret|refine IB (by decide) ?_
def zL(l:List lF)(k:aI)(v:nP):Int×Int:=
 if(decide (¬(v.level=0))&&decide (¬(v.iw=0)))=η then(0,3)
 else if(!(aX v.level 0 65535))=η then(0,1)
 else if v.iw=0 then(v.level,0)
 else match l.find? λp=>decide (p.au=v.iw)with
  |none=>(0,8)
  |some p=>match p.kZ.find? λs=>decide (s.key=k)with|none=>(0,8)|some s=>(s.level,0)
theorem anf{α γ R:Type}{p:α->Bool}{l:List α}{body:Nat->α->Unit->Option (Lr Unit Unit R)}{r:α->Option R}{fin:Unit->Option Unit}{s:Unit}{K1:Unit->Option γ}{K2:R->Option γ}(hl:l.length<=aZ)(hb:∀i x,l[i]? =δ x->body i x ()=if p x=η then δ (match r x with|some q=>.ret q|none=>.brk ())else δ (.go ()))(hf:fin ()=δ ():=by rfl):kL l body fin s K1 K2=match l.find? p with|some x=>(match r x with|some q=>K2 q|none=>K1 ())|none=>K1 ():=by
 rw[Iy hl]
 have key:∀(rest pre:List α),l=pre++rest->mW body fin rest pre.length ()=δ (match rest.find? p with|some x=>(match r x with|some q=>.inr q|none=>.inl ())|none=>.inl ()):=by
  intro rest;induction rest with
  |nil=>intro pre _;simp [mW,hf]
  |cons x rest ih=>
   intro pre hp;rw[mW,hb pre.length x (by rw[hp];simp),List.find?_cons];cases h:p x
   ·simp only[UP,if_false,aP];have:=ih (pre++[x]) (by simpa using hp);simpa using this
   ·simp only[if_true,aP];cases r x<;>rfl
 have k:=key l [] rfl;rw[TZ]at k;rw[show s=()from rfl,k,aP];cases l.find? p with
 |none=>rfl
 |some x=>simp only;cases r x<;>rfl
theorem aeP(l:List lF)(hl:fI BQ l)(k:aI)(v:nP):HV l k v=δ (zL l k v):=by
 unfold HV zL;split
 ·rfl
 split
 ·rfl
 split
 ·rfl
 rw[anf (p:=λp=>decide (p.au=v.iw)) (r:=λp=>(p.kZ.find? λs=>decide (s.key=k)).map (·.level)) hl.1 ?_]
 ·cases hf:l.find? λp=>decide (p.au=v.iw)with
  |none=>rfl
  |some p=>simp only;cases p.kZ.find? λs=>decide (s.key=k)<;>rfl
 intro i p hp;have Zk:=hl.2 p (cE hp);by_cases hn:p.au=v.iw
 ·simp only[hn,not_true_eq_false,if_false,decide_true,if_true];rw[aBy (p:=λs=>decide (s.key=k)) (r:=λs=>s.level) Zk.2.2.1 (by intro i x _;simp only[decide_eq_true_eq,aqf])];cases p.kZ.find? λs=>decide (s.key=k)<;>rfl
 ·simp [hn]
def IW(l:List gz)(i:Nat)(m:gz):Int:=
 if(!(aX m.key.unit 1 9999))=η then 1
 else if(!(xg m.key.param))=η then 5
 else if((m.release&&(decide (¬(m.value=(⟨0,0⟩:nP)))))||((decide (¬(m.value.level=0)))&&(decide (¬(m.value.iw=0)))))=η then 3
 else if((!(aX m.value.level 0 65535))||(!(aX m.value.iw 0 999)))=η then 1
 else if((!m.Bb)&&((decide (¬(m.cI=0)))||(decide (¬(m.time=0)))))=η then 3
 else if((!(aX m.cI 0 36000000))||(!(aX m.time 0 36000000)))=η then 1
 else if(decide (0<(i:Int))&&!gr (pv l i).key m.key)=η then 7 else 0
def DR(l:List gz):Int:=iW (IW l) l 0
theorem als(l:List gz)(hl:fI Qq l):HI l=δ (DR l):=by
 unfold HI DR;rw[BP (f:=IW l) hl.1 ?_]
 ·split
  ·rename_i h;rw[h]
  ·rfl
 intro i m hm;have hmm:=hl.2 m (cE hm);simp only[Fy hm hl.1,aP,qg hmm.1.2,compare_eq,UG,aoJ];unfold IW;repeat first|exact go_ret|refine IB (by decide) ?_
def xx(l:List bl)(i:Nat)(c:bl):Int:=
 if(!(aX c.au 1 9999999))=η then 1
 else if(decide (0<(i:Int))&&decide (c.au<=(pv l i).au))=η then 7
 else if(!(FA c.title))=η then 3
 else if(((((!(aX c.cI 0 36000000))||(!(aX c.up 0 36000000)))||(!(aX c.down 0 36000000)))||(!(aX c.other 0 36000000)))||(!(aX c.cM (-1) 36000000)))=η then 1
 else if ¬(qV c.fA=0)then qV c.fA
 else if 2000<(c.ef.length:Int)then 2
 else DR c.ef
def WA(l:List bl):Int:=l.foldl (λs c=>θ.wrap (s+(c.ef.length:Int))) 0
def qi(l:List bl):Int:=
 if 300<(l.length:Int)then 2 else if ¬(iW (xx l) l 0=0)then iW (xx l) l 0 else if 10000<WA l then 2 else 0
theorem aoE{α γ S B:Type}{f:Nat->α->Int}{g:S->α->S}{l:List α}{body:Nat->α->S->Option (Lr S B Int)}{fin:S->Option B}{s:S}{K1:B->Option γ}{K2:Int->Option γ}(hl:l.length<=aZ)(hb:∀i x s,l[i]? =δ x->body i x s=δ (if f i x=0 then .go (g s x)else .ret (f i x))):kL l body fin s K1 K2=if iW f l 0=0 then(fin (l.foldl g s)).bind K1 else K2 (iW f l 0):=by
 rw[Iy hl]
 have key:∀(rest pre:List α)(s:S),l=pre++rest->mW body fin rest pre.length s=if iW f rest pre.length=0 then(fin (rest.foldl g s)).map .inl else δ (.inr (iW f rest pre.length)):=by
  intro rest;induction rest with
  |nil=>intro pre s _;simp [mW,iW]
  |cons x rest ih=>
   intro pre s hp;rw[mW,hb pre.length x s (by rw[hp];simp),aP,iW];by_cases h:f pre.length x=0
   ·simp only[h,if_true];have:=ih (pre++[x]) (g s x) (by simpa using hp);simpa using this
   ·simp only[h,if_false]
 have k:=key l [] s rfl;rw[TZ]at k;rw[k];split
 ·cases fin (l.foldl g s)<;>rfl
 ·rfl
theorem aqg{S B:Type}{p:Prop}[Decidable p]{k f:Int}{t:S}{Y:Option (Lr S B Int)}(hk:k≠0)(h:Y=δ (if f=0 then .go t else .ret f)):(if p then δ (.ret k)else Y)=δ (if(if p then k else f)=0 then .go t else .ret (if p then k else f)):=by
 by_cases hp:p
 ·simp [hp,hk]
 ·simp [hp,h]
theorem aoN{S B:Type}{k f:Int}{t:S}{Y:Option (Lr S B Int)}(h:Y=δ (if f=0 then .go t else .ret f)):(if ¬(k=0)then δ (.ret k)else Y)=δ (if(if ¬(k=0)then k else f)=0 then .go t else .ret (if ¬(k=0)then k else f)):=by
 by_cases hp:k=0
 ·simp [hp,h]
 ·simp [hp]
theorem azt{S B:Type}{k:Int}{t:S}:(if ¬(k=0)then δ (.ret k)else δ (.go t):Option (Lr S B Int))=δ (if k=0 then .go t else .ret k):=by by_cases hp:k=0<;>simp [hp]
theorem af7(l:List bl)(hl:fI D6 l):Ie l=δ (qi l):=by
 unfold Ie qi;split
 ·rfl
 rw[aoE (f:=xx l) (g:=λs c=>θ.wrap (s+(c.ef.length:Int))) hl.1 ?_]
 ·show(if iW (xx l) l 0=0 then δ (if decide (10000<WA l)=η then(2:Int)else 0)else δ (iW (xx l) l 0))=_;by_cases h:iW (xx l) l 0=0
  ·by_cases h2:10000<WA l<;>simp [h,h2]
  ·simp [h]
 intro i c s hc;obtain⟨_,ht,_,_,_,_,_,_,hm⟩:=hl.2 c (cE hc);simp only[Fy hc hl.1,aP,qg ht,als _ hm,UG,al7];unfold xx;repeat first|exact azt|refine aqg (by decide) ?_|refine aoN ?_
def Rg(r:iH)(cG:List lF)(m:gz):Int:=
 if(!El r m.key)=η then 8 else(zL cG m.key m.value).2
def WL(r:iH)(cG:List lF)(l:List bl):Int:=iW (λ_ c=>iW (λ_ m=>Rg r cG m) c.ef 0) l 0
def QF(r:iH)(cG:List lF)(l:List bl):Int:=
 if ¬(tE r cG=0)then tE r cG else if ¬(qi l=0)then qi l else WL r cG l
theorem azT{r:iH}{l:List lF}(h:tE r l=0):lI r=0:=by
 unfold tE at h;by_cases h0:lI r=0
 ·exact h0
 ·rw[aO h0]at h;exact h
theorem abQ{c:bl}(h:D6 c):fI Qq c.ef:=by obtain⟨_,_,_,_,_,_,_,_,hm⟩:=h;exact hm
theorem alU(r:iH)(cG:List lF)(l:List bl)(hr:D7 r)(hp:fI BQ cG)(hl:fI D6 l):HK r cG l=δ (QF r cG l):=by
 unfold HK QF;simp only[aaT r cG hr hp,af7 l hl,aP];rw[qg (by show 2<=aZ;unfold aZ;omega)];simp only[Qv,aP];by_cases h0:tE r cG=0;case neg=>simp [h0]
 by_cases h1:qi l=0;case neg=>simp [h0,h1]
 have aBv:=azT h0;have wv:=aej aBv;simp only[h0,h1,not_true_eq_false,if_false,qg hr,aP,aBv,if_true];rw[KM (λs x=>eT x η s) (λ_ _=>True) (by unfold aZ;omega) trivial (λ_ _ _ _ _=>trivial) (λ_ _ _ _ _=>rfl)];simp only[aP]
 have has:∀k,(dO k ((pZ r).foldl (λs x=>eT x η s) [])).getD ι=El r k:=by intro k;rw[ar2,aeg aBv];simp [dO]
 rw[BP (f:=λ_ c=>iW (λ_ m=>Rg r cG m) c.ef 0) hl.1 ?_]
 ·show(if WL r cG l=0 then δ (0:Int)else δ (WL r cG l))=_;split
  ·rename_i h;rw[h]
  ·rfl
 intro i c hc;rw[BP (f:=λ_ m=>Rg r cG m) (abQ (hl.2 c (cE hc))).1 ?_]
 ·exact ad3 _
 intro j m hm;simp only[has,aeP cG hp,aP];unfold Rg;repeat first|exact azt|refine IB (by decide) ?_
def pH(l:List jU)(n:Int):jU×Bool:=match l.find? λx=>decide (x.au=n)with|some x=>(x,η)|none=>(⟨0,[]⟩,ι)
theorem agk(s:ct)(hl:s.bZ.length<=aZ)(n:Int):H9 s n=δ (pH s.bZ n):=by
 unfold H9 pH;rw[qg hl,aP];rcases wL (λx:jU=>decide (x.au=n)) s.bZ with⟨h1,_,h3⟩|⟨k,x,h1,h2,h3,h4,_⟩
 ·rw[h1,h3];rfl
 ·rw[h3,h4,aL (by omega),afG (x:=x) (by omega) (by simpa using h1)];rfl
def DQ(s:ct)(i:Nat)(x:jU):Int:=
 if(!(aX x.au 1 999))=η then 1
 else if(decide (0<(i:Int))&&decide (x.au<=(pv s.bZ i).au))=η then 7
 else QF s.bh s.cG x.bg
def IX(s:ct)(i:Nat)(p:iC):Int:=
 if(!(aX p.au 1 40))=η then 1
 else if(decide (0<(i:Int))&&decide (p.au<=(pv s.aS i).au))=η then 7
 else if(!(pH s.bZ p.list).2)=η then 8
 else if(!(aX p.jT 0 100))=η then 1 else 0
def wV(s:ct):Int:=
 if ¬(tE s.bh s.cG=0)then tE s.bh s.cG
 else if 30<(s.bZ.length:Int)then 2
 else if ¬(iW (DQ s) s.bZ 0=0)then iW (DQ s) s.bZ 0
 else if 40<(s.aS.length:Int)then 2
 else iW (IX s) s.aS 0
theorem abe(s:ct)(hs:rQ s):HB s=δ (wV s):=by
 obtain⟨hr,hp,hl,hb⟩:=hs;unfold HB wV;simp only[aaT _ _ hr hp,aP];rw[qg (by show 2<=aZ;unfold aZ;omega)];simp only[Qv,aP];by_cases h0:tE s.bh s.cG=0;case neg=>simp [h0]
 by_cases h1:30<(s.bZ.length:Int)
 ·simp [h0,h1]
 simp only[h0,h1,not_true_eq_false,if_false,decide_false,UP];rw[BP (f:=DQ s) hl.1 ?_]
 ·by_cases h2:iW (DQ s) s.bZ 0=0;case neg=>simp [h2]
  simp only[h2,if_true,not_true_eq_false,if_false];split
  ·rfl
  rw[BP (f:=IX s) hb.1 ?_]
  ·split
   ·rename_i h;rw[h]
   ·rfl
  intro i p JJ;simp only[Fy JJ hb.1,aP,agk s hl.1];unfold IX;repeat first|exact go_ret|refine IB (by decide) ?_
 intro i x hx;simp only[Fy hx hl.1,aP,alU _ _ _ hr hp (hl.2 x (cE hx)).2];unfold DQ;repeat first|exact azt|refine IB (by decide) ?_
end
section
def azy (a0:bl) (a1:Int):Option Int:=δ (θ.wrap (a0.au-a1))
theorem akk{a0:bl}{a1:Int}{σ:Heap}{r:Int}(h:azy a0 a1=δ r):EZ [(Λ (bn a0)),(ε a1)] σ=δ ((ε r),σ):=by refine uy (f:=az1) (y0:=(Λ (bn a0))) (y1:=(ε a1)) (enc:=λr:Int=>(ε r)) (T:=azy a0 a1) (jD (uH rfl) rfl) rfl ?_ r h;unfold az1 azy;refine ay _ rfl<|ay _ rfl<|ay _ rfl ?_;exact eB _ (bL _ _) ⟨rfl,rfl⟩
def KF (a0:(List bl)):Option (List (aI×bI)):=
 kL a0 (λ(xO:Nat)e9(s3:(List (aI×bI)))=>(show Option (Lr (List (aI×bI)) (List (aI×bI)) Unit)from
   kL e9.ef (λ(Zu:Nat)lZ(wC:(List (aI×bI)))=>(show Option (Lr (List (aI×bI)) (List (aI×bI)) Unit)from
     (show Option (List (aI×bI))from
       if lZ.release=η then
        δ (sC lZ.key wC)
       else
       δ (eT lZ.key (⟨(⟨lZ.key.unit,lZ.key.param⟩:aI),(⟨lZ.value.level,lZ.value.iw⟩:nP),e9.au⟩:bI) wC)).bind λRL=>
     δ (.go RL))) (λwC=>δ wC) s3 (λGw=>
    δ (.go Gw)) (λGw=>
    ξ))) (λs3=>δ s3) ([]:List (aI×bI)) (λb4=>
  δ b4) (λb4=>
  ξ)
theorem al8{a0:(List bl)}{σ:Heap}{r:(List (aI×bI))}(h:KF a0=δ r):Kx [(sl 11 bn a0)] σ=δ ((xH (λx=>(Λ (aV x))) (λx=>(Λ (dS x))) r),σ):=by
 refine ux (f:=azW) (y0:=(sl 11 bn a0)) (enc:=λr:(List (aI×bI))=>(xH (λx=>(Λ (aV x))) (λx=>(Λ (dS x))) r)) (T:=KF a0) (jD (vW (λ_=>rfl) _) rfl) rfl ?_ r h;unfold azW KF;have hp1:Hp σ σ []:=Ls σ;have hp2:Hp σ (σ++[YE []]) [((Vq σ.length),(aBX (V4 (λp=>((λx=>(Λ (aV x))) p.1,(λx=>(Λ (dS x))) p.2)) ([]:List (aI×bI)))))]:=azA hp1;refine ay _ (fJ _ _ _) ?_;refine oz (B:=(List (aI×bI))) (R:=Unit) (λ(xO:Nat)(s3:(List (aI×bI)))v w5=>v=[(ε (xO:Int))]/\Hp σ w5 [((Vq σ.length),(aBX (V4 (λp=>((λx=>(Λ (aV x))) p.1,(λx=>(Λ (dS x))) p.2)) s3)))]) (λ(b4:(List (aI×bI)))(q:LS)=>∃u11 w6,q=((Ψ 0),([u11]:an),w6)/\Hp σ w6 [((Vq σ.length),(aBX (V4 (λp=>((λx=>(Λ (aV x))) p.1,(λx=>(Λ (dS x))) p.2)) b4)))]) (λ(b4:Unit)(q:LS)=>False) ?_ ?_ ⟨rfl,hp2⟩ ?_ ?_
 ·intro XL xO e9 s3 v w5 GM hI;obtain⟨rfl,Zi⟩:=hI;refine ay _ (gZ GM)<|oD<|ay _ (gy GM)<|ay _ rfl<|ay _ rfl<|ay _ (IE _ _ rfl)<|ay (sl 8 gE e9.ef) rfl<|ay _ (fJ _ _ _) ?_;refine oz (B:=(List (aI×bI))) (R:=Unit) (λ(Zu:Nat)(wC:(List (aI×bI)))v Z0=>v=[(p6 (bn e9)),(ε (Zu:Int))]/\Hp σ Z0 [((Vq σ.length),(aBX (V4 (λp=>((λx=>(Λ (aV x))) p.1,(λx=>(Λ (dS x))) p.2)) wC)))]) (λ(Gw:(List (aI×bI)))(q:LS)=>∃u5 u18 NG,q=((Ψ 2),([u5,u18]:an),NG)/\Hp σ NG [((Vq σ.length),(aBX (V4 (λp=>((λx=>(Λ (aV x))) p.1,(λx=>(Λ (dS x))) p.2)) Gw)))]) (λ(Gw:Unit)(q:LS)=>False) ?_ ?_ ⟨rfl,Zi⟩ ?_ ?_
  ·intro auW Zu lZ wC v Z0 XC hI;obtain⟨rfl,Ga⟩:=hI;refine ay _ (gZ XC)<|oD<|ay _ (gy XC)<|ay _ rfl<|ay _ rfl<|ay _ (PK _ _ rfl)<|ay _ rfl ?_
   refine Gg (ω:=(List (aI×bI))) (λRL a=>∃Z3,a=(([(p6 (bn e9))]:an),Z3)/\Hp σ Z3 [((Vq σ.length),(aBX (V4 (λp=>((λx=>(Λ (aV x))) p.1,(λx=>(Λ (dS x))) p.2)) RL)))]) (
     by
      refine jE (c:=lZ.release) (λiL=>?_) (λiL=>?_)
      ·refine ay _ rfl ?_;obtain⟨w19,e21,ahL⟩:=asc (ek:=(.s [0,2])) (eK:=(λx=>(Λ (aV x)))) (eV:=(λx=>(Λ (dS x)))) Ga 0 rfl tI lZ.key rfl;change Hp σ w19 [((Vq σ.length),(aBX (V4 (λp=>((λx=>(Λ (aV x))) p.1,(λx=>(Λ (dS x))) p.2)) (sC lZ.key wC))))]at ahL;refine ay w19 e21 ?_;exact cz ⟨_,rfl,ahL⟩
      refine ay _ rfl<|ay _ rfl<|ay _ rfl<|ay _ rfl<|ay _ rfl<|ay (Λ (dS (⟨(⟨lZ.key.unit,lZ.key.param⟩:aI),(⟨lZ.value.level,lZ.value.iw⟩:nP),e9.au⟩:bI))) rfl ?_;obtain⟨w22,MI,Jc⟩:=aA7 (ek:=(.s [0,2])) (eK:=(λx=>(Λ (aV x)))) (eV:=(λx=>(Λ (dS x)))) Ga 0 rfl tI lZ.key (⟨(⟨lZ.key.unit,lZ.key.param⟩:aI),(⟨lZ.value.level,lZ.value.iw⟩:nP),e9.au⟩:bI) rfl;change Hp σ w22 [((Vq σ.length),(aBX (V4 (λp=>((λx=>(Λ (aV x))) p.1,(λx=>(Λ (dS x))) p.2)) (eT lZ.key (⟨(⟨lZ.key.unit,lZ.key.param⟩:aI),(⟨lZ.value.level,lZ.value.iw⟩:nP),e9.au⟩:bI) wC))))]at Jc;refine ay w22 MI ?_;exact cz ⟨_,rfl,Jc⟩
     ) (λRL a ha=>?_)
   obtain⟨Z3,rfl,aw1⟩:=ha;refine ay _ (fK XC auW) ?_;exact cz (oA ⟨rfl,aw1⟩)
  ·intro hl wC v Z0 hI;obtain⟨rfl,Ga⟩:=hI;refine ay _ (iu _)<|oC ?_;exact cz ⟨by simp,⟨_,_,_,rfl,Ga⟩⟩
  ·intro hl Gw q hq;obtain⟨u5,u18,NG,rfl,Q4⟩:=hq;refine jl rfl<|ay _ (fK GM XL) ?_;exact cz (oA ⟨rfl,Q4⟩)
  ·intro hl Gw q hq;exact False.elim hq
 ·intro hl s3 v w5 hI;obtain⟨rfl,Zi⟩:=hI;refine ay _ (iu _)<|oC ?_;exact cz ⟨by simp,⟨_,_,rfl,Zi⟩⟩
 ·intro hl b4 q hq;obtain⟨u11,w6,rfl,za⟩:=hq;refine jl rfl ?_;exact eB _ (FF za (aga za (k:=0) rfl (by intro p hp;obtain⟨x,_,rfl⟩:=fL.1 hp;exact⟨(vF (DE _)),(vF (adf _))⟩))) ⟨rfl,rfl⟩
 ·intro hl b4 q hq;exact False.elim hq
end
theorem ae7{i j:Nat}(h:i+j<9223372036854775808):A.shr (.int .u64 ((i+j:Nat):Int)) (.int .u64 1)=δ (.int .u64 (((i+j) / 2:Nat):Int)):=by simp only[A.shr];rw[aL (by decide)];congr 2;rw[show(2:Int) ^ (min (Int.toNat 1) Xl.bits)=2 from rfl,Int.fdiv_eq_ediv_of_nonneg _ (by decide)];omega
theorem afZ{n:Nat}(h:n<9223372036854775808):A.conv .u64 (.ah (n:Int))=δ (.int .u64 (n:Int)):=by simp only[A.conv];congr 2;unfold IntKind.wrap;simp [IntKind.bits,IntKind.signed];omega
theorem afY{n:Nat}(h:n<9223372036854775808):A.conv θ (.int .u64 (n:Int))=δ (.ah (n:Int)):=by simp only[A.conv];rw[cO (by unfold aU;omega)]
theorem Rc{a b:Nat}(h:a+b<9223372036854775808):Z8 (.ah (a:Int)) (.ah (b:Int))=δ (.ah ((a+b:Nat):Int)):=by rw[lU,cO (by unfold aU;omega)];simp
theorem QM{a:Nat}(h:a+1<9223372036854775808):Z8 (.ah (a:Int)) (.ah 1)=δ (.ah ((a+1:Nat):Int)):=Rc (b:=1) h
theorem Jp(a b:Nat):Sq (.ah (a:Int)) (.ah (b:Int))=δ (.bool (decide (a<b))):=by rw[lp];have:((a:Int)<(b:Int))=(a<b):=propext ⟨λh=>by omega,λh=>by omega⟩;simp only[this]
theorem aho(a:Int):Sq (.ah a) (.ah 0)=δ (.bool (decide (a<0))):=by rw[lp]
theorem Rn{α:Type}{X Y:α}:(bif (Ψ 0==Ψ 0)then X else Y)=X:=rfl
theorem ark{f:an->Heap->Option (AX×an×Heap)}{σ:Heap}(pv:Nat->Nat->an){v0:an}{n p:Nat}(hp:p<=n)(h0:v0=pv 0 n)
  (hs:∀i j,i<j->j<=n->f (pv i j) σ=δ (.normal,if(i+j) / 2<p then pv ((i+j) / 2+1) j else pv i ((i+j) / 2),σ))
  (he:∀i,i<=n->f (pv i i) σ=δ (.exit 0,pv i i,σ)):p7 f v0 σ=δ (.exit 0,pv p p,σ):=by
 subst h0
 have key:∀k i j,j-i<=k->i<=p->p<=j->j<=n->∃m,U1 f m (pv i j) σ=δ (.exit 0,pv p p,σ):=by
  intro k;induction k with
  |zero=>
   intro i j hk h1 h2 h3;have:i=p:=by omega
   have:j=p:=by omega
   subst i;subst j;exact vB (he p h3) (by simp)
  |succ k ih=>
   intro i j hk h1 h2 h3;by_cases hij:i<j
   ·have hstep:=hs i j hij h3;by_cases hh:(i+j) / 2<p
    ·rw[aO hh]at hstep;exact Dx hstep (ih _ _ (by omega) (by omega) h2 h3)
    ·rw[aL hh]at hstep;exact Dx hstep (ih _ _ (by omega) h1 (by omega) (by omega))
   ·have:i=p:=by omega
    have:j=p:=by omega
    subst i;subst j;exact vB (he p h3) (by simp)
 obtain⟨m,hm⟩:=key n 0 n (by omega) (by omega) hp (bF _);exact Dr hm
theorem bsC{dyn:Nat->an->Heap->aC}{l:List bl}{fn:Nat}{k:Int}{cv:bl->Int}{p:Nat}{σ:Heap}(hl:l.length<4611686018427387904)(hp:p<=l.length)
  (hd:∀x∈l,dyn fn [.agg (bn x),.ah k] σ=δ (.ah (cv x),σ)) (hc:∀h x,l[h]? =δ x->(cv x<0↔h<p)):
  Hi dyn [sl 11 bn l,.ah k,.fn fn []] σ=δ (.aM [.ah (p:Int),.bool ((l[p]?).any λx=>decide (cv x=0))],σ):=by
 refine wrap_eq rfl ?_ rfl;show Hj dyn (sl 11 bn l) (.ah k) (.fn fn []) σ=_;unfold Hj;rw[fJ,aP];rw[ark (v0:=[.ah 0,.ah (l.length:Int)]) (λi j=>[.ah (i:Int),.ah (j:Int)]) hp rfl ?_ ?_,aP]
 ·simp only[Rn,cg,bM];rw[Jp,aP];by_cases hpl:p<l.length
  ·have hx:l[p]? =δ l[p]:=bU hpl;have oT:=hd _ (cE hx);have kI:=mR 11 bn l hx;have hq:=dL (by show A.jC dyn (.fn fn []) [.agg (bn l[p]),.ah k] σ=_;simp only[A.jC,TU];exact oT);simp only[cB hpl,μ,beq_self_eq_true,cA,aP,cg,bM,kI,χ,Lg,ZE,φ,l7,p9,hx,aCD];show((wh (A.jC dyn (.fn fn []) [.agg (bn l[p]),.ah k] σ) σ).bind _)=_;rw[hq,aP,gK];exact bL _ _
  ·have hx:l[p]? =ξ:=qm (by omega);simp only[cm hpl,μ,aP,p9,hx,Option.any_none];exact bL _ _
 ·intro i j hij hj;have hlt:(i+j) / 2<l.length:=by omega
  have hx:l[(i+j) / 2]? =δ l[(i+j) / 2]:=bU hlt;have oT:=hd _ (cE hx);have kI:=mR 11 bn l hx;have hq:A.jC dyn (.fn fn []) [.agg (bn l[(i+j) / 2]),.ah k] σ=δ (.ah (cv l[(i+j) / 2]),σ):=by simp only[A.jC,TU];exact oT
  simp only[cg,bM];rw[Jp,aP,cB hij];simp only[Γ,cA];rw[Rc (by omega),aP,afZ (by omega),aP,ae7 (by omega),aP,afY (by omega),aP,kI,aP];simp only[χ,aP,Lg,ZE];rw[hq,aP,aho,aP];by_cases hh:(i+j) / 2<p
  ·have:=(hc _ _ hx).2 hh;rw[cB this,aO hh];simp only[cA,QM (show(i+j) / 2+1<9223372036854775808 by omega),aP];rfl
  ·have:¬(cv l[(i+j) / 2]<0):=λe=>hh ((hc _ _ hx).1 e)
   rw[cm this,aL hh];rfl
 ·intro i hi;simp only[cg,bM];rw[Jp,aP,cm (aCp i)];rfl
section
section
variable {α γ R S B : Type}
theorem ac5{q:α->Option R}{l:List α}{body:Nat->α->Unit->Option (Lr Unit Unit R)}{fin:Unit->Option Unit}{s:Unit}{K1:Unit->Option γ}{K2:R->Option γ}(hl:l.length<=aZ)(hb:∀i x,l[i]? =δ x->body i x ()=δ (match q x with|some r=>.ret r|none=>.go ()))(hf:fin ()=δ ():=by rfl):kL l body fin s K1 K2=match l.findSome? q with|some r=>K2 r|none=>K1 ():=by
 rw[Iy hl]
 have key:∀(rest pre:List α),l=pre++rest->mW body fin rest pre.length ()=δ (match rest.findSome? q with|some r=>.inr r|none=>.inl ()):=by
  intro rest;induction rest with
  |nil=>intro pre _;simp [mW,hf]
  |cons x rest ih=>
   intro pre hp;rw[mW,hb pre.length x (by rw[hp];simp),aP,List.findSome?_cons];cases h:q x
   ·have:=ih (pre++[x]) (by simpa using hp);simpa using this
   ·simp only
 have k:=key l [] rfl;rw[TZ]at k;rw[show s=()from rfl,k,aP];cases l.findSome? q<;>rfl
end
end
def Yc(l:List gz):Prop:=l.Pairwise λa b=>gr a.key b.key=η
structure Good (l : List bl) : Prop where
 len:l.length<=300
 num:∀c∈l,1<=c.au/\c.au<=9999999
 Nn:l.Pairwise λa b=>a.au<b.au
 mv:∀c∈l,c.ef.length<=2000/\Yc c.ef
 pts:∀c∈l,c.fA.bV.length<=20
theorem Uh{α:Type}[Inhabited α]{r:α->α->Prop}(tr:∀a b c,r a b->r b c->r a c):∀(l:List α),(∀i x,l[i+1]? =δ x->r (l[i]?.getD default) x)->l.Pairwise r
 |[],_=>SE
 |[a],_=>by simp
 |a::b::l,h=>by
  have ih:=Uh tr (b::l) (λi x hx=>h (i+1) x hx);have hab:r a b:=h 0 b rfl;refine Tc.2 ⟨λx hx=>?_,ih⟩;rcases iV.1 hx with rfl|hx
  ·exact hab
  ·exact tr _ _ _ hab ((Tc.1 ih).1 x hx)
section
theorem afw{α:Type}[Inhabited α](l:List α)(i:Nat):pv l (i+1)=l[i]?.getD default:=by simp [pv,aCN]
theorem ani{l:List gz}(h:DR l=0):Yc l:=by
 unfold DR at h;refine Uh (r:=λa b:gz=>gr a.key b.key=η) (λa b c=>Fj) l λi x hx=>?_
 have:=(wM l 0).1 h (i+1) x hx;rw[WW]at this;unfold IW at this;rw[<-afw];by_cases hq:gr (pv l (i+1)).key x.key=η
 ·exact hq
 ·exfalso
  have e:(decide (0<((i+1:Nat):Int))&&!gr (pv l (i+1)).key x.key)=η:=by rw[je];exact⟨cB (by omega),by simpa using hq⟩
  rw[e]at this;repeat (first|(split at this;· cases this)|(simp at this;done)|(rename_i q;exact q rfl))
theorem PX{l:List bl}(h:qi l=0):Good l:=by
 unfold qi at h;by_cases h1:300<(l.length:Int)
 ·simp [h1]at h
 rw[aL h1]at h;by_cases h2:iW (xx l) l 0=0;case neg=>rw[aO h2]at h;exact absurd h h2
 have hc:∀i x,l[i]? =δ x->(1<=x.au/\x.au<=9999999)/\(0<i->(pv l i).au<x.au)/\x.ef.length<=2000/\DR x.ef=0/\x.fA.bV.length<=20:=by
  intro i x hx;have:=(wM l 0).1 h2 i x hx;rw[WW]at this;unfold xx at this;split at this
  ·cases this
  rename_i a1;split at this
  ·cases this
  rename_i a2;split at this
  ·cases this
  split at this
  ·cases this
  split at this
  ·rename_i a5;exact absurd this a5
  rename_i a5;split at this
  ·cases this
  rename_i a6
  have hpt:x.fA.bV.length<=20:=by
   have a5:qV x.fA=0:=by simpa using a5
   unfold qV at a5;split at a5
   ·cases a5
   split at a5
   ·split at a5
    ·cases a5
    split at a5
    ·cases a5
    omega
   ·split at a5
    ·cases a5
    omega
  refine⟨by simpa [aX]using a1,λhi=>?_,by omega,this,hpt⟩;have hi':decide (0<(i:Int))=η:=cB (by omega);rw[hi',Bool.true_and,decide_eq_true_eq]at a2;omega
 refine⟨by omega,λc qA=>?_,?_,λc qA=>?_,λc qA=>?_⟩
 ·obtain⟨i,hi⟩:=pK.1 qA;exact(hc i c hi).1
 ·refine Uh (r:=λa b:bl=>a.au<b.au) (λa b c=>Int.lt_trans) l λi x hx=>?_
  rw[<-afw];exact(hc (i+1) x hx).2.1 (by omega)
 ·obtain⟨i,hi⟩:=pK.1 qA;exact⟨(hc i c hi).2.2.1,ani (hc i c hi).2.2.2.1⟩
 ·obtain⟨i,hi⟩:=pK.1 qA;exact(hc i c hi).2.2.2.2
def mX(l:List bl)(n:Int):Nat:=(l.takeWhile λc=>decide (c.au<n)).length
def Ac(l:List bl)(n:Int):Bool:=l.any λc=>decide (c.au=n)
theorem afu(l:List bl)(n:Int):mX l n<=l.length:=(List.takeWhile_prefix _).length_le
theorem V1{l:List bl}{n:Int}(h:l.Pairwise λa b=>a.au<b.au):∀{i:Nat}{x:bl},l[i]? =δ x->(x.au<n↔i<mX l n):=by
 induction l with
 |nil=>intro i x hx;simp at hx
 |cons a l ih=>
  intro i x hx;have hs:=Tc.1 h;unfold mX;rw[List.takeWhile_cons];by_cases ha:a.au<n
  ·rw[cB ha];simp only[if_true,R7];cases i with
   |zero=>simp at hx;subst hx;simp [ha]
   |succ i=>simp only[Yw]at hx;rw[ih hs.2 hx];unfold mX;omega
  ·rw[cm ha];simp only[UP,if_false,TZ,aBP,iff_false];cases i with
   |zero=>simp at hx;subst hx;exact ha
   |succ i=>simp only[Yw]at hx;have:=hs.1 x (cE hx);omega
theorem asL{l:List bl}{n:Int}(h:l.Pairwise λa b=>a.au<b.au) {i:Nat} {x:bl} (hx:l[i]? =δ x) (hn:x.au=n):mX l n=i:=by
 have h1:¬i<mX l n:=λq=>by have:=(V1 h hx).2 q;omega
 have h2:¬mX l n<i:=λq=>by
  have hp:mX l n<l.length:=Nat.lt_trans q (bD.1 hx).1;have hy:l[mX l n]? =δ l[mX l n]:=bU hp;have h3:¬l[mX l n].au<n:=λq'=>aCp _ ((V1 h hy).1 q')
  have h4:=T4.1 h (mX l n) i hp (bD.1 hx).1 q;rw[(bD.1 hx).2,hn]at h4;exact h3 h4
 omega
theorem aew{l:List bl}{n:Int}(h:l.Pairwise λa b=>a.au<b.au):((l[mX l n]?).any λx=>decide (x.au=n))=Ac l n:=by
 rw[qn];constructor
 ·intro e;cases hx:l[mX l n]? with
  |none=>rw[hx]at e;cases e
  |some x=>rw[hx]at e;exact Tg.2 ⟨x,cE hx,e⟩
 ·intro e;obtain⟨x,hm,hk⟩:=Tg.1 e;have hk:=of_decide_eq_true hk;obtain⟨i,hi⟩:=pK.1 hm;rw[asL h hi hk,hi];simp [hk]
theorem arl{f:an->Heap->Option (AX×an×Heap)}{σ:Heap}(pv:Nat->Nat->an){v0:an}{n:Nat}(h0:v0=pv 0 n)(q:Nat->Bool)
  (hs:∀i j,i<j->j<=n->f (pv i j) σ=δ (.normal,if q ((i+j) / 2)=η then pv ((i+j) / 2+1) j else pv i ((i+j) / 2),σ))
  (he:∀i,i<=n->f (pv i i) σ=δ (.exit 0,pv i i,σ)):∃p,p<=n/\p7 f v0 σ=δ (.exit 0,pv p p,σ):=by
 subst h0
 have key:∀k i j,j-i<=k->i<=j->j<=n->∃p,p<=n/\∃m,U1 f m (pv i j) σ=δ (.exit 0,pv p p,σ):=by
  intro k;induction k with
  |zero=>
   intro i j hk h1 h3;have:i=j:=by omega
   subst i;exact⟨j,h3,vB (he j h3) (by simp)⟩
  |succ k ih=>
   intro i j hk h1 h3;by_cases hij:i<j
   ·have hstep:=hs i j hij h3;by_cases hh:q ((i+j) / 2)=η
    ·rw[aO hh]at hstep;obtain⟨p,hp,hm⟩:=ih _ _ (by omega) (show(i+j) / 2+1<=j by omega) h3;exact⟨p,hp,Dx hstep hm⟩
    ·rw[aL hh]at hstep;obtain⟨p,hp,hm⟩:=ih i ((i+j) / 2) (by omega) (by omega) (by omega);exact⟨p,hp,Dx hstep hm⟩
   ·have:i=j:=by omega
    subst i;exact⟨j,h3,vB (he j h3) (by simp)⟩
 obtain⟨p,hp,m,hm⟩:=key n 0 n (by omega) (by omega) (bF _);exact⟨p,hp,Dr hm⟩
theorem arj{β:Type}{f:an->Heap->Option (AX×an×Heap)}{σ:Heap}{K:AX×an×Heap->Option β}{r:Nat->β}(pv:Nat->Nat->an){v0:an}{n:Nat}(h0:v0=pv 0 n)(q:Nat->Bool)
  (hs:∀i j,i<j->j<=n->f (pv i j) σ=δ (.normal,if q ((i+j) / 2)=η then pv ((i+j) / 2+1) j else pv i ((i+j) / 2),σ))
  (he:∀i,i<=n->f (pv i i) σ=δ (.exit 0,pv i i,σ)) (hK:∀p,p<=n->K (.exit 0,pv p p,σ)=δ (r p)):∃p,p<=n/\(p7 f v0 σ).bind K=δ (r p):=by
 obtain⟨p,hp,h⟩:=arl pv h0 q hs he;exact⟨p,hp,by rw[h,aP,hK p hp]⟩
theorem atn{dyn:Nat->an->Heap->aC}{l:List bl}{fn:Nat}{k:Int}{cv:bl->Int}{σ:Heap}(hl:l.length<4611686018427387904)
  (hd:∀x∈l,dyn fn [.agg (bn x),.ah k] σ=δ (.ah (cv x),σ)) (hc:∀x∈l,cv x≠0):
  ∃p:Nat,p<=l.length/\Hi dyn [sl 11 bn l,.ah k,.fn fn []] σ=δ (.aM [.ah (p:Int),.bool ι],σ):=by
 suffices h:∃p:Nat,p<=l.length/\Hj dyn (sl 11 bn l) (.ah k) (.fn fn []) σ=δ (.aM [.ah (p:Int),.bool ι],σ) by obtain⟨p,hp,h⟩:=h;exact⟨p,hp,wrap_eq rfl h rfl⟩
 unfold Hj;rw[fJ,aP];refine arj (v0:=[.ah 0,.ah (l.length:Int)]) (r:=λp=>((XF [.ah (p:Int),.bool ι],σ):AV×Heap)) (λi j=>[.ah (i:Int),.ah (j:Int)]) rfl (λh=>((l[h]?).any λx=>decide (cv x<0))) (λi j hij hj=>?_) (λi hi=>?_) (λp hp=>?_)
 ·have hlt:(i+j) / 2<l.length:=by omega
  have hx:l[(i+j) / 2]? =δ l[(i+j) / 2]:=bU hlt;have oT:=hd _ (cE hx);have kI:=mR 11 bn l hx;have hq:A.jC dyn (.fn fn []) [.agg (bn l[(i+j) / 2]),.ah k] σ=δ (.ah (cv l[(i+j) / 2]),σ):=by simp only[A.jC,TU];exact oT
  simp only[cg,bM];rw[Jp,aP,cB hij];simp only[Γ,cA];rw[Rc (by omega),aP,afZ (by omega),aP,ae7 (by omega),aP,afY (by omega),aP,kI,aP];simp only[χ,aP,Lg,ZE];rw[hq,aP,aho,aP];simp only[hx,aCD];by_cases hh:cv l[(i+j) / 2]<0
  ·rw[cB hh];simp only[cA,if_true,QM (show(i+j) / 2+1<9223372036854775808 by omega),aP];rfl
  ·rw[cm hh];rfl
 ·simp only[cg,bM];rw[Jp,aP,cm (aCp i)];rfl
 ·simp only[Rn,cg,bM];rw[Jp,aP];by_cases hpl:p<l.length
  ·have hx:l[p]? =δ l[p]:=bU hpl;have oT:=hd _ (cE hx);have hne:=hc _ (cE hx);have kI:=mR 11 bn l hx;have hq:=dL (by show A.jC dyn (.fn fn []) [.agg (bn l[p]),.ah k] σ=_;simp only[A.jC,TU];exact oT);simp only[cB hpl,μ,beq_self_eq_true,cA,aP,cg,bM,kI,χ,Lg,ZE,φ,l7,p9];show((wh (A.jC dyn (.fn fn []) [.agg (bn l[p]),.ah k] σ) σ).bind _)=_;rw[hq,aP,gK,cm hne];exact bL _ _
  ·simp only[cm hpl,μ,aP,p9];exact bL _ _
structure agJ (l : List bl) : Prop where
 len:l.length<=300
 num:∀c∈l,1<=c.au/\c.au<=9999999
 Nn:l.Pairwise λa b=>a.au<b.au
theorem Good.n{l:List bl}(h:Good l):agJ l:=⟨h.len,h.num,h.Nn⟩
theorem asJ{l:List bl}(hg:agJ l){n:Int}(hn:aU n)(σ:Heap):∃p:Nat,HZ [sl 11 bn l,.ah n] σ=δ (.aM [.ah (p:Int),.bool (Ac l n)],σ)/\p<=l.length/\((1<=n\/Ac l n=η)->p=mX l n):=by
 have hlen:l.length<4611686018427387904:=by have:=hg.len;omega
 have hd:∀x∈l,ZG (λ_ _=>ξ) [(177,EZ)] 177 [.agg (bn x),.ah n] σ=δ (.ah (θ.wrap (x.au-n)),σ):=λx _=>akk (r:=θ.wrap (x.au-n)) rfl
 have wr:∀{p:Nat}{b:Bool},Hi (ZG (λ_ _=>ξ) [(177,EZ)]) [sl 11 bn l,.ah n,.fn 177 []] σ=δ (.aM [.ah (p:Int),.bool b],σ)->
   HZ [sl 11 bn l,.ah n] σ=δ (.aM [.ah (p:Int),.bool b],σ):=by
  intro p b h;refine wrap_eq rfl ?_ rfl;rw[show UZ [Sh.e 11 [.k,.k,.k,.k,.k,.k,.k,.s 2,.k,.k,.s 8]] [sl 11 bn l,.ah n]=[sl 11 bn l,.ah n]from jD (vW (λ_=>rfl) _) rfl];show OR (sl 11 bn l) (.ah n) σ=_;unfold OR;rw[h,aP];exact bL _ _
 by_cases ay8:-4611686018427387904<=n
 ·refine⟨mX l n,wr ?_,afu _ _,λ_=>rfl⟩
  have hw:∀x∈l,θ.wrap (x.au-n)=x.au-n:=λx hx=>by have:=hg.num x hx;unfold aU at hn;exact cO (by unfold aU;omega)
  rw[bsC (cv:=λx=>θ.wrap (x.au-n)) (p:=mX l n) hlen (afu _ _) hd ?_]
  ·rw[<-aew hg.Nn];congr 4;cases hx:l[mX l n]? with
   |none=>rfl
   |some x=>simp only[aCD];rw[hw x (cE hx),show decide (x.au-n=0)=decide (x.au=n)from decide_eq_decide.2 (by omega)]
  ·intro h x hx;rw[hw x (cE hx),<-V1 hg.Nn hx];omega
 ·have hno:Ac l n=ι:=by rw[aB0];intro e;obtain⟨x,hx,hk⟩:=Tg.1 e;have:=hg.num x hx;have:=of_decide_eq_true hk;omega
  obtain⟨p,hp,h⟩:=atn hlen hd (λx hx e=>by
   have aAR:=hg.num x hx;unfold aU at hn
   have h2:θ.wrap (x.au-n)=x.au-n\/θ.wrap (x.au-n)=x.au-n-18446744073709551616:=by
    by_cases hh:x.au-n<9223372036854775808
    ·exact .inl (cO (by unfold aU;omega))
    ·right;unfold IntKind.wrap;simp [IntKind.bits,IntKind.signed];omega
   rcases h2 with h2|h2<;>rw[h2]at e<;>omega)
  exact⟨p,by rw[hno];exact wr h,hp,λq=>by
   rcases q with q|q
   ·omega
   ·rw[hno]at q;cases q⟩
theorem asK{l:List bl}(hg:Good l){n:Int}(hn:aU n)(σ:Heap):∃p:Nat,HZ [sl 11 bn l,.ah n] σ=δ (.aM [.ah (p:Int),.bool (Ac l n)],σ)/\p<=l.length/\((1<=n\/Ac l n=η)->p=mX l n):=asJ hg.n hn σ
section
variable {α R γ S B : Type}
end
end
section
open HP
def Lt(σ:Heap)(sh:Sh)(v t:AV):Prop:=(∃v',Wr σ 0 8 v=δ v'/\A.own v'=ι/\Wo sh v'=Wo sh t)/\A.own t=ι/\(A.own v=ι->Wo sh v=Wo sh t)
def Rj(σ:Heap):List Sh->an->an->Prop
 |_,[],[]=>True
 |[],a::dR,t::ts=>Lt σ .k a t/\Rj σ [] dR ts
 |s::ss,a::dR,t::ts=>Lt σ s a t/\Rj σ ss dR ts
 |_,_,_=>False
theorem iI(v:AV):Wo .k v=v:=by simp [Wo]
theorem Zz{σ:Heap}:∀{ss:List Sh}{dR ts:an},Rj σ ss dR ts->(∃Ea,UC σ 0 8 dR=δ Ea/\Ea.any A.own=ι/\UZ ss Ea=UZ ss ts)/\ts.any A.own=ι/\(dR.any A.own=ι->UZ ss dR=UZ ss ts)
 |ss,[],[],_=>⟨⟨[],by simp [UC],rfl,rfl⟩,rfl,λ_=>rfl⟩
 |[],a::dR,t::ts,h=>by obtain⟨⟨⟨v',h1,h2,h3⟩,h4,h5⟩,h6⟩:=h;obtain⟨⟨Ea,k1,k2,k3⟩,k4,k5⟩:=Zz h6;rw[iI,iI]at h3;simp only[UZ]at k3 k5;refine⟨⟨v'::Ea,by simp [UC,h1,k1],by simp [h2,k2],by simp [UZ,h3,k3]⟩,by simp [h4,k4],λh=>?_⟩;simp only[List.any_cons,oG]at h;have:=h5 h.1;rw[iI,iI]at this;simp [UZ,this,k5 h.2]
 |s::ss,a::dR,t::ts,h=>by obtain⟨⟨⟨v',h1,h2,h3⟩,h4,h5⟩,h6⟩:=h;obtain⟨⟨Ea,k1,k2,k3⟩,k4,k5⟩:=Zz h6;refine⟨⟨v'::Ea,by simp [UC,h1,k1],by simp [h2,k2],by simp [UZ,h3,k3]⟩,by simp [h4,k4],λh=>?_⟩;simp only[List.any_cons,oG]at h;simp [UZ,h5 h.1,k5 h.2]
 |_,[],_::_,h=>by cases h
 |[],_::_,[],h=>by cases h
 |_::_,_::_,[],h=>by cases h
theorem Bk{eX:List Sh}{fE:Sh}{r:an->Heap->aC}{dR ts:an}{σ:Heap}{v:AV}(h:Rj σ eX dR ts)(e:∀σ,Ω η eX fE r ts σ=δ (v,σ))(hs:A.Ey v=η):Ω η eX fE r dR σ=δ (v,σ):=by
 obtain⟨⟨Ea,k1,k2,k3⟩,k4,k5⟩:=Zz h;cases ho:dR.any A.own
 ·rw[azs (k5 ho) ho k4];exact e σ
 ·exact VC ho k1 k2 (by rw[azs k3 k2 k4];exact e []) hs
theorem D4{σ:Heap}{sh:Sh}{v:AV}(h:Fz v)(ho:A.own v=ι):Lt σ sh v v:=⟨⟨v,h σ 0 8,ho,rfl⟩,ho,λ_=>rfl⟩
theorem agl{σ:Heap}(n:Int):Lt σ .k (.ah n) (.ah n):=D4 (cN _ _) rfl
section
variable {α : Type} {c : α -> an} {sz : Nat} {B : aT -> Prop} {aH σ : Heap} {R : HP} {v : AV} {l : List α}
theorem wN(H:Hs B aH σ (Sl (fl c) sz v l*R)):(l=[]/\(v=.aA\/v=.ez)/\Hs B aH σ R)\/∃id g,v=.os id g sz 0 l.length/\Hs B aH σ (blk id (.arr g sz (l.map c))*R):=by
 rcases AR H with h|⟨id,g,seg,rfl,hl,H⟩
 ·exact .inl h
 ·have K:=Qg.1 (dN (show _=els (fl c) seg l*(blk id (.arr g sz seg)*R) by ac_rfl) H);obtain⟨rfl,K⟩:=K;exact .inr ⟨id,g,rfl,K⟩
theorem Wg{id g:Nat}{n:Nat}(H:Hs B aH σ (blk id (.arr g sz (l.map c))*R))(hn:n=l.length:=by rfl):Hs B aH σ (Sl (fl c) sz (.os id g sz 0 n) l*R):=
 QL (id:=id) (g:=g) (seg:=l.map c) (dN (show els (fl c) (l.map c) l*(blk id (.arr g sz (l.map c))*R)=_ by ac_rfl) (Qg.2 ⟨rfl,H⟩)) hn
theorem Qk(hc:∀x,iY (c x)){id g:Nat}(h:σ[id]? =δ (.arr g sz (l.map c))){n:Nat}(hn:¬id<n)(d:Nat):Wr σ n (d+1) (.os id g sz 0 l.length)=δ (sl sz c l):=by simp only[Wr,aL hn,h];rw[aO (by simp),Tq,vR (by simp),Ft,QX hc];rfl
theorem FK(H:Hs B aH σ (Sl (fl c) sz v l*R))(hc:∀x,iY (c x)){n:Nat}(hn:n<=aH.length)(d:Nat):∃v',Wr σ n (d+1) v=δ v'/\A.Q7 v'=ι/\Wo (.s sz) v'=sl sz c l:=by
 rcases wN H with⟨rfl,rfl|rfl,_⟩|⟨id,g,rfl,K⟩
 ·exact⟨.aA,by simp [Wr],rfl,rfl⟩
 ·exact⟨.ez,by simp [Wr],rfl,rfl⟩
 ·obtain⟨h1,h2⟩:=jj K;exact⟨_,Qk hc h2 (by omega) d,rfl,rfl⟩
theorem Qm{P:HP}(H:Hs B aH σ P):Hs bN aH σ P:=⟨by obtain⟨bs,h,_⟩:=H.pre;exact⟨bs,h,λ_ _=>trivial⟩,H.own⟩
end
section
variable {α : Type} {E : an -> α -> HP} {sz : Nat} {aH σ : Heap} {R : HP} {v : AV} {l : List α}
end
def auE(x:bl)(vp vm:AV):an:=[.ah x.au,.str x.title,.ah x.cI,.ah x.up,.ah x.down,.ah x.other,.ah x.fA.kind,vp,.bool x.block,.ah x.cM,vm]
def IY:List Sh:=[.k,.k,.k,.k,.k,.k,.k,.s 2,.k,.k,.s 8]
section
variable {B : aT -> Prop} {aH σ : Heap} {R : HP} {M : AV -> List gz -> HP} {e : an} {x : bl}
variable {v : AV} {l : List bl}
theorem alE(l:List bl):Wo (.e 11 IY) (sl 11 bn l)=sl 11 bn l:=vW (λ_=>rfl) l
end
end
section
open HP
theorem IC{α:Type}{f:an->Heap->Option LS}{Q:LS->Prop}(l:List α)(I:Nat->an->Heap->Prop){v0:an}{σ:Heap}
  (hstep:∀i x v σ,l[i]? =δ x->I i v σ->∃v' σ',f v σ=δ (.normal,v',σ')/\I (i+1) v' σ')
  (hend:∀v σ,I l.length v σ->∃q,f v σ=δ q/\q.1≠.normal/\Q q) (h0:I 0 v0 σ):∃q,p7 f v0 σ=δ q/\Q q:=by
 have key:∀(k i:Nat)v σ,l.length-i<=k->i<=l.length->I i v σ->∃q,(∃n,U1 f n v σ=δ q)/\Q q:=by
  intro k;induction k with
  |zero=>
   intro i v σ hk hle hI;have:i=l.length:=by omega
   subst this;obtain⟨q,h1,h2,h3⟩:=hend v σ hI;exact⟨q,vB h1 h2,h3⟩
  |succ k ih=>
   intro i v σ hk hle hI;by_cases hi:i<l.length
   ·obtain⟨v',σ',h1,h2⟩:=hstep i _ v σ (bU hi) hI;obtain⟨q,hq,hQ⟩:=ih (i+1) v' σ' (by omega) (by omega) h2;exact⟨q,Dx h1 hq,hQ⟩
   ·have:i=l.length:=by omega
    subst this;obtain⟨q,h1,h2,h3⟩:=hend v σ hI;exact⟨q,vB h1 h2,h3⟩
 obtain⟨q,⟨n,hn⟩,hQ⟩:=key _ 0 v0 σ (bF _) (kD _) h0;exact⟨q,Dr hn,hQ⟩
theorem yw{β:Type}{f:an->Heap->Option LS}{K:LS->Option β}{v0:an}{σ:Heap}{P:β->Prop}{Q:LS->Prop}(h:∃q,p7 f v0 σ=δ q/\Q q)(k:∀q,Q q->∃b,K q=δ b/\P b):∃b,(p7 f v0 σ).bind K=δ b/\P b:=by obtain⟨q,h1,h2⟩:=h;obtain⟨b,h3,h4⟩:=k q h2;exact⟨b,by rw[h1];exact h3,h4⟩
section
variable {α : Type} {c : α -> an} {sz : Nat} {B : aT -> Prop} {aH σ : Heap} {R : HP} {v : AV} {l : List α}
theorem VK{most:Nat}{m r:an->Heap->aC}{r0:AV->Heap->aC}(hm:m=A.wT (Ω η [(.s sz)] .k (ZY r0)))(hr:∀a σ,r0 a σ=(A.wu a .aA).bind λx1=>Γ x1 (δ (.aA,σ)) ((Uv sz most .ez a σ).bind λr2=>δ (r2.1,r2.2)))
  (hl:l.length<=most) (hB:∀g g' seg,(seg=[]\/B (.arr g sz seg))->B (.arr g' sz (seg++l.map c))) (H:Hs B aH σ R):∃v σ',m [sl sz c l] σ=δ (v,σ')/\Θ v=δ v/\Hs B aH σ' (Sl (fl c) sz v l*R):=by
 subst hm;cases l with
 |nil=>exact⟨.ez,σ,rfl,rfl,vk H (.inr rfl)⟩
 |cons x l=>
  obtain⟨v',σ',e1,H2⟩:=IS (B:=B) (E:=fl c) (sz:=sz) (v:=.ez) (l:=[]) (ys:=(x::l).map c) (xs:=x::l) (most:=most) (vk (Qg.2 ⟨rfl,H⟩) (.inr rfl)) (by simpa using hl) hB
  have hv:Θ v'=δ v':=by
   rcases wN H2 with⟨h,_,_⟩|⟨id,g,rfl,_⟩
   ·cases h
   ·rfl
  refine⟨v',σ',?_,hv,H2⟩;show Ω η [(.s sz)] .k (ZY r0) [sl sz c (x::l)] σ=_;refine wrap_eq rfl ?_ rfl;show r0 (sl sz c (x::l)) σ=_;rw[hr,show A.wu (sl sz c (x::l)) .aA=δ (.bool ι)from rfl,aP,cD,show sl sz c (x::l)=.sl sz ((x::l).map c)from rfl,e1];rfl
end
section
variable {aH σ : Heap} {R : HP}
theorem awt{l:List bl}(hl:l.length<=1099511627776)(H:Hs bN aH σ R):∃v σ',N3 [sl 11 bn l] σ=δ (v,σ')/\Θ v=δ v/\Hs bN aH σ' (Sl (fl bn) 11 v l*R):=
 VK (most:=140737488355328 / 128) (r:=λ_ _=>ξ) rfl (λ_ _=>rfl) (by simpa using hl) (λ_ _ _ _=>trivial) H
theorem VJ{α:Type}{E:an->α->HP}{sz:Nat}{B:aT->Prop}{v:AV}{l:List α}(H:Hs B aH σ (Sl E sz v l*R)):Θ v=δ v:=by rcases AR H with⟨_,rfl|rfl,_⟩|⟨id,g,seg,rfl,_⟩<;>rfl
end
end
section
open HP
theorem nO{f:an->Heap->Option LS}{Q:LS->Prop}(I:Nat->an->Heap->Prop)(hstep:∀n v σ,I n v σ->(∃m v' σ',m<n/\f v σ=δ (.normal,v',σ')/\I m v' σ')\/∃q,f v σ=δ q/\q.1≠.normal/\Q q){n:Nat}{v0:an}{σ:Heap}(h0:I n v0 σ):∃q,p7 f v0 σ=δ q/\Q q:=by
 have key:∀(k n:Nat)v σ,n<=k->I n v σ->∃q,(∃m,U1 f m v σ=δ q)/\Q q:=by
  intro k;induction k with
  |zero=>
   intro n v σ hn hI;rcases hstep n v σ hI with⟨m,_,_,hm,_⟩|⟨q,h1,h2,h3⟩
   ·omega
   ·exact⟨q,vB h1 h2,h3⟩
  |succ k ih=>
   intro n v σ hn hI;rcases hstep n v σ hI with⟨m,v',σ',hm,h1,h2⟩|⟨q,h1,h2,h3⟩
   ·obtain⟨q,hq,hQ⟩:=ih m v' σ' (by omega) h2;exact⟨q,Dx h1 hq,hQ⟩
   ·exact⟨q,vB h1 h2,h3⟩
 obtain⟨q,⟨m,hm⟩,hQ⟩:=key n n v0 σ (bF _) h0;exact⟨q,Dr hm,hQ⟩
theorem gT(X d:Option AV):μ (.bool η) η X d=X:=by have h:μ (.bool η) η X d=X:=rfl;exact h.trans (aCk X)
theorem gF(X d:Option AV):μ (.bool ι) ι X d=X:=by have h:μ (.bool ι) ι X d=X:=rfl;exact h.trans (aCk X)
theorem yX(X d:Option AV):μ (.bool ι) η X d=d:=by have h:μ (.bool ι) η X d=d:=rfl;exact h.trans (aCk d)
theorem Ax(X d:Option AV):μ (.bool η) ι X d=d:=by have h:μ (.bool η) ι X d=d:=rfl;exact h.trans (aCk d)
theorem bS{α β:Type}(a:α)(f:α->Option β):(δ a).bind f=f a:=by have h:(δ a).bind f=f a:=rfl;exact h.trans (aCk (f a))
theorem pQ(cs:an)(σ:Heap):χ (.rp cs) σ=δ cs:=by have h:χ (.rp cs) σ=δ cs:=rfl;exact h.trans (aCk _)
theorem mB(n:Nat){α:Type}{X Y:α}:(bif (Ψ n==Ψ n)then X else Y)=X:=by rw[show(Ψ n==Ψ n)=η from beq_self_eq_true _];rfl
theorem nI(x y:AV):p9 (.bool ι) x y=δ y:=rfl
theorem nJ(x y:AV):p9 (.bool η) x y=δ x:=rfl
theorem ah9:Yr (.bool η)=δ (.bool ι):=rfl
end
section
open HP
section
variable {aH σ : Heap} {R : HP}
theorem FD{v v':AV}(H:Hs bN aH σ R)(h:Wr σ aH.length 8 v=δ v')(hv:σ=aH->v'=v):l6 aH v σ=δ (v',aH):=by
 obtain⟨⟨bs,rfl,_⟩,_⟩:=H;by_cases uU:bs=[]
 ·subst uU;rw[TU]at h ⊢;rw[bL,hv (by simp)]
 ·unfold l6;rw[aL (by simpa using uU),aO (by simp),h];rfl
end
end
section
open HP
def Inv(k:Nat)(l:List bl):Prop:=l.length<=1000/\∀c∈l,Yc c.ef/\c.ef.length<=2000+k
section
variable {aH σ : Heap} {R : HP}
end
end
section
open HP
section
variable {α β : Type} {E : an -> β -> HP} {f : α -> β} {B : aT -> Prop} {aH σ : Heap} {R : HP} {sz : Nat} {v : AV}
end
section
variable {aH σ : Heap} {R : HP} {v : AV}
theorem atV{α:Type}{c:α->an}{sz:Nat}{l:List α}{vm:AV}(hc:∀x,iY (c x))(H:Hs bN aH σ (Sl (fl c) sz vm l*R)):Lt σ (.s sz) vm (sl sz c l):=by
 obtain⟨v',h1,h2,h3⟩:=FK H hc (kD _) 7;refine⟨⟨v',h1,?_,by rw[h3];rfl⟩,rfl,λho=>?_⟩
 ·rcases wN H with⟨rfl,rfl|rfl,_⟩|⟨id,g,rfl,K⟩
  ·simp [Wr]at h1;subst h1;rfl
  ·simp [Wr]at h1;subst h1;rfl
  ·cases v'<;>first|rfl|(cases h2;done)|(simp only[Wo]at h3;cases h3)
 ·rcases wN H with⟨rfl,rfl|rfl,_⟩|⟨id,g,rfl,K⟩
  ·rfl
  ·rfl
  ·cases ho
end
end
section
open HP
theorem asa{l:List bl}{n:Int}(hg:Good l)(h:Ac l n=η):∃x,l[mX l n]? =δ x/\x.au=n:=by
 rw[<-aew hg.Nn]at h;cases hx:l[mX l n]? with
 |none=>rw[hx]at h;cases h
 |some x=>rw[hx]at h;exact⟨x,rfl,by simpa using h⟩
theorem jZ(a b:AV):TH 0 (.aM [a,b])=δ a:=rfl
theorem ext1(a b:AV):TH 1 (.aM [a,b])=δ b:=rfl
theorem asz(l:List bl)(dR:an):UZ [Sh.e 11 IY] (sl 11 bn l::dR)=sl 11 bn l::dR:=jD (alE l) rfl
theorem ahv(a:Int):Uq .i (.ah a) (.ah 0)=δ (.bool (decide (¬(a=0)))):=by rw[fN]
end
section
open HP
section
variable {α : Type} {c : α -> an} {sz : Nat} {aH σ : Heap} {R : HP}
theorem atO{B:aT->Prop}(H:Hs B aH σ R)(bs:Heap)(uU:∀b∈bs,B b):Hs B aH (σ++bs) R:=by obtain⟨⟨b0,rfl,hb0⟩,h,hr,h2⟩:=H;exact⟨⟨b0++bs,by simp,λb hb=>(jJ.1 hb).elim (hb0 b) (uU b)⟩,h,hr,λi b hb=>⟨(h2 i b hb).1,by rw[iG (bD.1 (h2 i b hb).2).1];exact(h2 i b hb).2⟩⟩
end
def oL(l:List bI):Prop:=l.Pairwise λa b=>gr a.key b.key=η
def qt(l:List bI)(k:aI):Nat:=(l.takeWhile λm=>gr m.key k).length
def Mh(l:List bI)(k:aI):Bool:=l.any λm=>decide (m.key=k)
theorem asM(l:List bI)(k:aI):qt l k<=l.length:=(List.takeWhile_prefix _).length_le
theorem P6{l:List bI}{k:aI}(h:oL l):∀{i:Nat}{x:bI},l[i]? =δ x->(gr x.key k=η↔i<qt l k):=by
 induction l with
 |nil=>intro i x hx;simp at hx
 |cons a l ih=>
  intro i x hx;have hs:=Tc.1 h;unfold qt;rw[List.takeWhile_cons];cases ha:gr a.key k
  ·simp only[UP,if_false,TZ,aBP,iff_false,Bool.not_eq_true];cases i with
   |zero=>simp at hx;subst hx;exact ha
   |succ i=>
    simp only[Yw]at hx;have:=hs.1 x (cE hx);cases hq:gr x.key k
    ·rfl
    ·rw[Fj this hq]at ha;cases ha
  ·simp only[if_true,R7];cases i with
   |zero=>simp at hx;subst hx;simp [ha]
   |succ i=>simp only[Yw]at hx;rw[ih hs.2 hx];unfold qt;omega
theorem P5{l:List bI}{k:aI}(h:oL l){i:Nat}{x:bI}(hi:l[i]? =δ x)(hk:x.key=k):qt l k=i:=by
 have h1:¬i<qt l k:=λq=>by have:=(P6 h hi).2 q;rw[hk,BV]at this;cases this
 have h2:¬qt l k<i:=λq=>by
  have hp:qt l k<l.length:=Nat.lt_trans q (bD.1 hi).1;have hy:l[qt l k]? =δ l[qt l k]:=bU hp;have h3:¬gr l[qt l k].key k=η:=λq'=>aCp _ ((P6 h hy).1 q')
  have h4:=T4.1 h (qt l k) i hp (bD.1 hi).1 q;rw[(bD.1 hi).2,hk]at h4;exact h3 h4
 omega
theorem aex{l:List bI}{k:aI}(h:oL l):((l[qt l k]?).any λx=>decide (x.key=k))=Mh l k:=by
 rw[qn];constructor
 ·intro e;cases hx:l[qt l k]? with
  |none=>rw[hx]at e;cases e
  |some x=>rw[hx]at e;exact Tg.2 ⟨x,cE hx,e⟩
 ·intro e;obtain⟨x,hm,hk⟩:=Tg.1 e;have hk:=of_decide_eq_true hk;obtain⟨i,hi⟩:=pK.1 hm;rw[P5 h hi hk,hi];simp [hk]
def yF(n:Int)(st:List bI)(m:gz):List bI:=
 let st1:=if Mh st m.key=η then st.eraseIdx (qt st m.key)else st
 if m.release=η then st1 else st1.take (qt st m.key)++[⟨m.key,m.value,n⟩]++st1.drop (qt st m.key)
def IF(st:List bI)(c:bl):List bI:=c.ef.foldl (yF c.au) st
def DB(l:List bl):List bI:=l.foldl IF []
def mT(st:List bI)(k:aI):Option bI:=st.find? λe=>decide (e.key=k)
theorem acP{n:Int}{st:List bI}(h:oL st)(m:gz):oL (yF n st m)/\(∀k,mT (yF n st m) k=if k=m.key then(if m.release=η then ξ else δ ⟨m.key,m.value,n⟩)else mT st k)/\(yF n st m).length<=st.length+1:=by
 obtain⟨p,hp⟩:∃p,p=qt st m.key:=⟨_,rfl⟩
 obtain⟨st1,Je⟩:∃st1,st1=if Mh st m.key=η then st.eraseIdx p else st:=⟨_,rfl⟩
 have azb:p<=st.length:=by rw[hp];exact asM _ _
 have e1:st1.take p=st.take p:=by
  rw[Je];split
  ·rw[YC,List.take_append_of_le_length (by simp;omega),List.take_take,Nat.min_self]
  ·rfl
 have e2:st1.drop p=if Mh st m.key=η then st.drop (p+1)else st.drop p:=by
  rw[Je];split
  ·rw[YC,List.drop_append_of_le_length (by simp;omega),List.drop_of_length_le (by simp;omega),Tp]
  ·rfl
 have hlt:∀x∈st.take p,gr x.key m.key=η:=λx hx=>by
  obtain⟨i,hi⟩:=pK.1 hx;rw[aBQ]at hi;split at hi
  ·rename_i q;exact(P6 h hi).2 (by omega)
  ·cases hi
 have hgt:∀x∈st1.drop p,gr m.key x.key=η:=λx hx=>by
  rw[e2]at hx
  have key:∀i,p<=i->st[i]? =δ x->x.key≠m.key->gr m.key x.key=η:=by
   intro i hpi hi hne;cases hq:gr m.key x.key
   ·exfalso
    have h1:gr x.key m.key=ι:=by
     cases zb:gr x.key m.key
     ·rfl
     ·have:=(P6 h hi).1 zb;omega
    exact hne (VU h1 hq)
   ·rfl
  split at hx
  ·rename_i hh;obtain⟨i,hi⟩:=pK.1 hx;rw[YF]at hi;refine key _ (by omega) hi λe=>?_
   have:=P5 h hi e;omega
  ·rename_i hh;obtain⟨i,hi⟩:=pK.1 hx;rw[YF]at hi;refine key _ (by omega) hi λe=>?_
   exact hh (Tg.2 ⟨x,cE hi,by simp [e]⟩)
 have hs1:oL st1:=by
  rw[Je];split
  ·exact h.sublist (List.eraseIdx_sublist _ _)
  ·exact h
 have xK:st1.length<=st.length:=by
  rw[Je];split
  ·exact List.length_eraseIdx_le _ _
  ·exact bF _
 have hno:∀k,k=m.key->mT st1 k=ξ:=by
  rintro k rfl;unfold mT;rw[U0];intro x hx hk;have hk:=of_decide_eq_true hk;rw[<-Wb p st1,jJ]at hx;rcases hx with hx|hx
  ·rw[e1]at hx;have:=hlt x hx;rw[hk,BV]at this;cases this
  ·have:=hgt x hx;rw[hk,BV]at this;cases this
 have ahJ:∀k,k≠m.key->mT st1 k=mT st k:=by
  intro k hk;rw[Je];split
  ·rename_i hh;unfold mT;rw[YC]
   have hx:st[p]? ≠ξ:=λe=>by have:=aex (k:=m.key) h;rw[hh,<-hp,e]at this;cases this
   obtain⟨x,hx⟩:=Option.ne_none_iff_exists'.1 hx
   have hxk:x.key=m.key:=by have:=aex (k:=m.key) h;rw[hh,<-hp,hx]at this;simpa using this
   have e:st=st.take p++x::st.drop (p+1):=by rw[<-(bD.1 hx).2,List.getElem_cons_drop,Wb]
   conv=>rhs;rw[e]
   rw[T3,T3,List.find?_cons,cm (λq=>hk (by rw[<-q,hxk]))]
  ·rfl
 have awP:yF n st m=if m.release=η then st1 else st1.take p++[⟨m.key,m.value,n⟩]++st1.drop p:=by unfold yF;rw[<-hp,<-Je]
 rw[awP];split
 ·rename_i hr;refine⟨hs1,λk=>?_,by omega⟩;by_cases hk:k=m.key
  ·rw[aO hk];exact hno k hk
  ·rw[aL hk];exact ahJ k hk
 ·rename_i hr;refine⟨?_,λk=>?_,by simp;omega⟩
  ·unfold oL;rw[kS,aCr];refine⟨hs1.sublist (List.take_sublist _ _),?_,λx hx y hy=>?_⟩
   ·rw[aBY,Tc];exact⟨λy hy=>hgt y hy,hs1.sublist (List.drop_sublist _ _)⟩
   ·rw[e1]at hx;rcases jJ.1 hy with hy|hy
    ·simp at hy;subst hy;exact hlt x hx
    ·exact Fj (hlt x hx) (hgt y hy)
  ·by_cases hk:k=m.key
   ·rw[aO hk];subst hk;unfold mT;rw[kS,T3]
    have:(st1.take p).find? (λe=>decide (e.key=m.key))=ξ:=by rw[U0];intro x hx q;rw[e1]at hx;have:=hlt x hx;rw[of_decide_eq_true q,BV]at this;cases this
    rw[this];simp
   ·rw[aL hk,<-ahJ k hk];unfold mT;rw[kS,T3,aBY,List.find?_cons,cm (λq=>hk q.symm)];conv=>rhs;rw[<-Wb p st1,T3]
end
section
open HP
section
variable {B : aT -> Prop} {aH σ : Heap} {R : HP}
theorem ane{n:Int}(ms:List gz):∀{st:List bI},oL st->oL (ms.foldl (yF n) st)/\(ms.foldl (yF n) st).length<=st.length+ms.length:=by
 induction ms with
 |nil=>intro st h;exact⟨h,bF _⟩
 |cons m ms ih=>intro st h;obtain⟨h1,_,h3⟩:=acP (n:=n) h m;obtain⟨h4,h5⟩:=ih h1;exact⟨h4,by simp only[List.foldl_cons,R7];omega⟩
theorem amW{l:List bl}(hl:∀c∈l,c.ef.length<=2000000):∀(k:Nat)(st:List bI),oL st->st.length<=k*2000000->oL (l.foldl IF st)/\(l.foldl IF st).length<=(k+l.length)*2000000:=by
 induction l with
 |nil=>intro k st h1 h2;exact⟨h1,h2⟩
 |cons c l ih=>intro k st h1 h2;obtain⟨h3,h4⟩:=ane (n:=c.au) c.ef h1;have hc:=hl c (by simp);obtain⟨h5,h6⟩:=ih (λx hx=>hl x (by simp [hx])) (k+1) (IF st c) h3 (by show(c.ef.foldl _ st).length<=_;omega);refine⟨h5,?_⟩;rw[R7,show k+(l.length+1)=k+1+l.length from by omega];exact h6
end
def rW(n:Int)(s:List (aI×bI))(m:gz):List (aI×bI):=if m.release=η then sC m.key s else eT m.key ⟨m.key,m.value,n⟩ s
def FL(l:List bl):List (aI×bI):=l.foldl (λs c=>c.ef.foldl (rW c.au) s) []
def sA(s:List (aI×bI)):Prop:=(s.map (·.1)).Nodup
theorem adR{ν:Type}(k k':aI)(v:ν):∀s:List (aI×ν),dO k (eT k' v s)=if k=k' then δ v else dO k s
 |[]=>by by_cases h:k=k'<;>simp [eT,dO,h]
 |(a,b)::s=>by
  rw[eT];by_cases h1:k'=a
  ·subst h1;simp only[if_true,dO];by_cases h:k=k'<;>simp [h]
  ·rw[aL h1,dO,dO,adR k k' v s];by_cases h2:k=a
   ·have:k≠k':=λe=>h1 (by rw[<-e,h2])
    simp [h2,this];intro e;exact absurd (e.symm) h1
   ·simp [h2]
theorem VW{ν:Type}{k:aI}:∀{s:List (aI×ν)}{x:aI×ν},x∈sC k s->x∈s
 |[],x,h=>h
 |(a,b)::s,x,h=>by
  rw[sC]at h;split at h
  ·exact rA _ h
  ·rcases iV.1 h with rfl|h
   ·exact XJ
   ·exact rA _ (VW h)
theorem acR{ν:Type}{k:aI}:∀{s:List (aI×ν)},(∀p∈s,p.1≠k)->dO k s=ξ
 |[],_=>rfl
 |(a,b)::s,h=>by rw[dO,aL (λe=>h (a,b) (by simp) e.symm)];exact acR (λp hp=>h p (by simp [hp]))
theorem adQ(k k':aI):∀{s:List (aI×bI)},sA s->dO k (sC k' s)=if k=k' then ξ else dO k s
 |[],_=>by simp [sC,dO]
 |(a,b)::s,h=>by
  unfold sA at h;rw[eo,rB]at h;rw[sC];by_cases h1:k'=a
  ·subst h1;rw[aO rfl];by_cases h2:k=k'
   ·subst h2;rw[aO rfl];exact acR λp hp e=>h.1 (fL.2 ⟨p,hp,e⟩)
   ·rw[aL h2,dO,aL h2]
  ·rw[aL h1,dO,dO,adQ k k' (s:=s) h.2];by_cases h2:k=a
   ·have:k≠k':=λe=>h1 (by rw[<-e,h2])
    rw[aO h2,aO h2,aL this]
   ·rw[aL h2,aL h2]
theorem afi{k:aI}{v:bI}:∀{s:List (aI×bI)},sA s->sA (eT k v s)/\∀x∈(eT k v s).map (·.1),x∈s.map (·.1)\/x=k
 |[],_=>⟨by simp [sA,eT],by simp [eT]⟩
 |(a,b)::s,h=>by
  unfold sA at h;rw[eo,rB]at h;rw[eT];split
  ·rename_i e;subst e;exact⟨by unfold sA;rw[eo,rB];exact h,λx hx=>.inl hx⟩
  ·rename_i e;obtain⟨h1,h2⟩:=afi (k:=k) (v:=v) h.2;refine⟨?_,λx hx=>?_⟩
   ·unfold sA;rw[eo,rB];refine⟨λhm=>?_,h1⟩;rcases h2 _ hm with h3|h3
    ·exact h.1 h3
    ·exact e h3.symm
   ·rw[eo]at hx ⊢;rcases iV.1 hx with rfl|hx
    ·exact .inl XJ
    ·rcases h2 x hx with h3|h3
     ·exact .inl (rA _ h3)
     ·exact .inr h3
theorem afh{k:aI}:∀{s:List (aI×bI)},sA s->sA (sC k s)
 |[],h=>h
 |(a,b)::s,h=>by
  unfold sA at h;rw[eo,rB]at h;rw[sC];split
  ·exact h.2
  ·unfold sA;rw[eo,rB];refine⟨λhm=>?_,afh h.2⟩;obtain⟨p,hp,e⟩:=fL.1 hm;exact h.1 (fL.2 ⟨p,VW hp,e⟩)
def Cb(s:List (aI×bI))(st:List bI):Prop:=sA s/\oL st/\∀k,dO k s=mT st k
theorem apn{n:Int}{s:List (aI×bI)}{st:List bI}(h:Cb s st)(m:gz):Cb (rW n s m) (yF n st m):=by
 obtain⟨h1,h2,h3⟩:=h;obtain⟨k1,k2,_⟩:=acP (n:=n) h2 m;unfold rW;refine⟨?_,k1,λk=>?_⟩
 ·split
  ·exact afh h1
  ·exact(afi h1).1
 ·rw[k2 k];split
  ·rw[adQ k m.key h1,h3 k]
  ·rw[adR,h3 k]
theorem adA{n:Int}:∀(ms:List gz){s:List (aI×bI)}{st:List bI},Cb s st->Cb (ms.foldl (rW n) s) (ms.foldl (yF n) st)
 |[],_,_,h=>h
 |m::ms,_,_,h=>adA ms (apn h m)
theorem aeG:∀(l:List bl){s:List (aI×bI)}{st:List bI},Cb s st->Cb (l.foldl (λs c=>c.ef.foldl (rW c.au) s) s) (l.foldl IF st)
 |[],_,_,h=>h
 |c::l,_,_,h=>aeG l (adA c.ef h)
theorem anZ(l:List bl):Cb (FL l) (DB l):=aeG l ⟨SE,SE,λk=>rfl⟩
theorem as3{l:List bl}(hl:l.length<=aZ)(hm:∀c∈l,c.ef.length<=aZ):KF l=δ (FL l):=by
 unfold KF FL;rw[KM (g:=λs c=>c.ef.foldl (rW c.au) s) (P:=λ_ _=>True) hl trivial (λ_ _ _ _ _=>trivial) ?_]
 ·rfl
 intro i c s hc _;rw[KM (g:=λs m=>rW c.au s m) (P:=λ_ _=>True) (hm c (cE hc)) trivial (λ_ _ _ _ _=>trivial) ?_]
 ·rfl
 intro j m s hm _;unfold rW;by_cases hr:m.release=η<;>simp [hr]
end
section
open HP
def atY(n:Int):bl:=⟨n,⟨#[]⟩,0,0,0,0,⟨1,[]⟩,ι,-1,[]⟩
def newRow(n:Int):an:=auE (atY n) .aA .aA
section
variable {aH σ : Heap} {R : HP}
end
end
section
open HP
section
variable {aH σ : Heap} {R : HP}
theorem arL{α:Type}{c:α->an}{sz:Nat}{B:aT->Prop}{v:AV}{l:List α}(hc:∀x,iY (c x))(H:Hs B aH σ (Sl (fl c) sz v l*R)):∃v',l6 aH v σ=δ (v',aH)/\Wo (.s sz) v'=sl sz c l:=by
 obtain⟨v',h1,h2,h3⟩:=FK H hc (bF _) 7;refine⟨v',FD (Qm H) h1 (λe=>?_),h3⟩;rcases wN H with⟨rfl,rfl|rfl,_⟩|⟨id,g,rfl,K⟩
 ·simp [Wr]at h1;rw[h1]
 ·simp [Wr]at h1;rw[h1]
 ·obtain⟨k1,k2⟩:=jj K;have:=(bD.1 k2).1;subst e;omega
end
end
section
open HP
theorem aA8{f:Nat}{l:an}(h:iY l):Fz (.fn f l):=λσ n d=>by cases d<;>simp [Wr,h σ n]
theorem LD{l:an}(h:iY l):Fz (.rp l):=λσ n d=>by cases d<;>simp [Wr,h σ n]
def fmS(st:List (aI×bI)):AV:=xH (λx=>(Λ (aV x))) (λx=>(Λ (dS x))) st
section
variable {aH σ : Heap} {R : HP}
end
end
section
open HP
theorem aqr{R:Type}{f:an->Heap->(AX×an×Heap->Option R)->Option R}{v:an}{σ:Heap}{K:AX×an×Heap->Option R}{r:R}(h:∃n,∀m,n<=m->A.zR f m v σ K=δ r):A.Ch f v σ K=δ r:=by
 have hx:∃r,∃n,∀m,n<=m->A.zR f m v σ K=δ r:=⟨r,h⟩
 unfold A.Ch;rw[dif_pos hx];obtain⟨n,hn⟩:=h;obtain⟨n',hn'⟩:=ZR hx;have a:=hn (n+n') (by omega);have b:=hn' (n+n') (by omega);rw[a]at b;exact b.symm
theorem bounds{P:Nat->Nat->Prop}:∀(n:Nat),(∀j,j<n->∃N,∀m,N<=m->P j m)->∃N,∀j,j<n->∀m,N<=m->P j m
 |0,_=>⟨0,λj h=>by omega⟩
 |n+1,h=>by
  obtain⟨N,hN⟩:=bounds n (λj hj=>h j (by omega));obtain⟨M,hM⟩:=h n (by omega);refine⟨N+M,λj hj m hm=>?_⟩;by_cases e:j=n
  ·subst e;exact hM m (by omega)
  ·exact hN j (by omega) m (by omega)
theorem map_erase{α β:Type}(f:α->β)(l:List α)(j:Nat):(l.map f).eraseIdx j=(l.eraseIdx j).map f:=by rw[YC,YC,V8,List.map_take,List.map_drop]
theorem asH{α:Type}{l:List α}{j:Nat}(hj:j<l.length):(l[j]::l.eraseIdx j).Perm l:=by
 have e:l=l.take j++l[j]::l.drop (j+1):=by rw[List.getElem_cons_drop,Wb]
 rw[YC];conv=>rhs;rw[e]
 exact List.perm_middle.symm
theorem aBu{α R:Type}{ex:Nat}{enc:α->AV×AV}{it:Nat}{f:an->Heap->(AX×an×Heap->Option R)->Option R}{K:AX×an×Heap->Option R}{r:R}{es:List α}
  (body:an->Heap->(AX×an×Heap->Option R)->Option R) (ev:an->an)
  (hf:∀v s k,f v s k=A.vO (.op it 0) s λx s'=>(TH 0 x).bind λc=>Γ c (body v s' k) (k (.exit ex,ev v,s')))
  (I:List α->List α->an->Heap->Prop) (jL:∀d l v s,I d l v s->∃c,s[it]? =δ (.it c (l.map enc)))
  (hstep:∀d l v s j p,(d++l).Perm es->I d l v s->l[j]? =δ p->∃v' s',(∀k,body v (s.set it (.it [enc p] ((l.eraseIdx j).map enc))) k=k (.normal,v',s'))/\I (d++[p]) (l.eraseIdx j) v' s')
  (hend:∀d v s,d.Perm es->I d [] v s->K (.exit ex,ev v,s)=δ r) {v0:an} {s0:Heap} (h0:I [] es v0 s0):A.Ch f v0 s0 K=δ r:=by
 have key:∀(n:Nat)(d l:List α)v s,l.length=n->(d++l).Perm es->I d l v s->∃N,∀m,N<=m->A.zR f m v s K=δ r:=by
  intro n;induction n with
  |zero=>
   intro d l v s hl hp hI;have:l=[]:=vQ hl;subst this;refine⟨1,λm hm=>?_⟩;obtain⟨m',rfl⟩:∃m',m=m'+1:=⟨m-1,by omega⟩
   obtain⟨c,hc⟩:=jL _ _ _ _ hI;rw[A.zR,hf];simp only[A.vO,hc,Wf];exact hend d v s (by simpa using hp) hI
  |succ n ih=>
   intro d l v s hl hp hI;obtain⟨c,hc⟩:=jL _ _ _ _ hI
   have hb:∀j,j<l.length->∃N,∀m,N<=m->∀p,l[j]? =δ p->body v (s.set it (.it [enc p] ((l.eraseIdx j).map enc))) (λq=>match q.1 with|.normal=>A.zR f m q.2.1 q.2.2 K|_=>K q)=δ r:=by
    intro j hj;have hx:l[j]? =δ l[j]:=bU hj;obtain⟨v',s',h1,h2⟩:=hstep d l v s j _ hp hI hx
    have hp2:((d++[l[j]])++l.eraseIdx j).Perm es:=by rw[kS,aBY];exact((asH hj).append_left d).trans hp
    obtain⟨N,hN⟩:=ih _ _ _ _ (by rw[List.length_eraseIdx,aO hj];omega) hp2 h2;refine⟨N,λm hm p JJ=>?_⟩;rw[hx]at JJ;injection JJ with JJ;subst JJ
    rw[h1];exact hN m hm
   obtain⟨N,hN⟩:=bounds l.length hb;refine⟨N+1,λm hm=>?_⟩;obtain⟨m',rfl⟩:∃m',m=m'+1:=⟨m-1,by omega⟩
   rw[A.zR,hf];cases l with
   |nil=>simp at hl
   |cons e l=>
    simp only[A.vO,hc,eo];refine atl 0 (by simp) λj hj=>?_
    have hj':j<(e::l).length:=by simpa using hj
    have hx:(e::l)[j]? =δ (e::l)[j]:=bU hj'
    have hx2:(enc e::l.map enc)[j]? =δ (enc (e::l)[j]):=by rw[<-eo,qo,hx];rfl
    have:=hN j hj' m' (by omega) _ hx;simp only[hx2];rw[<-eo,map_erase];exact this
 exact aqr (key _ [] es v0 s0 rfl (List.Perm.refl _) h0)
def Ab(p:aI×bI):AV×AV:=(.agg (aV p.1),.agg (dS p.2))
section
variable {aH σ : Heap} {R : HP}
end
end
section
open HP
theorem aeL{ν:Type}(k:aI)(v:ν):∀s:List (aI×ν),(eT k v s).length<=s.length+1
 |[]=>by simp [eT]
 |(a,b)::s=>by
  rw[eT];split
  ·simp
  ·have:=aeL k v s;simp;omega
theorem aeJ{ν:Type}(k:aI):∀s:List (aI×ν),(sC k s).length<=s.length
 |[]=>by simp [sC]
 |(a,b)::s=>by
  rw[sC];split
  ·simp
  ·have:=aeJ k s;simp;omega
theorem apu(n:Int)(s:List (aI×bI))(m:gz):(rW n s m).length<=s.length+1:=by
 unfold rW;split
 ·have:=aeJ m.key s;omega
 ·exact aeL _ _ _
theorem acQ(n:Int):∀(ms:List gz)(s:List (aI×bI)),(ms.foldl (rW n) s).length<=s.length+ms.length
 |[],s=>bF _
 |m::ms,s=>by rw[List.foldl_cons];have:=acQ n ms (rW n s m);have:=apu n s m;simp;omega
theorem apt{l:List bl}(hm:∀c∈l,c.ef.length<=2000):(FL l).length<=l.length*2000:=by
 unfold FL
 have key:∀(l:List bl)(s:List (aI×bI)),(∀c∈l,c.ef.length<=2000)->(l.foldl (λs c=>c.ef.foldl (rW c.au) s) s).length<=s.length+l.length*2000:=by
  intro l;induction l with
  |nil=>intro s _;simp
  |cons c l ih=>intro s h;rw[List.foldl_cons];have h1:=ih (c.ef.foldl (rW c.au) s) (λx hx=>h x (by simp [hx]));have h2:=acQ c.au c.ef s;have h3:=h c (by simp);simp only[R7,gu];omega
 have:=key l [] hm;simpa using this
section
variable {aH σ : Heap} {R : HP}
end
end
section
open HP
section
variable {aH σ : Heap} {R : HP}
theorem ap6{α:Type}{c:α->an}{sz:Nat}{B:aT->Prop}{v:AV}{l:List α}{e:Int}(hc:∀x,iY (c x))(H:Hs B aH σ (Sl (fl c) sz v l*R)):∃v',l6 aH (.aM [v,.ah e]) σ=δ (.aM [v',.ah e],aH)/\Wo (.s sz) v'=sl sz c l:=by
 obtain⟨v',h1,h2,h3⟩:=FK H hc (bF _) 7;refine⟨v',FD (Qm H) (by simp [Wr,UC,h1]) (λe=>?_),h3⟩;rcases wN H with⟨rfl,rfl|rfl,_⟩|⟨id,g,rfl,K⟩
 ·simp [Wr]at h1;rw[h1]
 ·simp [Wr]at h1;rw[h1]
 ·obtain⟨k1,k2⟩:=jj K;have:=(bD.1 k2).1;subst e;omega
theorem P0{α:Type}{c:α->an}{sz:Nat}{v:AV}{l:List α}{e:Int}(h:Wo (.s sz) v=sl sz c l):Wo (.t [(.s sz),.k]) (.aM [v,.ah e])=.aM [sl sz c l,.ah e]:=by simp only[Wo,UZ]at h ⊢;rw[h]
def AT(l:List bl)(n:Int):List bI×Int:=
 if ¬(qi l=0)then([],qi l)else if Ac l n=ι then([],8)else(DB (l.take (mX l n+1)),0)
theorem akZ{l:List bl}(hlen:l.length<=300)(hm:∀c∈l,c.ef.length<=2000):oL (DB l)/\(DB l).length<=600000000:=by obtain⟨b1,b2⟩:=amW (l:=l) (λc hc=>by have:=hm c hc;omega) 0 [] SE (kD _);exact⟨b1,by unfold DB;omega⟩
end
end
section
open HP Go.Sort
theorem agw{α:Type}{r:α->α->Prop}(RG:∀x,¬r x x)(tr:∀x y z,r x y->r y z->r x z):∀{a b:List α},a.Pairwise r->b.Pairwise r->(∀x,x∈a↔x∈b)->a=b
 |[],[],_,_,_=>rfl
 |[],y::b,_,_,h=>by have:=(h y).2 (by simp);simp at this
 |x::a,[],_,_,h=>by have:=(h x).1 (by simp);simp at this
 |x::a,y::b,ha,hb,h=>by
  have ha':=Tc.1 ha;have hb':=Tc.1 hb
  have hxy:x=y:=by
   rcases iV.1 ((h x).1 (by simp))with e|m1
   ·exact e
   rcases iV.1 ((h y).2 (by simp))with e|m2
   ·exact e.symm
   exact(RG y (tr _ _ _ (hb'.1 x m1) (ha'.1 y m2))).elim
  subst hxy;congr 1;refine agw RG tr ha'.2 hb'.2 λz=>⟨λhz=>?_,λhz=>?_⟩
  ·rcases iV.1 ((h z).1 (by simp [hz]))with e|m
   ·exact(RG x (e▸ha'.1 z hz)).elim
   ·exact m
  ·rcases iV.1 ((h z).2 (by simp [hz]))with e|m
   ·exact(RG x (e▸hb'.1 z hz)).elim
   ·exact m
theorem Dz{α:Type}[Inhabited α]{cf:α->α->Int}(hS:SWO (λx y=>decide (cf x y<0))) (l:List α):(oK cf l).Perm l/\(oK cf l).Pairwise λx y=>¬cf y x<0:=by
 obtain⟨⟨h1,_,h3⟩,h2⟩:=pdq_sorts (λx y=>decide (cf x y<0)) hS l.toArray 0 l.length (XK l.length) η η (kD _) (by simp) (Or.inl rfl);unfold oK;generalize pdq (λx y=>decide (cf x y<0)) l.toArray 0 l.length (XK l.length) η η=d' at h1 h2 h3;have hs:d'.size=l.length:=by simpa using h1
 refine⟨?_,?_⟩
 ·have e1:d'.extract 0 l.length=d':=by rw[<-hs];simp
  have e2:l.toArray.extract 0 l.length=l.toArray:=by simp
  rw[e1,e2]at h3;exact h3
 ·rw[T4];intro i j hi hj hij;simp only[YO]at hi hj;have:=h2 i j (kD _) hij (by omega);simp only[getElem!_pos d' i hi,getElem!_pos d' j hj]at this;simpa using this
theorem Vr{α:Type}[Inhabited α](f:α->aI){l:List α}(hn:∀x∈l,∀y∈l,f x=f y->x=y)(hd:l.Nodup):(oK (λa b=>mj (f a) (f b)) l).Pairwise λa b=>gr (f a) (f b)=η:=by
 obtain⟨h1,h2⟩:=Dz (zM f) l;have hnd:(oK (λa b=>mj (f a) (f b)) l).Pairwise (λx y=>x≠y):=(h1.nodup_iff).2 hd;refine List.Pairwise.imp_of_mem (R:=λx y=>(¬mj (f y) (f x)<0)/\x≠y) ?_ (h2.and hnd);rintro x y hx hy ⟨q1,q2⟩;cases e:gr (f x) (f y)
 ·exfalso
  have e2:gr (f y) (f x)=ι:=by
   cases e2:gr (f y) (f x)
   ·rfl
   ·exact absurd ((Dw _ _).2 e2) q1
  exact q2 (hn x (h1.mem_iff.1 hx) y (h1.mem_iff.1 hy) (VU e e2))
 ·rfl
theorem acm{l:List bI}(h:oL l){k:aI}{x:bI}:mT l k=δ x↔x∈l/\x.key=k:=by
 constructor
 ·intro e;exact⟨zV e,of_decide_eq_true (aCW (p:=λm:bI=>decide (m.key=k)) e)⟩
 ·rintro⟨hm,hk⟩;cases e:mT l k with
  |none=>have:=U0.1 e x hm;simp [hk]at this
  |some y=>have hy:=zV e;have hyk:y.key=k:=of_decide_eq_true (aCW (p:=λm:bI=>decide (m.key=k)) e);obtain⟨i,hi⟩:=pK.1 hm;obtain⟨j,hj⟩:=pK.1 hy;have e1:=P5 h hi hk;have e2:=P5 h hj hyk;rw[<-e1,e2,hj]at hi;exact hi
theorem U7{k:aI}{v:bI}:∀{s:List (aI×bI)},sA s->(dO k s=δ v↔(k,v)∈s)
 |[],_=>by simp [dO]
 |(a,b)::s,h=>by
  unfold sA at h;rw[eo,rB]at h;rw[dO];by_cases e:k=a
  ·subst e;rw[aO rfl];constructor
   ·intro q;injection q with q;simp [q]
   ·intro q;rcases iV.1 q with q|q
    ·injection q with _ q;rw[q]
    ·exact(h.1 (fL.2 ⟨_,q,rfl⟩)).elim
  ·rw[aL e,U7 h.2];constructor
   ·intro q;exact rA _ q
   ·intro q;rcases iV.1 q with q|q
    ·injection q with q _;exact(e q).elim
    ·exact q
def Et(s:List (aI×bI)):Prop:=∀p∈s,p.2.key=p.1
theorem aes{ν:Type}{k:aI}{v:ν}:∀{s:List (aI×ν)}{x:aI×ν},x∈eT k v s->x∈s\/x=(k,v)
 |[],x,h=>by simp [eT]at h;exact .inr h
 |(a,b)::s,x,h=>by
  rw[eT]at h;split at h
  ·rcases iV.1 h with rfl|h
   ·exact .inr rfl
   ·exact .inl (rA _ h)
  ·rcases iV.1 h with rfl|h
   ·exact .inl XJ
   ·rcases aes h with h|h
    ·exact .inl (rA _ h)
    ·exact .inr h
theorem ans(l:List bl):Et (FL l):=by
 have inner:∀(n:Int)(ms:List gz)(s:List (aI×bI)),Et s->Et (ms.foldl (rW n) s):=by
  intro n ms;induction ms with
  |nil=>intro s h;exact h
  |cons m ms ih=>
   intro s hs;refine ih _ (λp hp=>?_);unfold rW at hp;split at hp
   ·exact hs p (VW hp)
   ·rcases aes hp with hp|hp
    ·exact hs p hp
    ·rw[hp]
 have key:∀(l:List bl)(s:List (aI×bI)),Et s->Et (l.foldl (λs c=>c.ef.foldl (rW c.au) s) s):=by
  intro l;induction l with
  |nil=>intro s h;exact h
  |cons c l ih=>intro s hs;exact ih _ (inner c.au c.ef s hs)
 exact key l [] (by intro p hp;cases hp)
theorem alT{s d:List (aI×bI)}{st:List bI}(hS:Cb s st)(hk:Et s)(hp:d.Perm s)[Inhabited bI]:oK (λa b:bI=>mj a.key b.key) (d.map (·.2))=st:=by
 obtain⟨h1,h2,h3⟩:=hS
 have MU:sA d:=by unfold sA at h1 ⊢;exact((hp.map (·.1)).nodup_iff).2 h1
 have hkd:Et d:=λp hp'=>hk p (hp.mem_iff.1 hp')
 have he:d.map (·.1)=(d.map (·.2)).map (·.key):=by rw[Zc];exact(TA λp hp'=>(hkd p hp').symm)
 have hnk:((d.map (·.2)).map (·.key)).Nodup:=by rw[<-he];exact MU
 have hinj:∀x∈d.map (·.2),∀y∈d.map (·.2),x.key=y.key->x=y:=by
  intro x hx y hy e;obtain⟨i,hi⟩:=pK.1 hx;obtain⟨j,hj⟩:=pK.1 hy;have hi':=(bD.1 hi).1
  have hij:i=j:=by
   refine(List.getElem?_inj (l:=(d.map (·.2)).map (·.key)) (by simpa using hi') hnk).1 ?_;have q1:((d.map (·.2)).map (·.key))[i]? =δ x.key:=by rw[qo,hi];rfl
   have q2:((d.map (·.2)).map (·.key))[j]? =δ y.key:=by rw[qo,hj];rfl
   rw[q1,q2,e]
  subst hij;rw[hi]at hj;injection hj
 have hs:=Vr (f:=λe:bI=>e.key) hinj ((List.pairwise_map.1 hnk).imp λh e=>h (congrArg _ e));refine agw (r:=λa b:bI=>gr a.key b.key=η) (λx q=>by rw[BV]at q;cases q) (λx y z=>Fj) hs h2 λx=>?_
 have hmem:=(Dz (zM λe:bI=>e.key) (d.map (·.2))).1.mem_iff (a:=x);rw[hmem,(hp.map (·.2)).mem_iff];constructor
 ·intro hx;obtain⟨p,hp1,hp2⟩:=fL.1 hx;have hpk:=hk p hp1;have:dO p.1 s=δ p.2:=(U7 h1).2 hp1;rw[h3]at this;rw[<-hp2];exact((acm h2).1 this).1
 ·intro hx;have:mT st x.key=δ x:=(acm h2).2 ⟨hx,rfl⟩;rw[<-h3]at this;exact fL.2 ⟨_,(U7 h1).1 this,rfl⟩
section
variable {aH σ : Heap} {R : HP}
theorem aqV{α:Type}[Inhabited α]{c:α->an}{sz:Nat}{cf:α->α->Int}(hinj:∀x y,c x=c y->x=y){v:AV}{l:List α}(hl:l≠[])(hlen:l.length<4611686018427387904)(hS:SWO (λx y=>decide (cf x y<0))) (H:Hs bN aH σ (Sl (fl c) sz v l*R)):
  ∃σ',A.LK sz c cf v σ=δ (.aM [],σ')/\Hs bN aH σ' (Sl (fl c) sz v (oK cf l)*R):=by
 rcases wN H with⟨h,_,_⟩|⟨id,g,rfl,K⟩
 ·exact absurd h hl
 obtain⟨_,h2⟩:=jj K;have hp:0<l.length:=List.length_pos_iff.2 hl
 have hc:(g=g/\sz=sz/\sz=sz/\0+l.length<=(l.map c).length/\0<l.length/\l.length<4611686018427387904)/\∃l':List α,((l.map c).drop 0).take l.length=l'.map c:=
  ⟨⟨rfl,rfl,rfl,by simp,hp,hlen⟩,l,by rw[Tq,vR (by simp)]⟩
 have hch:V7 hc.2=l:=by
  have h9:=ZR hc.2;have e9:((l.map c).drop 0).take l.length=l.map c:=by rw[Tq,vR (by simp)]
  exact((List.map_inj_right hinj).1 (e9.symm.trans h9)).symm
 refine⟨σ.set id (.arr g sz ((oK cf l).map c)),?_,?_⟩
 ·unfold A.LK;simp only[h2];rw[dif_pos hc,hch,List.take_zero,Tp,List.drop_of_length_le (by simp),TU]
 ·have hle:(oK cf l).length=l.length:=(Dz hS l).1.length_eq;exact Wg (B4 (b':=.arr g sz ((oK cf l).map c)) K trivial) hle.symm
theorem apl(e:bI):(((ψ 5 (.agg (dS e))).bind λgR=>(Φ 0 gR [(ε 0),dY,(ε 0),(ε 0),(ε 0)]).bind λiK=>δ iK).bind λcs=>δ (SQ 5 (gd 5 1 cs)))=δ (.sl 5 [dS e]):=rfl
theorem avr{B:aT->Prop}{v:AV}{l:List bI}(k:bI)(hl:l.length<1000000)(hB:∀g g' seg,(seg=[]\/B (.arr g 5 seg))->B (.arr g' 5 (seg++[dS k])))(H:Hs B aH σ (Sl (fl dS) 5 v l*R)):
  ∃v' σ',Uv 5 (140737488355328 / 48) v (.sl 5 [dS k]) σ=δ (v',σ')/\Hs B aH σ' (Sl (fl dS) 5 v' (l++[k])*R):=
 IS (ys:=[dS k]) (xs:=[k]) (dN (show pr (dS k=dS k)*(Sl (fl dS) 5 v l*R)=_ by
  rw[show els (fl dS) [dS k] [k]=pr (dS k=dS k)*emp from rfl,vA,zG];ac_rfl) (oB.2 ⟨rfl,H⟩)) (by simp;omega) hB
theorem arb{l:List bl}(hl:fI D6 l){n:Int}(hn:aU n)(σ:Heap):OK [sl 11 bn l,.ah n] σ=δ (.aM [sl 5 dS (AT l n).1,.ah (AT l n).2],σ):=by
 have run:OQ (sl 11 bn l) (.ah n) σ=δ (.aM [sl 5 dS (AT l n).1,.ah (AT l n).2],σ):=by
  unfold OQ AT;rw[ach (af7 l hl),aP,ahv,aP];by_cases hf:qi l=0
  case neg=>
   rw[cB hf,cK,aO hf,bL,cq];exact congrArg (λz=>δ (z,σ)) (P0 rfl)
  have hg:=PX hf;have hlen:=hg.len;rw[cm (by simp [hf]),cD,aL (by simp [hf])];obtain⟨p,e1,e2,e3⟩:=asK hg hn σ;rw[e1,aP,jZ,aP,ext1,aP,show Yr (.bool (Ac l n))=δ (.bool (!Ac l n))from rfl,aP];cases hh:Ac l n
  ·rw[show(!ι)=η from rfl,cK,aO rfl,bL,cq];exact congrArg (λz=>δ (z,σ)) (P0 rfl)
  rw[show(!η)=ι from rfl,cD,aL (by decide)];have e4:=e3 (.inr hh);subst e4;obtain⟨x,hx,RF⟩:=asa hg hh;generalize mX l n=a at hx ⊢;have JF:=(bD.1 hx).1;obtain⟨st,hst⟩:∃st,st=FL (l.take (a+1)):=⟨_,rfl⟩
  have hS:Cb st (DB (l.take (a+1))):=hst▸anZ _;have hk:Et st:=hst▸ans _
  have nH:st.length<=600000:=by
   have h1:=apt (l:=l.take (a+1)) (λc hc=>(hg.mv c (xq hc)).1);have h2:(l.take (a+1)).length<=300:=by simp;omega
   rw[hst];exact X8 h1 (rz 2000 h2)
  have hcs:Kx [sl 11 bn (l.take (a+1))] σ=δ (fmS st,σ):=by rw[hst];exact al8 (as3 (by simp;unfold aZ;omega) (λc hc=>by have:=(hg.mv c (xq hc)).1;unfold aZ;omega))
  rw[QM (by omega),aP,show A.qd 11 (sl 11 bn l) ξ (δ (.ah ((a+1:Nat):Int))) σ=δ (sl 11 bn (l.take (a+1)))from amH 11 bn l (by omega),aP,hcs,aP];rw[show A.yx (fmS st)=δ (st.map Ab)from rfl,aP];simp only;refine aBu (α:=aI×bI) (enc:=Ab) (it:=σ.length) (es:=st) _ _ (λ_ _ _=>rfl) (λd lf w s=>∃h c,w=[h]/\(d=[]->h=.aA)/\Hs bN σ s (blk σ.length (.it c (lf.map Ab))*(Sl (fl dS) 5 h (d.map (·.2))*emp))) ?_ ?_ ?_ ?_
  ·rintro d lf w s ⟨h,c,rfl,_,K⟩;exact⟨c,(jj K).2⟩
  ·rintro d lf w s j p hp ⟨h,c,rfl,_,K⟩ hj;have K':=B4 (b':=.it [Ab p] ((lf.eraseIdx j).map Ab)) K trivial;obtain⟨_,hgt⟩:=jj K';generalize s.set σ.length (aT.it [Ab p] ((lf.eraseIdx j).map Ab))=nL at K' hgt ⊢;have me:d.length<=st.length:=by have:=hp.length_eq;simp at this;omega
   obtain⟨h',s',g1,K2⟩:=avr p.2 (by simp;omega) (λ_ _ _ _=>trivial) (dN (show _=Sl (fl dS) 5 h (d.map (·.2))*(blk σ.length (.it [Ab p] ((lf.eraseIdx j).map Ab))*emp) by ac_rfl) K');have Mi:A.yu (.op σ.length 0) nL=δ (.aM [.agg (aV p.1),.agg (dS p.2)]):=by simp only[A.yu,hgt];rfl
   refine⟨[h'],s',λk=>?_,h',_,rfl,λq=>by simp at q,dN (by rw[V8];show Sl (fl dS) 5 h' (d.map (·.2)++[p.2])*_=_;ac_rfl) K2⟩;rw[Mi,aP,ext1,aP,show ψ 5 (.agg (dS p.2))=δ (dS p.2)from rfl,aP,apr p.2 _ rfl,aP,show l7 0 5 (dS p.2)=δ (.agg (dS p.2))from rfl,aP,apl,aP];simp only[bM];rw[g1,aP]
  ·rintro d w s hp ⟨h,c,rfl,Cx,K⟩;have K2:=wQ K;simp only[Rn,bM]
   letI:Inhabited bI:=⟨⟨⟨0,⟨#[]⟩⟩,⟨0,0⟩,0⟩⟩
   have hsort:∃s',JW [h,.fn 297 []] s=δ (.aM [],s')/\Hs bN σ s' (Sl (fl dS) 5 h (DB (l.take (a+1)))*emp):=by
    have hres:=alT hS hk hp;by_cases hd:d=[]
    ·subst hd;rw[Cx rfl]at K2 ⊢;refine⟨s,rfl,?_⟩;rw[Wf]at hres K2
     have:DB (l.take (a+1))=[]:=by rw[<-hres];exact vQ (by rw[(Dz (zM λe:bI=>e.key) []).1.length_eq];rfl)
     rw[this];exact K2
    ·have me:d.length<=st.length:=by have:=hp.length_eq;omega
     obtain⟨s',g1,K3⟩:=aqV (cf:=λa b:bI=>mj a.key b.key) ab6 (by simpa using hd) (by simp;omega) (zM λe:bI=>e.key) K2;rw[hres]at K3;exact⟨s',g1,K3⟩
   obtain⟨s',g1,K3⟩:=hsort;rw[g1,aP];obtain⟨v',j1,j2⟩:=ap6 (e:=0) adf K3;rw[j1,cq];exact congrArg (λz=>δ (z,σ)) (P0 j2)
  ·have K2:=FG (b:=aT.it [] (st.map Ab)) (IL (B:=bN) σ) trivial;refine⟨.aA,[],rfl,λ_=>rfl,?_⟩;rw[Wf];exact dN (show _=blk σ.length (aT.it [] (st.map Ab))*(Sl (fl dS) 5 .aA []*emp) by ac_rfl) (vk (v:=.aA) (E:=fl dS) (sz:=5) K2 (.inl rfl))
 refine wrap_eq rfl ?_ (P0 (v:=sl 5 dS (AT l n).1) rfl);rw[show UZ [Sh.e 11 [.k,.k,.k,.k,.k,.k,.k,.s 2,.k,.k,.s 8]] [sl 11 bn l,.ah n]=[sl 11 bn l,.ah n]from asz l _];exact run
end
end
section
open Go.RowKit Go.Sort
def wq(a b:aI):Int:=if ¬(a.unit=b.unit)then a.unit-b.unit else Ux a.param.data.toList b.param.data.toList
theorem ato(a b:ia):wq a.1 b.1<0↔mj a.1 b.1<0:=by
 unfold wq mj;have:=a.2;have:=b.2;by_cases h:a.1.unit=b.1.unit
 ·simp [h]
 ·rw[aO h,aO h];split<;>omega
theorem aeS:(λx y:ia=>decide (wq x.1 y.1<0))=λx y:ia=>decide (mj x.1 y.1<0):=by funext x y;exact decide_eq_decide.2 (ato x y)
theorem ahn:SWO (λx y:ia=>decide (wq x.1 y.1<0)):=by rw[aeS];exact zM λk:ia=>k.1
theorem ali(a b:ia)(W:World):Calls Tryz.prog 28 #[.agg (wP a.1).toArray,.agg (wP b.1).toArray] W λe w'=>e=.returned (.int θ (wq a.1 b.1))/\∃q os',w'=grow (W.drewN q) os':=by
 obtain⟨⟨a,p⟩,ha⟩:=a;obtain⟨⟨b,q⟩,hb⟩:=b;have Cv:=λ(x y:ByteArray)W'=>Tryz.strings_Compare x y W'
 unfold wP;simp only at ha hb ⊢
 go_enter Tryz.func28,Tryz.ntmps28
 go_wp2_with (go_at_call 29;refine(Cv _ _ _).mono ?_;rintro e w' ⟨rfl,rfl⟩)
 ·go_ret
  have h1:a≠b:=by first|simpa using ‹(a !=b)=η›|assumption
  exact⟨by rw[wq,aO h1];rfl,KS⟩
 ·go_ret
  have h1:a=b:=by first|simpa using ‹(a !=b)=ι›|simpa using ‹¬(a !=b)=η›|assumption|omega
  exact⟨by rw[wq,aL (by simpa using h1)];rfl,KS⟩
theorem apb{l l':List ia}(h:l.Perm l')(hd:l.Nodup):oK (λa b:ia=>mj a.1 b.1) l=oK (λa b:ia=>mj a.1 b.1) l':=by
 have hn:∀(l:List ia),∀x∈l,∀y∈l,x.1=y.1->x=y:=λl x _ y _ e=>Subtype.ext e
 have p1:=(Dz (zM λk:ia=>k.1) l).1;have p2:=(Dz (zM λk:ia=>k.1) l').1;refine List.Perm.eq_of_pairwise (le:=λa b:ia=>gr a.1 b.1=η) (λa b _ _ h1 h2=>?_) (Vr (λk:ia=>k.1) (hn l) hd) (Vr (λk:ia=>k.1) (hn l') (h.nodup_iff.1 hd)) ((p1.trans h).trans p2.symm);have:=Fj h1 h2;rw[BV]at this;cases this
theorem abp{α β:Type}(f:α->β):∀(l:List α){L:List β},L.Perm (l.map f)->∃l':List α,l'.Perm l/\l'.map f=L
 |[],L,h=>⟨[],.refl _,by have:=List.Perm.eq_nil h;rw[this];rfl⟩
 |x::l,L,h=>by have hx:f x∈L:=h.mem_iff.2 (by simp);obtain⟨s,t,rfl⟩:=List.append_of_mem hx;have h2:(s++t).Perm (l.map f):=(List.perm_cons (f x)).1 (List.perm_middle.symm.trans h);obtain⟨l',k1,k2⟩:=abp f l h2;obtain⟨a,b,rfl,e1,e2⟩:=List.map_eq_append_iff.1 k2;exact⟨a++x::b,List.perm_middle.trans (k1.cons x),by simp [e1,e2]⟩
abbrev sk(x:ia):List Value:=wP x.1
theorem ap0:∀(l:List ia)(t:Nat),t<l.length*2->(l.flatMap sk)[t]? =δ ((sk l.toArray[t / 2]!)[t % 2]!):=by
 intro l;induction l with
 |nil=>intro t ht;simp at ht
 |cons x l ih=>
  intro t ht;rw[Vi];have hk:(sk x).length=2:=rfl;by_cases h:t<2
  ·rw[iG (by rw[hk];exact h),Nat.div_eq_of_lt h,Nat.mod_eq_of_lt h];simp [hk,h]
  ·rw[iz (by rw[hk];omega),hk,ih (t-2) (by simp [gu]at ht;omega)];have e1:t / 2=(t-2) / 2+1:=by omega
   have e2:t % 2=(t-2) % 2:=by omega
   rw[e1,e2];simp
theorem ap1(l:List ia):(l.flatMap sk).length=l.length*2:=by
 induction l with
 |nil=>rfl
 |cons x l ih=>rw[Vi,Ve,ih,R7];show 2+_=_;omega
def ath(l:List ia)(w:World)(e:Ending)(w':World):Prop:=∃v,e=.returned v/\Below w.heap.size w w'/\∃a cap,v=.slice a l.length cap/\l.length<=cap/\(l=[]\/∃g,a=δ ⟨g,0,ξ⟩/\w.heap.size<=g/\g<w'.heap.size/\ ∀t x,((oK (λa b:ia=>mj a.1 b.1) l).flatMap sk)[t]? =δ x->w'.cell? ⟨g,t,ξ⟩=δ x)
theorem amI(Bm off:Nat)(mb:Option Nat)(es:Array MapEntry)(l:List ia)(ks:List aI)(hks:vD es.toList ks)(hp:ks.Perm (l.map (·.1)))(hd:l.Nodup)(hl:l.length<=1000000)(w:World)(hm:w.cell? ⟨Bm,off,ξ⟩=δ (.map mb))(YX:Bm<w.heap.size)(hs:Bc w mb es):
  Calls Tryz.prog 26 #[.func (.func 52) #[] #[.pointer (δ ⟨Bm,off,ξ⟩)],.func (.func 28) #[] #[]] w (ath l w):=by
 have awL:=alu Bm off mb es ks hks (by rw[hp.length_eq,Z7];exact hl) w hm YX hs;have eg:∀args w,(callFunc 28 args).run Tryz.prog w=.ok (.enter 28 args) w:=Tryz.call28;have hnone:=λ(w:World)=>(AnyF.slices_SortFunc_none (P:=Tryz.prog) {Tryz.sort51 with} ξ 0 (.func (.func 28) #[] #[]) w)
 have hsort:=λ(g cap:Nat)(d:Array ia)(w:World)hH hb hd=>AnyQ.slices_SortFunc_eq Tryz.sort51 2 Tryz.isAgg97 Tryz.sizeOf97 sk (λ_=>rfl) (λx v hv=>by
  simp [sk,wP]at hv
  rcases hv with rfl|rfl<;>rfl) (λa b:ia=>wq a.1 b.1) ahn 28 #[] g 0 cap d w eg (λ_ _ _ _ x y=>ali x y _) hH hb hd
 go_enter Tryz.func26,Tryz.ntmps26
 go_wp2_with (go_at_call 50;refine awL.mono ?_;rintro e w1 ⟨v,ss,rfl,hS,hrow,Cx,hb⟩)
 obtain⟨l',hl',pU⟩:=abp (λk:ia=>k.1) l (hS.trans hp);have hlen:ss.length=l.length:=by rw[<-pU,Z7];exact hl'.length_eq
 have hfl:ss.flatMap wP=l'.flatMap sk:=by rw[<-pU,List.flatMap_map]
 rcases hrow.2 with⟨rfl,hz⟩|⟨gb,cap,cur,rfl,hbase,xJ,r1,r2,r3,r4⟩
 ·have hl0:l=[]:=vQ (by omega);subst hl0
  go_wp2_with (go_at_call 51;refine(hnone w1).mono ?_;rintro e w2 ⟨rfl,rfl⟩)
  go_ret
  exact⟨_,rfl,hb,ξ,0,rfl,bF _,.inl rfl⟩
 ·rw[hlen]at r1 r4;rw[hfl]at r4;have wz:l'.length=l.length:=hl'.length_eq;have azM:gb<w1.heap.size:=(lT.1 xJ).1
  have awM:∀t,t<l'.length*2->cur[t]? =(l'.flatMap sk)[t]? :=λt ht=>by rw[<-r4,Vh (by omega),Ta]
  have hH:HoldsK sk 2 w1 gb 0 l'.toArray:=by intro t ht;simp only[size_flatK,Y9]at ht;rw[get_flatK _ _ _ _ (by simpa using ht)];refine⟨?_,by simp [World.frozen?,xJ]⟩;have h1:=awM t ht;rw[ap0 l' t ht]at h1;have hsz:=(lT.1 h1).1;simp only[XV,xJ,WW,h1];simp
  have ahY:=hsort gb cap l'.toArray w1 hH azM (by simp;omega);simp only[Y9,wz]at ahY;rw[hlen]
  go_wp2_with (go_at_call 51;refine ahY.mono ?_;rintro e w2 ⟨rfl,nn,os,rfl⟩)
  go_ret
  have hd':(pdq (λx y:ia=>decide (wq x.1 y.1<0)) l'.toArray 0 l.length (XK l.length) η η).size=l.length:=by have:=aev (cf:=λa b:ia=>wq a.1 b.1) ahn l'.toArray;simp only[Y9,wz]at this;exact this
  have RD:(pdq (λx y:ia=>decide (wq x.1 y.1<0)) l'.toArray 0 l.length (XK l.length) η η).toList=oK (λa b:ia=>mj a.1 b.1) l:=by rw[<-apb hl' (hl'.nodup_iff.2 hd)];unfold oK;rw[wz,aeS]
  have au2:(ltOf λa b:ia=>wq a.1 b.1)=λx y:ia=>decide (wq x.1 y.1<0):=rfl
  rw[au2];generalize pdq (λx y:ia=>decide (wq x.1 y.1<0)) l'.toArray 0 l.length (XK l.length) η η=d' at hd' RD ⊢;have hsw:=abx (enc:=sk) (k:=2) (λ_=>rfl) (w:=w1) (b:=gb) (off:=0) (n:=nn) (d:=l'.toArray) (d':=d') (os:=os) (by rw[hd'];simp [wz]) xJ (by simp [wz];omega);have sx:Below w.heap.size w1 (w1.eW gb (.cells (gI cur 0 (d'.toList.flatMap sk)) 97 (0,0))):=⟨rfl,rfl,rfl,by rw[yj];exact bF _,λk hk=>wI _ (by omega)⟩
  have aw9:=hsw.mono (B':=w.heap.size) hb.size;have ay5:(d'.toList.flatMap sk).length=l.length*2:=by rw[ap1,YO,hd']
  refine⟨_,rfl,(hb.trans sx).trans aw9,δ ⟨gb,0,ξ⟩,cap,rfl,r1,.inr ⟨gb,rfl,hbase,?_,λt x hx=>?_⟩⟩
  ·have:=hsw.size;rw[yj]at this;omega
  ·rw[<-RD]at hx;have ht:=(bD.1 hx).1;have hg2:(sortWorldK sk 2 w1 gb 0 nn d' os).heap[gb]? =δ (.cells (gI cur 0 (d'.toList.flatMap sk)) 97 (0,0)):=(hsw.block gb azM).trans (vw _ azM)
   have:(gI cur 0 (d'.toList.flatMap sk))[t]? =δ x:=by rw[DL _ _ _ (by omega),aO (by omega)];simpa using hx
   simp only[XV,hg2,this];simp
theorem apZ{cc:RC}{k:aI}{v:Value}(h:aq cc (.agg (aV k)) v):v=sj k:=by simp only[aq,aV,aR]at h;obtain⟨vs,rfl,⟨x,_,e1,rfl,y,_,e2,rfl,e3⟩,_⟩:=h;subst e3;subst e2;unfold sj;congr 1;exact mU.1 e1
theorem aek{cc:RC}:∀{es:List (AV×AV)}{L:List MapEntry}{l:List ia},dD cc es L->es.map (·.1)=l.map (λk=>Λ (aV k.1))->vD L (l.map (·.1))
 |[],L,l,h,e=>by
  simp only[dD]at h;subst h;cases l with
  |nil=>rfl
  |cons _ _=>simp at e
 |(k,v)::es,L,l,h,e=>by
  simp only[dD]at h;obtain⟨e0,es',rfl,h1,h2,h3⟩:=h;cases l with
  |nil=>simp at e
  |cons x l=>simp only[eo,List.cons.injEq]at e;have ih:=aek h3 e.2;unfold vD at ih ⊢;rw[eo,eo,eo,ih];rw[e.1]at h1;rw[apZ h1]
theorem keys_perm{L L':List MapEntry}{ks:List aI}(h:vD L ks)(hp:L.Perm L'):∃ks',vD L' ks'/\ks'.Perm ks:=by
 refine⟨(L'.map (·.key)).map Md,?_,?_⟩
 ·have hm:=hp.map (·.key);rw[h]at hm
  have:∀v∈L'.map (·.key),sj (Md v)=v:=λv hv=>by obtain⟨k,_,rfl⟩:=fL.1 (hm.mem_iff.2 hv);rfl
  unfold vD;rw[Zc];conv=>lhs;rw[<-List.map_id (L'.map (·.key))]
  exact TA λv hv=>(this v hv).symm
 ·have hm:=(hp.map (·.key)).map Md;rw[h,VO]at hm;exact hm.symm
theorem afz{c:RC}{b:Nat}:∀(l:List ia)(off:Nat),(∀t v,(l.flatMap sk)[t]? =δ v->c.w.cell? ⟨b,off+t,ξ⟩=δ v)->bY c 2 b off (l.map λk=>aV k.1)
 |[],off,h=>by simp [bY]
 |x::l,off,h=>by
  simp only[eo,bY];refine⟨rfl,?_,afz l (off+2) λt v hv=>?_⟩
  ·unfold aV;simp only[bT];exact⟨⟨_,h 0 _ rfl,rfl,by simp [aq]⟩,⟨_,h 1 _ rfl,rfl,by simp [aq]⟩,trivial⟩
  ·have:=h (t+2) v (by rw[Vi,iz (by show 2<=_;omega)];exact hv);rwa[show off+(t+2)=off+2+t by omega]at this
theorem ajp:Sound Tryz.prog aK 26 JX:=by
 intro args σ r σ' h;unfold JX YS at h;split at h
 ·simp only at h;split at h
  ·obtain⟨es,he,h⟩:=bX.1 h;split at h
   ·rename_i hex;simp only[Δ,j0]at h;obtain⟨rfl,rfl⟩:=h;obtain⟨l,hl⟩:∃l,l=V7 hex:=⟨_,rfl⟩
    have hK:=ZR hex;rw[<-hl]at hK ⊢;obtain⟨hk1,hk2,Zb⟩:=hK;refine .inl ⟨26,Tryz.call26,λz vs e1 e2 hh ha=>?_⟩;obtain⟨v,u,rfl,r1,r2⟩:=QI ha;simp only[aq]at r1 r2;obtain⟨f1,us1,rfl,k1,k2⟩:=r1;obtain⟨f2,us2,rfl,k3,k4⟩:=r2;have EG:f1=52:=Qo (nm:=aK) (k:=359) (by kernel_rfl) rfl (by rw[<-e1];exact k1);have rI:f2=28:=Qo (nm:=aK) (k:=372) (by kernel_rfl) rfl (by rw[<-e1];exact k3);subst EG rI;have hu2:us2=#[]:=by simp only[aR]at k4;exact mU.1 k4
    subst hu2;simp only[aR,aq]at k2;obtain⟨p,_,q1,⟨b,off,rfl,q2,q3,q4⟩,rfl⟩:=k2;have GS:us1=#[.pointer (δ ⟨b,off,ξ⟩)]:=mU.1 q1;subst GS;simp only[bT]at q4;obtain⟨⟨mv,c1,c2,c3⟩,_⟩:=q4
    obtain⟨mb,bJ,ks,m1,m2,m3,m4⟩:∃(mb:Option Nat)(bJ:Array MapEntry)(ks:List aI),mv=.map mb/\Bc z.w mb bJ/\vD bJ.toList ks/\ks.Perm (l.map (·.1)):=by
     unfold A.yx at he;split at he
     ·injection he with he
      subst he;simp only[aq]at c3;have hl0:l=[]:=by cases l with|nil=>rfl|cons _ _=>simp at hk1
      subst hl0;exact⟨ξ,#[],[],c3,rfl,rfl,List.Perm.refl _⟩
     ·injection he with he
      subst he;simp only[aq]at c3;obtain⟨bm,rfl,_,_,bJ,aJ,g1,gw,L,g2,g3⟩:=c3;have hKL:=aek g2 hk1
      have hp:L.Perm bJ.toList:=by
       rcases g3 with rfl|⟨g3,_⟩
       ·exact List.Perm.refl _
       ·exact g3
      obtain⟨ks,w1,w2⟩:=keys_perm hKL hp;exact⟨δ bm,bJ,ks,rfl,⟨aJ,gw,g1⟩,w1,w2⟩
     ·cases he
    subst m1;refine(amI b off mb bJ l ks m3 m4 hk2 Zb z.w c1 q2 m2).mono ?_;rintro e w' ⟨v,rfl,hb,a,cap,rfl,hc,hor⟩;have hout:Out z z.w z.E:=⟨rfl,rfl,rfl,bF _,λ_ _ _=>rfl,λi p hp=>.inr ⟨p,hp,rfl⟩,λi p hp=>⟨p,hp,.inl rfl⟩,e2,λp hp=>hh.lt hp⟩
    refine⟨_,z.E,rfl,hout.grow hb,hh.mono (yl hb) rfl (λp hp=>hb.block _ (hh.lt hp)),?_⟩;simp only[aq]
    have hlen:((oK (λa b:ia=>mj a.1 b.1) l).map λk=>aV k.1).length=l.length:=by rw[Z7];exact(Dz (zM λk:ia=>k.1) l).1.length_eq
    rw[hlen];refine⟨a,cap,rfl,hc,by decide,?_⟩;rcases hor with rfl|⟨g,rfl,g1,g2,g3⟩
    ·left;exact vQ hlen
    ·right;refine⟨g,0,rfl,g2,?_,afz _ 0 λt v hv=>by rw[WW];exact g3 t v hv⟩;rintro(q|⟨p,hp,q⟩|⟨i,q⟩)
     ·have:=e2 _ q;omega
     ·have:=hh.lt (p:=p) hp;simp only[ctx]at this;omega
     ·cases q
   ·cases h
  ·cases h
 ·cases h
end
section
open Go.RowKit
theorem avh{c:RC}{a b d:AV}{vs:Array Value}(h:aR c [a,b,d] vs.toList):∃v u t,vs=#[v,u,t]/\aq c a v/\aq c b u/\aq c d t:=by simp only[aR]at h;obtain⟨v,vs',e,h1,u,vs2,e2,h2,t,vs3,e3,h3,e4⟩:=h;refine⟨v,u,t,?_,h1,h2,h3⟩;subst e4;subst e3;subst e2;cases vs;simp at e;simp [e]
theorem alP:Sound Tryz.prog aK 161 Kt:=by
 intro args σ r σ' h;unfold Kt YS at h;split at h
 ·simp only at h;split at h
  ·rename_i x y;split at h
   ·rename_i hb;simp only[Δ,j0]at h;obtain⟨rfl,rfl⟩:=h;refine pG.same Tryz.call161 λc vs w hr=>?_
    obtain⟨v,u,rfl,h1,h2⟩:=QI hr;simp only[aq]at h1 h2;subst h1 h2;have hx:((x.toNat:Nat):Int)=x:=SN hb.1;have hy:((y.toNat:Nat):Int)=y:=SN hb.2.2.1;have:=Tryz.bits_Mul64 x.toNat y.toNat (by omega) (by omega) w;rw[hx,hy]at this;refine this.mono ?_;rintro e w' ⟨rfl,rfl⟩;exact⟨_,rfl,Below.refl _ _,λc'=>by simp [aq,aR]⟩
   ·cases h
  ·cases h
 ·cases h
theorem aoh(x y c:Nat)(hc:c<=1)(w:World):(callFunc 162 #[.int .u64 x,.int .u64 y,.int .u64 c]).run Tryz.prog w=
  .ok (.value (.tuple #[.int .u64 (((x+y+c) % 18446744073709551616:Nat):Int),.int .u64 (((x+y+c) / 18446744073709551616:Nat):Int)])) w:=by
 rw[run_callFunc_extern Tryz.func162 (by kernel_rfl) (by kernel_rfl) (by kernel_rfl) (e:=add64Entry) (by kernel_rfl),run_add64 x y c (by omega) (by omega) (by omega) (by omega)];simp only[Result.andThen];congr 5<;>omega
theorem alO:Sound Tryz.prog aK 162 HT:=by
 intro args σ r σ' h;unfold HT A.lJ at h;split at h
 ·simp only at h;split at h
  ·rename_i x y d;split at h
   ·rename_i hb;simp only[Δ,j0]at h;obtain⟨rfl,rfl⟩:=h;refine .inr λz vs e1 e2 hh ha=>?_
    obtain⟨v,u,t,rfl,h1,h2,h3⟩:=avh ha;simp only[aq]at h1 h2 h3;subst h1 h2 h3;have hx:((x.toNat:Nat):Int)=x:=SN hb.1;have hy:((y.toNat:Nat):Int)=y:=SN hb.2.2.1;have hd:((d.toNat:Nat):Int)=d:=SN hb.2.2.2.2.1;have:=aoh x.toNat y.toNat d.toNat (by omega) z.w;rw[hx,hy,hd]at this;exact⟨_,z.w,z.E,this,⟨rfl,rfl,rfl,bF _,λ_ _ _=>rfl,λi p hp=>.inr ⟨p,hp,rfl⟩,λi p hp=>⟨p,hp,.inl rfl⟩,e2,λp hp=>hh.lt hp⟩,hh,by simp [aq,aR]⟩
   ·cases h
  ·cases h
 ·cases h
end
section
theorem anY:Sound Tryz.prog aK 141 Us:=q1 [] 35 (.s .n (.s (.s .n (.b (.l [2,7] [.exit 0,.ret] (.s .n (.s dM (.s (.b (.s .n (.s .n bG))) .n)))))) bf)) p4 Tryz.func141 Tryz.call141 (λa0 σ=>by kernel_rfl) rfl rfl
theorem aBb:Sound Tryz.prog aK 130 H7:=q1 [] 20 (.s .n bf) (Ξ anY p4) Tryz.func130 Tryz.call130 (λa0 σ=>by kernel_rfl) rfl rfl
theorem qL:Sound Tryz.prog aK 15 jS:=q3 [] 15 (.s .n bf) p4 Tryz.func15 Tryz.call15 (λa0 a1 a2 σ=>by kernel_rfl) rfl rfl
theorem aaB:Sound Tryz.prog aK 131 Kb:=q1 [] 5 (.s .n bf) (Ξ qL p4) Tryz.func131 Tryz.call131 (λa0 σ=>by kernel_rfl) rfl rfl
theorem ajC:Sound Tryz.prog aK 132 aBh:=q1 [5] 63 (.s .n (.s bG (.s .n (.s (.s .n (.b (.l [2,12] [.exit 0,.ret] (.s .n (.s dM (.s (.b (.s .n (.s (.b (.s .n (.j bf (.s .n (.j bf (.s .n (.j bf bG))))))) .n))) .n)))))) bf)))) (Ξ aaB (Ξ aBb p4)) Tryz.func132 Tryz.call132 (λa0 σ=>by kernel_rfl) rfl rfl
theorem ajw:Sound Tryz.prog aK 115 Sm:=q1 [1,6] 115 (.s .n (.s (.b (.s .n (.j bf (.s .n (.j bf (.s .n (.j bf bG))))))) (.s .n (.s (.s .n (.b (.l [1,2,33] [.exit 1,.ret] (.s .n (.s dM (.s (.b (.s .n (.s (.b (.s .n (.j bf (.s .n (.j bf (.s .n (.j bf (.s .n (.j bf bG))))))))) (.s (.s .n bG) (.s .n (.s .n (.c [1] .n .n))))))) .n)))))) bf)))) (Ξ aBb (Ξ qL (Ξ aaB (Ξ ajC p4)))) Tryz.func115 Tryz.call115 (λa0 σ=>by kernel_rfl) rfl rfl
theorem ajv:Sound Tryz.prog aK 90 Sk:=q1 [5] 30 (.s .n (.s bG (.s .n (.s (.s .n (.b (.l [2,13] [.exit 0,.ret] (.s .n (.s dM (.s (.b (.s .n (.s (.s .n bG) (.s bG .n)))) .n)))))) bf)))) (Ξ ajw p4) Tryz.func90 Tryz.call90 (λa0 σ=>by kernel_rfl) rfl rfl
def aiG (dyn:Nat->an->Heap->aC):Fx:=⟨Tryz.prog,aK,ZG (λ_ _=>ξ) [],dyn,[],[],19,[]⟩
theorem aiF(dyn:Nat->an->Heap->aC)(hd:∀f,Sound Tryz.prog aK f (dyn (aK.getD f 0))):Sound Tryz.prog aK 93 (Ω η [(.s 3)] .k (YS (NQ dyn))):=
 Z9 (Vu (X:=aiG dyn) (fn:=Tryz.f93) (cH:=(.s .n (.s (.s .n (.b (.l [4,8] [.exit 0,.ret] (.s .n (.s dM (.s (.b (.s .n bG)) .n)))))) bf))) .F trivial (UJ rfl p4 (hd)) Tryz.func93 Tryz.call93 (λa0 a1 σ=>by kernel_rfl)) _ _ _ rfl rfl
theorem aiE(dyn:Nat->an->Heap->aC)(hd:∀f,Sound Tryz.prog aK f (dyn (aK.getD f 0))):Sound Tryz.prog aK 93 (NP dyn):=aiF dyn hd
theorem aah:Sound Tryz.prog aK 94 J4:=q2 [2] 8 (.s .n bf) p4 Tryz.func94 Tryz.call94 (λa0 a1 σ=>by kernel_rfl) rfl rfl
def aj4:Fx:=⟨Tryz.prog,aK,ZG (λ_ _=>ξ) [(93,NP (ZG (λ_ _=>ξ) [(64,J4)]))],(ZG (λ_ _=>ξ) [(64,J4)]),[4],[],17,[]⟩
theorem aj1:Sound Tryz.prog aK 69 (Ω η [(.s 3)] (.t [(.a FQ),.k]) (YS (Of))):=
 Z9 (Vu (X:=aj4) (fn:=Tryz.f69) (cH:=(.s .n (.s .n (.s bG bf)))) .F trivial (UJ rfl (Ξ (aiE _ (nw (V9 (lE aah (by kernel_rfl) rfl) Su))) p4) (nw (V9 (lE aah (by kernel_rfl) rfl) Su))) Tryz.func69 Tryz.call69 (λa0 a1 σ=>by kernel_rfl)) _ _ _ rfl rfl
theorem aaC:Sound Tryz.prog aK 69 Oc:=aj1
theorem ajE:Sound Tryz.prog aK 91 Hr:=q3 [] 32 (.s .n (.s bG (.s (.s .n (.b (.l [6,7] [.exit 0,.ret] (.s (.s .n dM) (.s (.b bG) .n))))) bf))) p4 Tryz.func91 Tryz.call91 (λa0 a1 a2 σ=>by kernel_rfl) rfl rfl
def akW:Fx:=⟨Tryz.prog,aK,ZG (λ_ _=>ξ) [],(λ_ _ _=>ξ),[4],[15],33,[]⟩
theorem akU:Sound Tryz.prog aK 92 (Ω ι [] .k (A.lJ (Km))):=
 Z9 (aC0 (X:=akW) (fn:=Tryz.f92) (cH:=(.s .n (.s (.s .n (.c [4] .n .n)) (.s .n (.b (.l [4,6] [.exit 0] (.s (.s .n dM) (.s (.b .n) .n)))))))) .K trivial (UJ rfl p4 (λ_=>X2)) Tryz.func92 Tryz.call92 (λa0 a1 a2 σ=>by kernel_rfl)) _ _ _ rfl rfl
theorem akP:Sound Tryz.prog aK 92 Oo:=akU
theorem aav:Sound Tryz.prog aK 68 N9:=q1 [1,6,7] 91 (.s .n (.s (.s .n bG) (.s bG (.s .n (.s (.s .n (.b (.l [1,2,23] [.exit 0,.ret] (.s .n (.s dM (.s (.b (.s .n (.s bG (.s bG (.s .n (.s bG (.s bG (.s bG .n)))))))) .n)))))) bf))))) (Ξ ajv (Ξ qL (Ξ aaC (Ξ ajE (Ξ akP p4))))) Tryz.func68 Tryz.call68 (λa0 σ=>by kernel_rfl) rfl rfl
theorem wK:Sound Tryz.prog aK 22 mG:=q2 [] 7 (.s .n (.s bG bf)) p4 Tryz.func22 Tryz.call22 (λa0 a1 σ=>by kernel_rfl) rfl rfl
theorem AM:Sound Tryz.prog aK 20 qM:=q1 [] 15 (.s .n (.s (.s .n (.b (.l [2,7] [.exit 0,.ret] (.s .n (.s dM (.s (.b (.s .n bG)) .n)))))) bf)) p4 Tryz.func20 Tryz.call20 (λa0 σ=>by kernel_rfl) rfl rfl
theorem aBD:Sound Tryz.prog aK 40 HL:=q1 [1,7,8,11] 50 (.s .n (.s (.s .n bG) (.s .n (.s (.s .n (.b (.l [1,5,20] [.exit 0] (.s .n (.s dM (.s (.b (.s .n (.s .n (.s .n (.b (.l [1,5,7,35] [.exit 2] (.s .n (.s dM (.s (.b bf) .n))))))))) .n)))))) bf)))) (Ξ aav (Ξ aaC p4)) Tryz.func40 Tryz.call40 (λa0 σ=>by kernel_rfl) rfl rfl
theorem amF:Sound Tryz.prog aK 84 TW:=q1 [1,7] 24 (.s .n (.s .n (.s .n (.s (.s .n (.b (.l [16] [.exit 0] (.s .n (.s dM (.s (.b bf) .n)))))) bf)))) (Ξ aBD p4) Tryz.func84 Tryz.call84 (λa0 σ=>by kernel_rfl) rfl rfl
theorem abv:Sound Tryz.prog aK 111 OH:=q1 [] 40 (.s .n (.s (.s .n (.b (.l [2,6] [.exit 0,.ret] (.s .n (.s dM (.s (.b (.s .n bG)) .n)))))) bf)) p4 Tryz.func111 Tryz.call111 (λa0 σ=>by kernel_rfl) rfl rfl
theorem alQ:Sound Tryz.prog aK 85 TC:=q1 [] 9 (.s .n bf) (Ξ abv p4) Tryz.func85 Tryz.call85 (λa0 σ=>by kernel_rfl) rfl rfl
theorem aa1:Sound Tryz.prog aK 86 Ot:=q1 [] 5 (.s .n bf) (Ξ qL p4) Tryz.func86 Tryz.call86 (λa0 σ=>by kernel_rfl) rfl rfl
theorem ale:Sound Tryz.prog aK 87 auz:=q2 [2,3] 21 (.s .n (.s bG bf)) (Ξ SP p4) Tryz.func87 Tryz.call87 (λa0 a1 σ=>by kernel_rfl) rfl rfl
theorem aaq:Sound Tryz.prog aK 59 N6:=q2 [2,8,10] 97 (.s .n (.s (.s .n bG) (.s .n (.s (.s .n (.b (.l [4,26] [.exit 0,.ret] (.s .n (.s dM (.s (.b (.s .n (.s (.b (.s .n (.j bf (.s .n (.j bf (.s .n (.j bf bG))))))) (.s .n (.b (.l [4,8,63] [.exit 3,.ret] (.s .n (.s dM (.s (.b (.s .n (.b (.s .n (.j bf (.s .n (.j bf bG))))))) .n))))))))) .n)))))) bf)))) (Ξ aav (Ξ wK (Ξ AM (Ξ amF (Ξ qL (Ξ alQ (Ξ aa1 (Ξ ale p4)))))))) Tryz.func59 Tryz.call59 (λa0 a1 σ=>by kernel_rfl) rfl rfl
theorem abq:Sound Tryz.prog aK 112 Ds:=q1 [] 5 (.s .n bf) (Ξ qL p4) Tryz.func112 Tryz.call112 (λa0 σ=>by kernel_rfl) rfl rfl
theorem aaw:Sound Tryz.prog aK 113 Oa:=q1 [1,5] 90 (.s .n (.s bG (.s .n (.s bG (.s bG (.s bG (.s (.s .n (.b (.l [2,28] [.exit 0,.ret] (.s .n (.s dM (.s (.b (.s .n bG)) .n)))))) (.s bG (.s (.s .n (.b (.l [2,6] [.exit 2,.ret] (.s (.s .n dM) (.s (.b bG) .n))))) bf))))))))) (Ξ qL (Ξ wK p4)) Tryz.func113 Tryz.call113 (λa0 σ=>by kernel_rfl) rfl rfl
theorem aba:Sound Tryz.prog aK 120 Oz:=q2 [2,3] 20 (.s .n (.s (.s .n (.j (.s bG bf) .n)) bf)) (Ξ SP p4) Tryz.func120 Tryz.call120 (λa0 a1 σ=>by kernel_rfl) rfl rfl
theorem aka:Sound Tryz.prog aK 114 aAv:=q1 [4] 99 (.s .n (.s (.s .n (.b (.l [2,7] [.exit 0,.ret] (.s .n (.s dM (.s (.b (.s .n (.b (.s .n (.j bf (.s .n (.j bf (.s .n (.j bf (.s .n (.j bf (.s .n (.j bf (.s .n (.j bf bG))))))))))))))) .n)))))) bf)) (Ξ qL (Ξ aBb (Ξ abq (Ξ aba p4)))) Tryz.func114 Tryz.call114 (λa0 σ=>by kernel_rfl) rfl rfl
theorem acF:Sound Tryz.prog aK 88 KI:=q1 [5] 101 (.s .n (.s bG (.s .n (.s (.s .n (.b (.l [2,3,13] [.exit 0,.ret] (.s .n (.s dM (.s (.b (.s .n (.s (.b (.s .n (.j bf (.s .n (.j bf (.s .n (.j bf bG))))))) (.s (.s .n bG) (.s bG (.s (.s .n bG) .n)))))) .n)))))) bf)))) (Ξ qL (Ξ abv (Ξ abq (Ξ aaw (Ξ aka (Ξ wK p4)))))) Tryz.func88 Tryz.call88 (λa0 σ=>by kernel_rfl) rfl rfl
theorem abr:Sound Tryz.prog aK 89 Ku:=q3 [4,5,9,11] 55 (.s .n (.s bG (.s bG (.s bG (.s (.s .n (.b (.l [4,5,6,7,31] [.exit 0,.ret] (.s .n (.s dM (.s (.b (.s .n (.s (.s .n dM) (.s (.s .n (.b (.l [4,6,7,43] [.exit 2,.ret] (.s .n (.s dM (.s (.b (.s .n bG)) .n)))))) .n)))) .n)))))) bf))))) (Ξ aa1 p4) Tryz.func89 Tryz.call89 (λa0 a1 a2 σ=>by kernel_rfl) rfl rfl
theorem akp:Sound Tryz.prog aK 60 aAK:=q3 [3,12,14,16] 76 (.s .n (.s (.s .n bG) (.s .n (.s .n (.s (.s .n (.b (.l [37] [.exit 0] (.s .n (.s dM (.s (.b bf) .n)))))) (.s (.s .n (.b (.l [6,46] [.exit 2,.ret] (.s .n (.s dM (.s (.b (.s .n (.s .n (.b (.l [6,53] [.exit 4,.ret] (.s .n (.s dM (.s (.b (.s .n (.s bG (.s .n bG)))) .n)))))))) .n)))))) bf)))))) (Ξ aaq (Ξ acF (Ξ AM (Ξ aBD (Ξ abr p4))))) Tryz.func60 Tryz.call60 (λa0 a1 a2 σ=>by kernel_rfl) rfl rfl
def aiW (dyn:Nat->an->Heap->aC):Fx:=⟨Tryz.prog,aK,ZG (λ_ _=>ξ) [],dyn,[],[],19,[]⟩
theorem aiT(dyn:Nat->an->Heap->aC)(hd:∀f,Sound Tryz.prog aK f (dyn (aK.getD f 0))):Sound Tryz.prog aK 70 (Ω η [(.s 2)] .k (YS (NX dyn))):=
 Z9 (Vu (X:=aiW dyn) (fn:=Tryz.f70) (cH:=(.s .n (.s (.s .n (.b (.l [4,8] [.exit 0,.ret] (.s .n (.s dM (.s (.b (.s .n bG)) .n)))))) bf))) .F trivial (UJ rfl p4 (hd)) Tryz.func70 Tryz.call70 (λa0 a1 σ=>by kernel_rfl)) _ _ _ rfl rfl
theorem aiQ(dyn:Nat->an->Heap->aC)(hd:∀f,Sound Tryz.prog aK f (dyn (aK.getD f 0))):Sound Tryz.prog aK 70 (NW dyn):=aiT dyn hd
theorem aaR:Sound Tryz.prog aK 71 Kh:=q2 [2] 8 (.s .n bf) p4 Tryz.func71 Tryz.call71 (λa0 a1 σ=>by kernel_rfl) rfl rfl
def amR:Fx:=⟨Tryz.prog,aK,ZG (λ_ _=>ξ) [(70,NW (ZG (λ_ _=>ξ) [(127,Kh)]))],(ZG (λ_ _=>ξ) [(127,Kh)]),[2,4],[],19,[]⟩
theorem amN:Sound Tryz.prog aK 41 (Ω η [sE] (.t [(.a [.k,(.e 11 qv)]),.k]) (YS (OT))):=
 Z9 (Vu (X:=amR) (fn:=Tryz.f41) (cH:=(.s .n (.s .n (.s bG bf)))) .F trivial (UJ rfl (Ξ (aiQ _ (nw (V9 (lE aaR (by kernel_rfl) rfl) Su))) p4) (nw (V9 (lE aaR (by kernel_rfl) rfl) Su))) Tryz.func41 Tryz.call41 (λa0 a1 σ=>by kernel_rfl)) _ _ _ rfl rfl
theorem abW:Sound Tryz.prog aK 41 Ky:=amN
theorem aaD:Sound Tryz.prog aK 38 Hz:=q1 [1,5,8,9] 107 (.s .n (.s (.s .n bG) (.s (.s .n (.b (.l [1,2,29] [.exit 0,.ret] (.s .n (.s dM (.s (.b (.s .n (.s bG (.s bG (.s .n bG))))) .n)))))) (.s bG (.s (.s .n (.b (.l [1,2,70] [.exit 2,.ret] (.s .n (.s dM (.s (.b (.s .n (.s bG (.s bG (.s (.s .n bG) bG))))) .n)))))) bf))))) (Ξ aaq (Ξ wK (Ξ AM (Ξ qL (Ξ akp (Ξ abW p4)))))) Tryz.func38 Tryz.call38 (λa0 σ=>by kernel_rfl) rfl rfl
theorem abc:Sound Tryz.prog aK 33 OC:=q1 [] 13 (.s .n (.s (.s .n (.b (.s (.s .n (.c [6] .n (.s .n (.c [6] .n .n)))) (.j bf bG)))) bf)) p4 Tryz.func33 Tryz.call33 (λa0 σ=>by kernel_rfl) rfl rfl
theorem abt:Sound Tryz.prog aK 21 Kv:=q1 [] 15 (.s .n (.s .n bf)) (Ξ abc (Ξ wK p4)) Tryz.func21 Tryz.call21 (λa0 σ=>by kernel_rfl) rfl rfl
theorem Ud:Sound Tryz.prog aK 23 H6:=q1 [] 7 (.s .n (.s bG bf)) p4 Tryz.func23 Tryz.call23 (λa0 σ=>by kernel_rfl) rfl rfl
theorem aay:Sound Tryz.prog aK 42 Hw:=q1 [1] 53 (.s .n (.s bG (.s .n (.s .n (.s bG bf))))) (Ξ qL p4) Tryz.func42 Tryz.call42 (λa0 σ=>by kernel_rfl) rfl rfl
def aiB (dyn:Nat->an->Heap->aC):Fx:=⟨Tryz.prog,aK,ZG (λ_ _=>ξ) [],dyn,[],[],19,[]⟩
theorem aiz(dyn:Nat->an->Heap->aC)(hd:∀f,Sound Tryz.prog aK f (dyn (aK.getD f 0))):Sound Tryz.prog aK 95 (Ω η [(.s 3)] .k (YS (NO dyn))):=
 Z9 (Vu (X:=aiB dyn) (fn:=Tryz.f95) (cH:=(.s .n (.s (.s .n (.b (.l [4,8] [.exit 0,.ret] (.s .n (.s dM (.s (.b (.s .n bG)) .n)))))) bf))) .F trivial (UJ rfl p4 (hd)) Tryz.func95 Tryz.call95 (λa0 a1 σ=>by kernel_rfl)) _ _ _ rfl rfl
theorem aix(dyn:Nat->an->Heap->aC)(hd:∀f,Sound Tryz.prog aK f (dyn (aK.getD f 0))):Sound Tryz.prog aK 95 (NM dyn):=aiz dyn hd
def ais (dyn:Nat->an->Heap->aC):Fx:=⟨Tryz.prog,aK,ZG (λ_ _=>ξ) [(95,NM dyn)],dyn,[],[],9,[]⟩
theorem air(dyn:Nat->an->Heap->aC)(hd:∀f,Sound Tryz.prog aK f (dyn (aK.getD f 0))):Sound Tryz.prog aK 72 (Ω η [(.s 3)] .k (YS (NL dyn))):=
 Z9 (Vu (X:=ais dyn) (fn:=Tryz.f72) (cH:=(.s .n bf)) .F trivial (UJ rfl (Ξ (aix dyn hd) p4) (hd)) Tryz.func72 Tryz.call72 (λa0 a1 σ=>by kernel_rfl)) _ _ _ rfl rfl
theorem aiq(dyn:Nat->an->Heap->aC)(hd:∀f,Sound Tryz.prog aK f (dyn (aK.getD f 0))):Sound Tryz.prog aK 72 (NK dyn):=air dyn hd
theorem aae:Sound Tryz.prog aK 73 JZ:=q2 [2] 9 (.s .n bf) p4 Tryz.func73 Tryz.call73 (λa0 a1 σ=>by kernel_rfl) rfl rfl
end
section
def ajU:Fx:=⟨Tryz.prog,aK,ZG (λ_ _=>ξ) [(72,NK (ZG (λ_ _=>ξ) [(152,JZ)])),(15,jS),(22,mG)],(ZG (λ_ _=>ξ) [(152,JZ)]),[2],[],36,[]⟩
theorem ajT:Sound Tryz.prog aK 44 (Ω η [sE] .k (YS (Ob))):=
 Z9 (Vu (X:=ajU) (fn:=Tryz.f44) (cH:=(.s .n (.s .n (.s bG (.s .n (.s (.s .n (.b (.s .n (.c [6] .n (.s .n (.c [6] .n .n)))))) bf)))))) .F trivial (UJ rfl (Ξ (aiq _ (nw (V9 (lE aae (by kernel_rfl) rfl) Su))) (Ξ qL (Ξ wK p4))) (nw (V9 (lE aae (by kernel_rfl) rfl) Su))) Tryz.func44 Tryz.call44 (λa0 a1 σ=>by kernel_rfl)) _ _ _ rfl rfl
theorem aaz:Sound Tryz.prog aK 44 Hx:=ajT
theorem akT:Sound Tryz.prog aK 57 Ou:=q2 [2,6,8] 38 (.s .n (.s (.s .n (.b (.l [2,4,12] [.exit 0,.ret] (.s .n (.s dM (.s (.b (.s .n (.s .n (.b (.l [2,4,6,19] [.exit 2,.ret] (.s .n (.s dM (.s (.b (.s .n bG)) .n)))))))) .n)))))) bf)) p4 Tryz.func57 Tryz.call57 (λa0 a1 σ=>by kernel_rfl) rfl rfl
def ai5 (dyn:Nat->an->Heap->aC):Fx:=⟨Tryz.prog,aK,ZG (λ_ _=>ξ) [],dyn,[],[],19,[]⟩
theorem ai2(dyn:Nat->an->Heap->aC)(hd:∀f,Sound Tryz.prog aK f (dyn (aK.getD f 0))):Sound Tryz.prog aK 77 (Ω η [(.s 11)] .k (YS (N1 dyn))):=
 Z9 (Vu (X:=ai5 dyn) (fn:=Tryz.f77) (cH:=(.s .n (.s (.s .n (.b (.l [4,8] [.exit 0,.ret] (.s .n (.s dM (.s (.b (.s .n bG)) .n)))))) bf))) .F trivial (UJ rfl p4 (hd)) Tryz.func77 Tryz.call77 (λa0 a1 σ=>by kernel_rfl)) _ _ _ rfl rfl
theorem adO(dyn:Nat->an->Heap->aC)(hd:∀f,Sound Tryz.prog aK f (dyn (aK.getD f 0))):Sound Tryz.prog aK 77 (EU dyn):=ai2 dyn hd
def aiK (dyn:Nat->an->Heap->aC):Fx:=⟨Tryz.prog,aK,ZG (λ_ _=>ξ) [(77,EU dyn)],dyn,[],[],9,[]⟩
theorem aiI(dyn:Nat->an->Heap->aC)(hd:∀f,Sound Tryz.prog aK f (dyn (aK.getD f 0))):Sound Tryz.prog aK 56 (Ω η [(.s 11)] .k (YS (NS dyn))):=
 Z9 (Vu (X:=aiK dyn) (fn:=Tryz.f56) (cH:=(.s .n bf)) .F trivial (UJ rfl (Ξ (adO dyn hd) p4) (hd)) Tryz.func56 Tryz.call56 (λa0 a1 σ=>by kernel_rfl)) _ _ _ rfl rfl
theorem aiH(dyn:Nat->an->Heap->aC)(hd:∀f,Sound Tryz.prog aK f (dyn (aK.getD f 0))):Sound Tryz.prog aK 56 (NR dyn):=aiI dyn hd
theorem aac:Sound Tryz.prog aK 58 JY:=q2 [2] 9 (.s .n bf) p4 Tryz.func58 Tryz.call58 (λa0 a1 σ=>by kernel_rfl) rfl rfl
def ajO:Fx:=⟨Tryz.prog,aK,ZG (λ_ _=>ξ) [(38,Hz),(21,Kv),(22,mG),(20,qM),(23,H6),(15,jS),(42,Hw),(44,Hx),(57,Ou),(56,NR (ZG (λ_ _=>ξ) [(157,JY)]))],(ZG (λ_ _=>ξ) [(157,JY)]),[3,9],[10],86,[]⟩
theorem ajM:Sound Tryz.prog aK 36 (Ω η [sE,.k,(.s 6)] .k (A.lJ (N7))):=
 Z9 (aC0 (X:=ajO) (fn:=Tryz.f36) (cH:=(.s .n (.s (.s .n bG) (.s (.s .n (.b (.l [3,6,27] [.exit 0,.ret] (.s .n (.s dM (.s (.b (.s .n (.s .n (.s .n (.s .n (.s bG bG)))))) .n)))))) bf)))) .F trivial (UJ rfl (Ξ aaD (Ξ abt (Ξ wK (Ξ AM (Ξ Ud (Ξ qL (Ξ aay (Ξ aaz (Ξ akT (Ξ (aiH _ (nw (V9 (lE aac (by kernel_rfl) rfl) Su))) p4)))))))))) (nw (V9 (lE aac (by kernel_rfl) rfl) Su))) Tryz.func36 Tryz.call36 (λa0 a1 a2 σ=>by kernel_rfl)) _ _ _ rfl rfl
theorem ajK:Sound Tryz.prog aK 36 Sy:=ajM
theorem abY:Sound Tryz.prog aK 13 KA:=q5 [5,15] 62 (.s .n (.s (.s .n bG) (.s .n (.s (.s .n (.b (.l [13,42] [.exit 0] (.s .n (.s dM (.s (.b (.s .n (.s .n (.c [13] .n .n)))) .n)))))) bf)))) (Ξ ajK (Ξ Ud (Ξ wK (Ξ AM p4)))) Tryz.func13 Tryz.call13 (λa0 a1 a2 a3 a4 σ=>by kernel_rfl) rfl rfl
def aiO (dyn:Nat->an->Heap->aC):Fx:=⟨Tryz.prog,aK,ZG (λ_ _=>ξ) [],dyn,[],[],19,[]⟩
theorem aiN(dyn:Nat->an->Heap->aC)(hd:∀f,Sound Tryz.prog aK f (dyn (aK.getD f 0))):Sound Tryz.prog aK 37 (Ω η [(.s 6)] .k (YS (NV dyn))):=
 Z9 (Vu (X:=aiO dyn) (fn:=Tryz.f37) (cH:=(.s .n (.s (.s .n (.b (.l [4,8] [.exit 0,.ret] (.s .n (.s dM (.s (.b (.s .n bG)) .n)))))) bf))) .F trivial (UJ rfl p4 (hd)) Tryz.func37 Tryz.call37 (λa0 a1 σ=>by kernel_rfl)) _ _ _ rfl rfl
theorem aiM(dyn:Nat->an->Heap->aC)(hd:∀f,Sound Tryz.prog aK f (dyn (aK.getD f 0))):Sound Tryz.prog aK 37 (NU dyn):=aiN dyn hd
def aiA (dyn:Nat->an->Heap->aC):Fx:=⟨Tryz.prog,aK,ZG (λ_ _=>ξ) [(37,NU dyn)],dyn,[],[],9,[]⟩
theorem aiy(dyn:Nat->an->Heap->aC)(hd:∀f,Sound Tryz.prog aK f (dyn (aK.getD f 0))):Sound Tryz.prog aK 16 (Ω η [(.s 6)] .k (YS (NN dyn))):=
 Z9 (Vu (X:=aiA dyn) (fn:=Tryz.f16) (cH:=(.s .n bf)) .F trivial (UJ rfl (Ξ (aiM dyn hd) p4) (hd)) Tryz.func16 Tryz.call16 (λa0 a1 σ=>by kernel_rfl)) _ _ _ rfl rfl
theorem aiw(dyn:Nat->an->Heap->aC)(hd:∀f,Sound Tryz.prog aK f (dyn (aK.getD f 0))):Sound Tryz.prog aK 16 (JT dyn):=aiy dyn hd
def aiV:Fx:=⟨Tryz.prog,aK,ZG (λ_ _=>ξ) [],(λ_ _ _=>ξ),[],[],8,[]⟩
theorem aiS:Sound Tryz.prog aK 61 (Ω η [(.s 3)] .k (ZY (ar5))):=
 Z9 (YB (X:=aiV) (fn:=Tryz.f61) (cH:=(.s .n (.s bG bf))) .K trivial (UJ rfl p4 (λ_=>X2)) Tryz.func61 Tryz.call61 (λa0 σ=>by kernel_rfl)) _ _ _ rfl rfl
theorem aiP:Sound Tryz.prog aK 61 R6:=BL aiS Tryz.call61 al0
def ajt:Fx:=⟨Tryz.prog,aK,ZG (λ_ _=>ξ) [],(λ_ _ _=>ξ),[],[],8,[]⟩
theorem ajr:Sound Tryz.prog aK 62 (Ω η [(.s 4)] .k (ZY (Sg))):=
 Z9 (YB (X:=ajt) (fn:=Tryz.f62) (cH:=(.s .n (.s bG bf))) .K trivial (UJ rfl p4 (λ_=>X2)) Tryz.func62 Tryz.call62 (λa0 σ=>by kernel_rfl)) _ _ _ rfl rfl
theorem ajo:Sound Tryz.prog aK 62 Se:=BL ajr Tryz.call62 arC
def aji:Fx:=⟨Tryz.prog,aK,ZG (λ_ _=>ξ) [],(λ_ _ _=>ξ),[],[],8,[]⟩
theorem aje:Sound Tryz.prog aK 63 (Ω η [(.s 7)] .k (ZY (aaa))):=
 Z9 (YB (X:=aji) (fn:=Tryz.f63) (cH:=(.s .n (.s bG bf))) .K trivial (UJ rfl p4 (λ_=>X2)) Tryz.func63 Tryz.call63 (λa0 σ=>by kernel_rfl)) _ _ _ rfl rfl
theorem ajb:Sound Tryz.prog aK 63 Sa:=BL aje Tryz.call63 apR
def ajk:Fx:=⟨Tryz.prog,aK,ZG (λ_ _=>ξ) [],(λ_ _ _=>ξ),[],[],8,[]⟩
theorem ajg:Sound Tryz.prog aK 64 (Ω η [(.s 3)] .k (ZY (Sc))):=
 Z9 (YB (X:=ajk) (fn:=Tryz.f64) (cH:=(.s .n (.s bG bf))) .K trivial (UJ rfl p4 (λ_=>X2)) Tryz.func64 Tryz.call64 (λa0 σ=>by kernel_rfl)) _ _ _ rfl rfl
theorem ajc:Sound Tryz.prog aK 64 Sb:=BL ajg Tryz.call64 apT
def ai3:Fx:=⟨Tryz.prog,aK,ZG (λ_ _=>ξ) [],(λ_ _ _=>ξ),[],[],8,[]⟩
theorem ai0:Sound Tryz.prog aK 65 (Ω η [(.s 3)] .k (ZY (R9))):=
 Z9 (YB (X:=ai3) (fn:=Tryz.f65) (cH:=(.s .n (.s bG bf))) .K trivial (UJ rfl p4 (λ_=>X2)) Tryz.func65 Tryz.call65 (λa0 σ=>by kernel_rfl)) _ _ _ rfl rfl
theorem aiY:Sound Tryz.prog aK 65 R8:=BL ai0 Tryz.call65 am7
def ajz:Fx:=⟨Tryz.prog,aK,ZG (λ_ _=>ξ) [],(λ_ _ _=>ξ),[],[],8,[]⟩
theorem ajy:Sound Tryz.prog aK 66 (Ω η [(.s 11)] .k (ZY (aad))):=
 Z9 (YB (X:=ajz) (fn:=Tryz.f66) (cH:=(.s .n (.s bG bf))) .K trivial (UJ rfl p4 (λ_=>X2)) Tryz.func66 Tryz.call66 (λa0 σ=>by kernel_rfl)) _ _ _ rfl rfl
theorem ajx:Sound Tryz.prog aK 66 N3:=BL ajy Tryz.call66 atw
def ajs:Fx:=⟨Tryz.prog,aK,ZG (λ_ _=>ξ) [],(λ_ _ _=>ξ),[],[],8,[]⟩
theorem ajq:Sound Tryz.prog aK 67 (Ω η [(.s 8)] .k (ZY (aAr))):=
 Z9 (YB (X:=ajs) (fn:=Tryz.f67) (cH:=(.s .n (.s bG bf))) .K trivial (UJ rfl p4 (λ_=>X2)) Tryz.func67 Tryz.call67 (λa0 σ=>by kernel_rfl)) _ _ _ rfl rfl
theorem ajn:Sound Tryz.prog aK 67 aze:=BL ajq Tryz.call67 arB
def ajj:Fx:=⟨Tryz.prog,aK,ZG (λ_ _=>ξ) [],(λ_ _ _=>ξ),[],[],8,[]⟩
theorem ajf:Sound Tryz.prog aK 32 (Ω η [(.s 2)] .k (ZY (N2))):=
 Z9 (YB (X:=ajj) (fn:=Tryz.f32) (cH:=(.s .n (.s bG bf))) .K trivial (UJ rfl p4 (λ_=>X2)) Tryz.func32 Tryz.call32 (λa0 σ=>by kernel_rfl)) _ _ _ rfl rfl
theorem aab:Sound Tryz.prog aK 32 EV:=BL ajf Tryz.call32 apS
theorem alf:Sound Tryz.prog aK 39 OB:=q1 [1,2,3,5,8,10] 129 (.s .n (.s .n (.s .n (.s (.s .n (.b (.l [1,2,3,27] [.exit 0] (.s .n (.s dM (.s (.b (.s .n (.s .n (.s (.s .n (.b (.l [1,2,3,5,38] [.exit 2] (.s .n (.s dM (.s (.b bf) .n)))))) .n)))) .n)))))) (.s (.s .n (.b (.l [1,2,3,66] [.exit 4] (.s .n (.s dM (.s (.b (.s .n bf)) .n)))))) (.s (.s .n (.b (.l [2,3,84] [.exit 6] (.s .n (.s dM (.s (.b (.s .n (.s .n (.s (.s .n (.b (.l [2,3,10,95] [.exit 8] (.s .n (.s dM (.s (.b (.s .n bf)) .n)))))) .n)))) .n)))))) bf)))))) (Ξ (aB2 aiP (.s 3) rfl) (Ξ (aB2 ajo (.s 4) rfl) (Ξ ajb (Ξ (aB2 ajc (.s 3) rfl) (Ξ (aB2 aiY (.s 3) rfl) (Ξ ajx (Ξ (aB2 ajn (.s 8) rfl) (Ξ (aB2 aab (.s 2) rfl) p4)))))))) Tryz.func39 Tryz.call39 (λa0 σ=>by kernel_rfl) rfl rfl
def aod:Fx:=⟨Tryz.prog,aK,ZG (λ_ _=>ξ) [(38,Hz),(39,OB),(40,HL),(41,Ky)],(λ_ _ _=>ξ),[1,8,10,12,14,15],[27],119,[]⟩
theorem aob:Sound Tryz.prog aK 18 (Ω η [sE] .k (ZY (O2))):=
 Z9 (YB (X:=aod) (fn:=Tryz.f18) (cH:=(.s .n (.s (.s .n bG) (.s .n (.s .n (.s .n (.s .n (.s .n (.s (.s .n (.b (.l [1,46] [.exit 0] (.s .n (.s dM (.s (.b bf) .n)))))) (.s (.s .n (.b (.l [1,59] [.exit 2] (.s .n (.s dM (.s (.b (.s .n (.s .n (.b (.l [1,10,69] [.exit 4] (.s .n (.s dM (.s (.b bf) .n)))))))) .n)))))) (.s (.s .n (.b (.l [1,88] [.exit 6] (.s .n (.s dM (.s (.b (.s .n bf)) .n)))))) bf))))))))))) .K trivial (UJ rfl (Ξ aaD (Ξ alf (Ξ aBD (Ξ abW p4)))) (λ_=>X2)) Tryz.func18 Tryz.call18 (λa0 σ=>by kernel_rfl)) _ _ _ rfl rfl
theorem acG:Sound Tryz.prog aK 18 Ib:=aob
theorem alR:Sound Tryz.prog aK 55 TD:=q2 [] 16 (.s .n (.s .n (.s (.s .n (.c [5] .n .n)) bf))) p4 Tryz.func55 Tryz.call55 (λa0 a1 σ=>by kernel_rfl) rfl rfl
theorem abu:Sound Tryz.prog aK 34 OG:=q2 [] 12 (.s .n bf) (Ξ alR p4) Tryz.func34 Tryz.call34 (λa0 a1 σ=>by kernel_rfl) rfl rfl
theorem Ow:Sound Tryz.prog aK 11 BK:=q2 [] 20 (.s .n (.s .n bf)) (Ξ abc (Ξ abu p4)) Tryz.func11 Tryz.call11 (λa0 a1 σ=>by kernel_rfl) rfl rfl
theorem abb:Sound Tryz.prog aK 43 Kr:=q1 [] 5 (.s .n bf) (Ξ qL p4) Tryz.func43 Tryz.call43 (λa0 σ=>by kernel_rfl) rfl rfl
theorem Ol:Sound Tryz.prog aK 9 BJ:=q1 [] 22 (.s .n (.s bG bf)) p4 Tryz.func9 Tryz.call9 (λa0 σ=>by kernel_rfl) rfl rfl
def ai8:Fx:=⟨Tryz.prog,aK,ZG (λ_ _=>ξ) [],(λ_ _ _=>ξ),[],[],8,[]⟩
theorem ai7:Sound Tryz.prog aK 74 (Ω ι [] .k (ZY (Ho))):=
 Z9 (YB (X:=ai8) (fn:=Tryz.f74) (cH:=(.s .n (.s bG bf))) .K trivial (UJ rfl p4 (λ_=>X2)) Tryz.func74 Tryz.call74 (λa0 σ=>by kernel_rfl)) _ _ _ rfl rfl
theorem ai6:Sound Tryz.prog aK 74 Hl:=BL ai7 Tryz.call74 apU
theorem aaK:Sound Tryz.prog aK 25 Dl:=q1 [] 31 (.s .n (.s bG bf)) p4 Tryz.func25 Tryz.call25 (λa0 σ=>by kernel_rfl) rfl rfl
theorem Ki:Sound Tryz.prog aK 31 zq:=q2 [2] 16 (.s .n (.s bG bf)) p4 Tryz.func31 Tryz.call31 (λa0 a1 σ=>by kernel_rfl) rfl rfl
def aim (dyn:Nat->an->Heap->aC):Fx:=⟨Tryz.prog,aK,ZG (λ_ _=>ξ) [],dyn,[],[],49,[]⟩
theorem ail(dyn:Nat->an->Heap->aC)(hd:∀f,Sound Tryz.prog aK f (dyn (aK.getD f 0))):Sound Tryz.prog aK 133 (Ω η [(.s 11)] .k (A.lJ (Hj dyn))):=
 Z9 (aC0 (X:=aim dyn) (fn:=Tryz.f133) (cH:=(.s .n (.s .n (.s .n (.s (.b (.l [9,10] [.exit 0] (.s (.s .n dM) (.b (.s .n (.s .n (.c [9,10] .n .n))))))) bf))))) .F trivial (UJ rfl p4 (hd)) Tryz.func133 Tryz.call133 (λa0 a1 a2 σ=>by kernel_rfl)) _ _ _ rfl rfl
theorem aik(dyn:Nat->an->Heap->aC)(hd:∀f,Sound Tryz.prog aK f (dyn (aK.getD f 0))):Sound Tryz.prog aK 133 (Hi dyn):=ail dyn hd
theorem aaQ:Sound Tryz.prog aK 134 EZ:=q2 [2] 9 (.s .n bf) p4 Tryz.func134 Tryz.call134 (λa0 a1 σ=>by kernel_rfl) rfl rfl
def amQ:Fx:=⟨Tryz.prog,aK,ZG (λ_ _=>ξ) [(133,Hi (ZG (λ_ _=>ξ) [(177,EZ)]))],(ZG (λ_ _=>ξ) [(177,EZ)]),[],[],11,[]⟩
theorem amM:Sound Tryz.prog aK 116 (Ω η [(.e 11 qv)] .k (YS (OR))):=
 Z9 (Vu (X:=amQ) (fn:=Tryz.f116) (cH:=(.s .n bf)) .F trivial (UJ rfl (Ξ (aik _ (nw (V9 (lE aaQ (by kernel_rfl) rfl) Su))) p4) (nw (V9 (lE aaQ (by kernel_rfl) rfl) Su))) Tryz.func116 Tryz.call116 (λa0 a1 σ=>by kernel_rfl)) _ _ _ rfl rfl
theorem amC:Sound Tryz.prog aK 116 HZ:=amM
theorem amD:Sound Tryz.prog aK 117 Kx:=q1 [5,7] 40 (.s .n (.s .n (.s (.s .n (.b (.l [11] [.exit 0] (.s .n (.s dM (.s (.b (.s .n (.s .n (.b (.l [5,18] [.exit 2] (.s .n (.s dM (.s (.b (.s .n (.s .n (.c [5] .n .n)))) .n)))))))) .n)))))) bf))) p4 Tryz.func117 Tryz.call117 (λa0 σ=>by kernel_rfl) rfl rfl
theorem akq:Sound Tryz.prog aK 119 aaM:=q2 [2,3] 10 (.s .n bf) (Ξ aba p4) Tryz.func119 Tryz.call119 (λa0 a1 σ=>by kernel_rfl) rfl rfl
def amP:Fx:=⟨Tryz.prog,aK,ZG (λ_ _=>ξ) [(88,KI),(116,HZ),(117,Kx),(118,JW)],(ZG (λ_ _=>ξ) [(297,aaM)]),[11],[],42,[]⟩
theorem amL:Sound Tryz.prog aK 96 (Ω η [(.e 11 qv)] (.t [(.s 5),.k]) (YS (OQ))):=
 Z9 (Vu (X:=amP) (fn:=Tryz.f96) (cH:=(.s .n (.s (.s .n bG) (.s .n (.s bG (.s .n (.s (.s .n (.b (.lc [9] [.exit 0] (.s .n (.s dM (.b bf)))))) (.s .n bf)))))))) (.N (Wo (.t [(.s 5),.k]))) (λ_ _ _ h=>FJ _ _ _ rfl h) (UJ rfl (Ξ acF (Ξ amC (Ξ amD (Ξ aii p4)))) (nw (V9 (lE akq (by kernel_rfl) rfl) Su))) Tryz.func96 Tryz.call96 (λa0 a1 σ=>by kernel_rfl)) _ _ _ rfl rfl
theorem amB:Sound Tryz.prog aK 96 OK:=amL
theorem akR:Sound Tryz.prog aK 54 aAb:=q1 [1] 14 (.s .n bf) p4 Tryz.func54 Tryz.call54 (λa0 σ=>by kernel_rfl) rfl rfl
theorem N8:Sound Tryz.prog aK 30 uq:=q3 [4,6,8] 32 (.s .n (.s .n bf)) (Ξ akR p4) Tryz.func30 Tryz.call30 (λa0 a1 a2 σ=>by kernel_rfl) rfl rfl
theorem akr:Sound Tryz.prog aK 152 aBk:=q1 [] 5 (.s .n bf) (Ξ qL p4) Tryz.func152 Tryz.call152 (λa0 σ=>by kernel_rfl) rfl rfl
theorem aa0:Sound Tryz.prog aK 139 Oq:=q1 [] 15 (.s .n (.s (.s .n (.b (.l [2,7] [.exit 0,.ret] (.s .n (.s dM (.s (.b (.s .n bG)) .n)))))) bf)) (Ξ akr p4) Tryz.func139 Tryz.call139 (λa0 σ=>by kernel_rfl) rfl rfl
theorem aaZ:Sound Tryz.prog aK 137 E7:=q1 [] 5 (.s .n bf) (Ξ qL p4) Tryz.func137 Tryz.call137 (λa0 σ=>by kernel_rfl) rfl rfl
theorem ajX:Sound Tryz.prog aK 136 SJ:=q1 [1] 44 (.s .n (.s (.s .n bG) (.s bG bf))) (Ξ aa0 (Ξ aaZ (Ξ aaw p4))) Tryz.func136 Tryz.call136 (λa0 σ=>by kernel_rfl) rfl rfl
theorem anX:Sound Tryz.prog aK 156 qN:=q1 [2] 6 (.s .n bf) p4 Tryz.func156 Tryz.call156 (λa0 σ=>by kernel_rfl) rfl rfl
end
section
theorem aax:Sound Tryz.prog aK 157 sZ:=q2 [2,4] 24 (.s .n (.s .n bf)) (Ξ alP p4) Tryz.func157 Tryz.call157 (λa0 a1 σ=>by kernel_rfl) rfl rfl
theorem amE:Sound Tryz.prog aK 150 OL:=q3 [3,6,7,8,11,12] 131 (.s .n (.s .n (.s (.s .n (.b (.s .n (.j bf (.s .n (.j bf (.s .n (.j bf (.s .n (.j (.s bG bf) (.s .n (.j (.s .n (.s .n (.s (.b (.l [6,7,10] [.exit 1] (.s (.s .n dM) (.b .n)))) (.s .n (.s .n (.s .n bf)))))) .n)))))))))))) bf))) (Ξ anX (Ξ aax p4)) Tryz.func150 Tryz.call150 (λa0 a1 a2 σ=>by kernel_rfl) rfl rfl
theorem ajZ:Sound Tryz.prog aK 158 Od:=q2 [2,3,4] 29 (.s .n (.s .n (.s .n bf))) (Ξ alO p4) Tryz.func158 Tryz.call158 (λa0 a1 σ=>by kernel_rfl) rfl rfl
theorem ajY:Sound Tryz.prog aK 159 Hy:=q2 [2,3] 24 (.s .n bf) p4 Tryz.func159 Tryz.call159 (λa0 a1 σ=>by kernel_rfl) rfl rfl
theorem akQ:Sound Tryz.prog aK 151 aBd:=q4 [6,7,10,15] 80 (.s .n (.s (.s .n (.j (.s .n (.s .n (.s .n (.s (.b (.l [7,10,11,12] [.exit 0] (.s (.s .n dM) (.b (.s .n (.s .n (.c [7,10,11,12] .n .n))))))) bf)))) .n)) (.s .n (.s .n (.s .n (.s (.b (.l [7,15,16,17] [.exit 2] (.s (.s .n dM) (.b (.s .n (.s .n (.c [7,15,16,17] .n .n))))))) bf)))))) (Ξ aax (Ξ ajZ (Ξ ajY p4))) Tryz.func151 Tryz.call151 (λa0 a1 a2 a3 σ=>by kernel_rfl) rfl rfl
theorem anW:Sound Tryz.prog aK 138 Ur:=q2 [2,6,7] 46 (.s .n (.s .n (.s (.b (.s .n (.j bf bG))) (.s .n bf)))) (Ξ amE (Ξ akQ p4)) Tryz.func138 Tryz.call138 (λa0 a1 σ=>by kernel_rfl) rfl rfl
theorem anV:Sound Tryz.prog aK 121 azh:=q2 [2] 21 (.s .n (.s (.s .n bG) bf)) (Ξ ajX (Ξ aaZ (Ξ wK (Ξ AM (Ξ anW p4))))) Tryz.func121 Tryz.call121 (λa0 a1 σ=>by kernel_rfl) rfl rfl
theorem SV:Sound Tryz.prog aK 97 Dm:=q2 [2] 16 (.s .n (.s .n bf)) (Ξ anV p4) Tryz.func97 Tryz.call97 (λa0 a1 σ=>by kernel_rfl) rfl rfl
theorem ald:Sound Tryz.prog aK 122 OA:=q2 [] 18 (.s .n (.s (.s .n bG) bf)) (Ξ aa0 (Ξ abu p4)) Tryz.func122 Tryz.call122 (λa0 a1 σ=>by kernel_rfl) rfl rfl
theorem ajS:Sound Tryz.prog aK 98 Ka:=q4 [6,10,18] 124 (.s .n (.s .n (.s .n (.s (.s .n (.b (.l [6,10,11,12,13,14,35] [.exit 0] (.s .n (.s dM (.s (.b (.s .n (.s .n (.s .n (.s .n (.s (.s .n dM) (.s .n (.s (.s .n (.c [6,10,18,20] .n .n)) (.s .n (.s .n (.c [6,10,11,12,13,14] .n .n))))))))))) .n)))))) bf)))) (Ξ Ki (Ξ N8 (Ξ SV (Ξ ald p4)))) Tryz.func98 Tryz.call98 (λa0 a1 a2 a3 σ=>by kernel_rfl) rfl rfl
def aiX (dyn:Nat->an->Heap->aC):Fx:=⟨Tryz.prog,aK,ZG (λ_ _=>ξ) [],dyn,[],[],19,[]⟩
theorem aiU(dyn:Nat->an->Heap->aC)(hd:∀f,Sound Tryz.prog aK f (dyn (aK.getD f 0))):Sound Tryz.prog aK 123 (Ω η [(.s 8)] .k (YS (NY dyn))):=
 Z9 (Vu (X:=aiX dyn) (fn:=Tryz.f123) (cH:=(.s .n (.s (.s .n (.b (.l [4,8] [.exit 0,.ret] (.s .n (.s dM (.s (.b (.s .n bG)) .n)))))) bf))) .F trivial (UJ rfl p4 (hd)) Tryz.func123 Tryz.call123 (λa0 a1 σ=>by kernel_rfl)) _ _ _ rfl rfl
theorem aiR(dyn:Nat->an->Heap->aC)(hd:∀f,Sound Tryz.prog aK f (dyn (aK.getD f 0))):Sound Tryz.prog aK 123 (JU dyn):=aiU dyn hd
theorem UD:Sound Tryz.prog aK 100 yh:=q1 [1,2] 25 (.s .n (.s .n (.s .n (.s .n bf)))) p4 Tryz.func100 Tryz.call100 (λa0 σ=>by kernel_rfl) rfl rfl
theorem aam:Sound Tryz.prog aK 124 Hu:=q2 [2] 8 (.s .n bf) p4 Tryz.func124 Tryz.call124 (λa0 a1 σ=>by kernel_rfl) rfl rfl
def akf:Fx:=⟨Tryz.prog,aK,ZG (λ_ _=>ξ) [(123,JU (ZG (λ_ _=>ξ) [(349,Hu)])),(100,yh)],(ZG (λ_ _=>ξ) [(349,Hu)]),[7,12,13,14],[],77,[]⟩
theorem akd:Sound Tryz.prog aK 99 (Ω ι [] FR (A.Br (SS))):=
 Z9 (Sound.aAI (X:=akf) (fn:=Tryz.f99) (cH:=(.s .n (.s .n (.s .n (.s (.s .n (.c [7,12,13,14] (.s .n (.s .n (.c [7,12,13,14] .n .n))) .n)) (.s .n (.s (.s .n (.c [12,13,14] .n .n)) (.s (.s .n (.c [12,13] .n .n)) bf)))))))) .F trivial (UJ rfl (Ξ (aiR _ (nw (V9 (lE aam (by kernel_rfl) rfl) Su))) (Ξ UD p4)) (nw (V9 (lE aam (by kernel_rfl) rfl) Su))) Tryz.func99 Tryz.call99 (λa0 a1 a2 a3 a4 a5 σ=>by kernel_rfl)) _ _ _ rfl rfl
theorem akb:Sound Tryz.prog aK 99 HH:=akd
def akg:Fx:=⟨Tryz.prog,aK,ZG (λ_ _=>ξ) [(31,zq),(96,OK),(89,Ku),(30,uq),(97,Dm),(98,Ka),(99,HH),(100,yh)],(λ_ _ _=>ξ),[11,18,21,24,25,27],[],239,[]⟩
theorem ake:Sound Tryz.prog aK 75 (Ω ι [] .k (A.wj (azC))):=
 Z9 (Sound.X7 (X:=akg) (fn:=Tryz.f75) (cH:=(.s .n (.s .n (.s .n (.s .n (.s .n (.s .n (.s (.s .n (.b (.l [11,61] [.exit 0] (.s .n (.s dM (.s (.b (.s .n (.s .n (.s .n (.s .n (.s bG (.s .n (.s (.s .n (.c [11,18,23] .n (.s .n (.c [11,18,23] .n .n)))) .n)))))))) .n)))))) (.s (.s .n (.b (.lc [11] [.exit 2] (.s .n (.s dM (.b (.s .n (.s .n (.s (.s .n dM) (.s (.s .n (.c [11,24,25] bf .n)) .n)))))))))) (.s .n (.s .n (.c [] .n .n)))))))))))) .G trivial (UJ rfl (Ξ Ki (Ξ amB (Ξ abr (Ξ N8 (Ξ SV (Ξ ajS (Ξ akb (Ξ UD p4)))))))) (λ_=>X2)) Tryz.func75 Tryz.call75 (λa0 a1 a2 a3 a4 σ=>by kernel_rfl)) _ _ _ rfl rfl
theorem aaJ:Sound Tryz.prog aK 75 wG:=ake
def aj5:Fx:=⟨Tryz.prog,aK,ZG (λ_ _=>ξ) [(74,Hl),(25,Dl),(75,wG)],(λ_ _ _=>ξ),[4],[5],66,[]⟩
theorem aj2:Sound Tryz.prog aK 45 (Ω ι [] .k (YS (Og))):=
 Z9 (Vu (X:=aj5) (fn:=Tryz.f45) (cH:=(.s .n (.s .n (.s .n (.b (.l [4] [.ret] (.b (.s .n (.s (.s .n (.b (.l [4,6,7,21] [.exit 2] (.s .n (.s dM (.s (.b (.s .n (.s .n (.s .n (.c [4,6,7] .n .n))))) .n)))))) (.s bG bf)))))))))) .K trivial (UJ rfl (Ξ ai6 (Ξ aaK (Ξ aaJ p4))) (λ_=>X2)) Tryz.func45 Tryz.call45 (λa0 a1 σ=>by kernel_rfl)) _ _ _ rfl rfl
theorem aaE:Sound Tryz.prog aK 45 HA:=aj2
def aiL (dyn:Nat->an->Heap->aC):Fx:=⟨Tryz.prog,aK,ZG (λ_ _=>ξ) [],dyn,[],[],19,[]⟩
theorem aiJ(dyn:Nat->an->Heap->aC)(hd:∀f,Sound Tryz.prog aK f (dyn (aK.getD f 0))):Sound Tryz.prog aK 47 (Ω η [(.s 10)] .k (YS (NT dyn))):=
 Z9 (Vu (X:=aiL dyn) (fn:=Tryz.f47) (cH:=(.s .n (.s (.s .n (.b (.l [4,8] [.exit 0,.ret] (.s .n (.s dM (.s (.b (.s .n bG)) .n)))))) bf))) .F trivial (UJ rfl p4 (hd)) Tryz.func47 Tryz.call47 (λa0 a1 σ=>by kernel_rfl)) _ _ _ rfl rfl
theorem ahW(dyn:Nat->an->Heap->aC)(hd:∀f,Sound Tryz.prog aK f (dyn (aK.getD f 0))):Sound Tryz.prog aK 47 (Di dyn):=aiJ dyn hd
def ajN:Fx:=⟨Tryz.prog,aK,ZG (λ_ _=>ξ) [(31,zq),(30,uq),(97,Dm),(100,yh)],(λ_ _ _=>ξ),[7,10,11],[],82,[]⟩
theorem ajL:Sound Tryz.prog aK 79 (Ω ι [] .k (A.An (SB))):=
 Z9 (Sound.aih (X:=ajN) (fn:=Tryz.f79) (cH:=(.s .n (.s .n (.s .n (.s (.s .n (.b (.lc [7] [.exit 0] (.s .n (.s dM (.b (.s .n (.s .n (.s (.s .n dM) .n))))))))) .n))))) .G trivial (UJ rfl (Ξ Ki (Ξ N8 (Ξ SV (Ξ UD p4)))) (λ_=>X2)) Tryz.func79 Tryz.call79 (λa0 a1 a2 a3 σ=>by kernel_rfl)) _ _ _ rfl rfl
theorem ajJ:Sound Tryz.prog aK 79 J9:=ajL
theorem azd:Sound Tryz.prog aK 76 Dj:=q2 [2] 9 (.s .n bf) p4 Tryz.func76 Tryz.call76 (λa0 a1 σ=>by kernel_rfl) rfl rfl
theorem aBn:Sound Tryz.prog aK 78 Dk:=q2 [2] 9 (.s .n bf) p4 Tryz.func78 Tryz.call78 (λa0 a1 σ=>by kernel_rfl) rfl rfl
def akv:Fx:=⟨Tryz.prog,aK,ZG (λ_ _=>ξ) [(47,Di (ZG (λ_ _=>ξ) [(352,Dj),(354,Dk)])),(75,wG),(77,EU (ZG (λ_ _=>ξ) [(352,Dj),(354,Dk)])),(31,zq),(79,J9)],(ZG (λ_ _=>ξ) [(352,Dj),(354,Dk)]),[],[],176,[]⟩
theorem akt:Sound Tryz.prog aK 46 (Ω ι [] .k (A.lJ (HJ))):=
 Z9 (aC0 (X:=akv) (fn:=Tryz.f46) (cH:=(.s .n (.s (.s .n (.b (.s .n (.j (.s .n (.s .n bf)) (.s .n (.j (.s .n (.s .n bf)) .n)))))) (.s .n (.s .n (.s .n (.s (.s .n (.b (.s .n (.j (.s .n bG) (.s .n (.j (.s .n bG) (.s .n (.j (.s .n bG) (.s .n (.j (.s bG .n) (.s .n (.j (.s bG .n) (.s .n (.j (.s bG (.s .n (.s .n bf))) (.s .n (.c [] .n .n)))))))))))))))) (.s .n (.s (.s .n (.c [] .n .n)) bf))))))))) .K trivial (UJ rfl (Ξ (ahW _ (nw (V9 (lE azd (by kernel_rfl) rfl) (V9 (lE aBn (by kernel_rfl) rfl) Su)))) (Ξ aaJ (Ξ (adO _ (nw (V9 (lE azd (by kernel_rfl) rfl) (V9 (lE aBn (by kernel_rfl) rfl) Su)))) (Ξ Ki (Ξ ajJ p4))))) (nw (V9 (lE azd (by kernel_rfl) rfl) (V9 (lE aBn (by kernel_rfl) rfl) Su)))) Tryz.func46 Tryz.call46 (λa0 a1 a2 σ=>by kernel_rfl)) _ _ _ rfl rfl
theorem aks:Sound Tryz.prog aK 46 Kg:=akt
def akX:Fx:=⟨Tryz.prog,aK,ZG (λ_ _=>ξ) [(22,mG),(42,Hw),(43,Kr),(9,BJ),(20,qM),(44,Hx),(45,HA),(46,Kg)],(λ_ _ _=>ξ),[3],[6],66,[]⟩
theorem akV:Sound Tryz.prog aK 19 (Ω ι [] .k (YS (Ov))):=
 Z9 (Vu (X:=akX) (fn:=Tryz.f19) (cH:=(.s .n (.s .n (.s (.s .n bG) (.s .n (.s (.s .n bG) (.s .n (.s .n bf)))))))) .K trivial (UJ rfl (Ξ wK (Ξ aay (Ξ abb (Ξ Ol (Ξ AM (Ξ aaz (Ξ aaE (Ξ aks p4)))))))) (λ_=>X2)) Tryz.func19 Tryz.call19 (λa0 a1 σ=>by kernel_rfl)) _ _ _ rfl rfl
theorem aa2:Sound Tryz.prog aK 19 E8:=akV
theorem Om:Sound Tryz.prog aK 14 wJ:=q1 [] 5 (.s .n bf) (Ξ qL p4) Tryz.func14 Tryz.call14 (λa0 σ=>by kernel_rfl) rfl rfl
def akw (dyn:Nat->an->Heap->aC):Fx:=⟨Tryz.prog,aK,ZG (λ_ _=>ξ) [(11,BK)],dyn,[5],[],18,[]⟩
theorem aku(dyn:Nat->an->Heap->aC)(hd:∀f,Sound Tryz.prog aK f (dyn (aK.getD f 0))):Sound Tryz.prog aK 17 (Ω η [] .k (A.wj (S6 dyn))):=
 Z9 (Sound.X7 (X:=akw dyn) (fn:=Tryz.f17) (cH:=(.s .n bf)) .F trivial (UJ rfl (Ξ Ow p4) (hd)) Tryz.func17 Tryz.call17 (λa0 a1 a2 a3 a4 σ=>by kernel_rfl)) _ _ _ rfl rfl
theorem aaS(dyn:Nat->an->Heap->aC)(hd:∀f,Sound Tryz.prog aK f (dyn (aK.getD f 0))):Sound Tryz.prog aK 17 (E6 dyn):=aku dyn hd
def amS:Fx:=⟨Tryz.prog,aK,ZG (λ_ _=>ξ) [(13,KA),(16,JT (ZG (λ_ _=>ξ) [(501,wJ),(503,E6 (ZG (λ_ _=>ξ) [(501,wJ)]))])),(18,Ib),(11,BK),(19,E8)],(ZG (λ_ _=>ξ) [(501,wJ),(503,E6 (ZG (λ_ _=>ξ) [(501,wJ)]))]),[6,19],[16],74,[]⟩
theorem amO:Sound Tryz.prog aK 6 (Ω η [sE,.k,(.s 6)] .k (A.Br (KD))):=
 Z9 (Sound.aAI (X:=amS) (fn:=Tryz.f6) (cH:=(.s .n (.s .n (.s bG (.s .n (.s bG (.s bG (.s .n (.s bG (.s (.s .n (.b (.l [54] [.exit 0] (.s .n (.s dM (.s (.b (.s .n bf)) .n)))))) bf)))))))))) .K trivial (UJ rfl (Ξ abY (Ξ (aiw _ (nw (V9 (lE Om (by kernel_rfl) rfl) (V9 (lE (aaS _ (nw (V9 (lE Om (by kernel_rfl) rfl) Su))) (by kernel_rfl) rfl) Su)))) (Ξ acG (Ξ Ow (Ξ aa2 p4))))) (nw (V9 (lE Om (by kernel_rfl) rfl) (V9 (lE (aaS _ (nw (V9 (lE Om (by kernel_rfl) rfl) Su))) (by kernel_rfl) rfl) Su)))) Tryz.func6 Tryz.call6 (λa0 a1 a2 a3 a4 a5 σ=>by kernel_rfl)) _ _ _ rfl rfl
theorem abX:Sound Tryz.prog aK 6 Kz:=amO
theorem akc:Sound Tryz.prog aK 49 Kf:=q2 [] 16 (.s .n bf) (Ξ abb (Ξ wK (Ξ Ol (Ξ AM p4)))) Tryz.func49 Tryz.call49 (λa0 a1 σ=>by kernel_rfl) rfl rfl
theorem aai:Sound Tryz.prog aK 48 Hq:=q2 [2] 8 (.s .n bf) p4 Tryz.func48 Tryz.call48 (λa0 a1 σ=>by kernel_rfl) rfl rfl
def aj6:Fx:=⟨Tryz.prog,aK,ZG (λ_ _=>ξ) [(47,Di (ZG (λ_ _=>ξ) [(358,Hq)])),(49,Kf),(22,mG),(20,qM),(45,HA)],(ZG (λ_ _=>ξ) [(358,Hq)]),[6],[],36,[]⟩
theorem aj3:Sound Tryz.prog aK 24 (Ω ι [] (.t [(.a [.k,.k,.k,.k,.k,(.e 11 qv),.k,.k,.k,.k]),.k]) (A.lJ (Oh))):=
 Z9 (aC0 (X:=aj6) (fn:=Tryz.f24) (cH:=(.s .n (.s .n (.s (.s .n bG) bf)))) .F trivial (UJ rfl (Ξ (ahW _ (nw (V9 (lE aai (by kernel_rfl) rfl) Su))) (Ξ akc (Ξ wK (Ξ AM (Ξ aaE p4))))) (nw (V9 (lE aai (by kernel_rfl) rfl) Su))) Tryz.func24 Tryz.call24 (λa0 a1 a2 σ=>by kernel_rfl)) _ _ _ rfl rfl
theorem aj0:Sound Tryz.prog aK 24 Oe:=aj3
theorem ajF:Sound Tryz.prog aK 27 N4:=q1 [] 4 (.s .n bf) p4 Tryz.func27 Tryz.call27 (λa0 σ=>by kernel_rfl) rfl rfl
theorem aja:Sound Tryz.prog aK 28 adm:=q2 [2,3] 20 (.s .n (.s bG bf)) (Ξ SP p4) Tryz.func28 Tryz.call28 (λa0 a1 σ=>by kernel_rfl) rfl rfl
def ajH:Fx:=⟨Tryz.prog,aK,ZG (λ_ _=>ξ) [(24,Oe),(25,Dl),(27,N4),(26,JX),(31,zq),(30,uq),(32,A.oJ (.s 2) EV)],(ZG (λ_ _=>ξ) [(372,adm)]),[6,10,13,14],[8],90,[]⟩
theorem ajG:Sound Tryz.prog aK 10 (Ω ι [] (.t [(.a [.k,.k,.k,.k,.k,(.e 11 [.k,.k,.k,.k,.k,.k,.k,.k,(.s 2),.k,.k])]),.k]) (A.lJ (N5))):=
 Z9 (aC0 (X:=ajH) (fn:=Tryz.f10) (cH:=(.s .n (.s .n (.s bG (.s .n (.s (.s .n (.c [6,10] .n .n)) (.s .n (.s (.s .n (.b (.l [6,10,52] [.exit 0] (.s .n (.s dM (.s (.b (.s .n (.s .n (.s (.s .n dM) bf)))) .n)))))) bf)))))))) .F trivial (UJ rfl (Ξ aj0 (Ξ aaK (Ξ ajF (Ξ ajp (Ξ Ki (Ξ N8 (Ξ (aB2 aab (.s 2) rfl) p4))))))) (nw (V9 (lE aja (by kernel_rfl) rfl) Su))) Tryz.func10 Tryz.call10 (λa0 a1 a2 σ=>by kernel_rfl)) _ _ _ rfl rfl
theorem aal:Sound Tryz.prog aK 10 Ht:=ajG
def ajl:Fx:=⟨Tryz.prog,aK,ZG (λ_ _=>ξ) [],(λ_ _ _=>ξ),[],[],27,[]⟩
theorem ajh:Sound Tryz.prog aK 35 (Ω ι [] .k (YS (EX))):=
 Z9 (Vu (X:=ajl) (fn:=Tryz.f35) (cH:=(.s .n (.s (.s .n (.c [] .n .n)) (.s (.s .n (.s .n (.c [0] .n .n))) bf)))) .K trivial (UJ rfl p4 (λ_=>X2)) Tryz.func35 Tryz.call35 (λa0 a1 σ=>by kernel_rfl)) _ _ _ rfl rfl
theorem ajd:Sound Tryz.prog aK 35 EW:=ajh
def ai4:Fx:=⟨Tryz.prog,aK,ZG (λ_ _=>ξ) [(35,EW)],(λ_ _ _=>ξ),[],[],36,[]⟩
theorem ai1:Sound Tryz.prog aK 12 (Ω η [(.s 1)] .k (ZY (N0))):=
 Z9 (YB (X:=ai4) (fn:=Tryz.f12) (cH:=(.s .n (.s .n (.s (.s .n (.b (.l [3,11] [.exit 0] (.s .n (.s dM (.s (.b (.s .n (.s .n (.s .n (.c [] .n .n))))) .n)))))) (.s .n (.s (.s .n (.b (.l [6,27] [.exit 2] (.s .n (.s dM (.s (.b bf) .n)))))) bf)))))) .K trivial (UJ rfl (Ξ ajd p4) (λ_=>X2)) Tryz.func12 Tryz.call12 (λa0 σ=>by kernel_rfl)) _ _ _ rfl rfl
theorem aiZ:Sound Tryz.prog aK 12 NZ:=ai1
theorem alh:Sound Tryz.prog aK 4 az6:=q5 [5,19,20,28] 139 (.s .n (.s .n (.s bG (.s .n (.s bG (.s .n (.s (.s .n (.b (.l [5,15,16,17,54] [.exit 0] (.s .n (.s dM (.s (.b (.s .n (.s .n (.s (.s .n (.c [5,15,19,20] .n .n)) (.s (.s .n (.c [5,16,19,20] .n .n)) (.s .n (.c [5,17] .n .n))))))) .n)))))) (.s .n (.s .n (.s (.s .n (.b (.l [22,113] [.exit 2] (.s .n (.s dM (.s (.b (.s .n (.s .n (.b (.l [22,27] [.exit 4] (.s (.s .n dM) (.s (.b (.s .n bG)) .n))))))) .n)))))) bf)))))))))) (Ξ abX (Ξ Ow (Ξ Ol (Ξ aal (Ξ aiZ (Ξ abY p4)))))) Tryz.func4 Tryz.call4 (λa0 a1 a2 a3 a4 σ=>by kernel_rfl) rfl rfl
theorem anU:Sound Tryz.prog aK 5 azX:=q1 [1,4,6] 26 (.s .n (.s (.s .n (.b (.l [2,10] [.exit 0,.ret] (.s .n (.s dM (.s (.b (.s .n (.s .n (.b (.l [2,17] [.exit 2,.ret] (.s .n (.s dM (.s (.b (.s .n bG)) .n)))))))) .n)))))) bf)) p4 Tryz.func5 Tryz.call5 (λa0 σ=>by kernel_rfl) rfl rfl
def alm:Fx:=⟨Tryz.prog,aK,ZG (λ_ _=>ξ) [(18,Ib),(19,E8)],(λ_ _ _=>ξ),[2,10],[],36,[]⟩
theorem alk:Sound Tryz.prog aK 7 (Ω ι [] .k (YS (HO))):=
 Z9 (Vu (X:=alm) (fn:=Tryz.f7) (cH:=(.s .n (.s .n (.s bG (.s (.s .n (.b (.l [4,5,6,22] [.exit 0,.ret] (.s .n (.s dM (.s (.b (.s .n (.s .n bG))) .n)))))) bf))))) .K trivial (UJ rfl (Ξ acG (Ξ aa2 p4)) (λ_=>X2)) Tryz.func7 Tryz.call7 (λa0 a1 σ=>by kernel_rfl)) _ _ _ rfl rfl
theorem alg:Sound Tryz.prog aK 7 Kq:=alk
theorem akS:Sound Tryz.prog aK 8 Td:=q2 [] 23 (.s .n (.s (.s .n bG) bf)) (Ξ abt (Ξ Ud (Ξ qL (Ξ wK (Ξ AM (Ξ Ow p4)))))) Tryz.func8 Tryz.call8 (λa0 a1 σ=>by kernel_rfl) rfl rfl
theorem ajB:Sound Tryz.prog aK 3 aaf:=q5 [5,21,22,24] 138 (.s .n (.s .n (.s bG (.s .n (.s .n (.s bG (.s .n (.s .n (.s (.s .n (.b (.l [10,91] [.exit 0,.ret] (.s .n (.s dM (.s (.b (.s .n (.s .n (.s .n bG)))) .n)))))) bf))))))))) (Ξ alh (Ξ anU (Ξ abX (Ξ alg (Ξ akS (Ξ Ol (Ξ aal p4))))))) Tryz.func3 Tryz.call3 (λa0 a1 a2 a3 a4 σ=>by kernel_rfl) rfl rfl
end
def oS{κ ν:Type}(eK:κ->AV)(eV:ν->AV):Option (List (κ×ν))->AV
 |none=>.nm
 |some l=>xH eK eV l
theorem arV{κ ν:Type}{eK:κ->AV}{eV:ν->AV}(hk:∀k,Fz (eK k))(hv:∀v,Fz (eV v))(l:List (κ×ν)):Fz (xH eK eV l):=by
 intro σ n d
 have:A.sw σ n d (l.map λp=>(eK p.1,eV p.2))=δ (l.map λp=>(eK p.1,eV p.2)):=by
  induction l with
  |nil=>simp [A.sw]
  |cons x l ih=>simp [A.sw,hk x.1 σ n d,hv x.2 σ n d,ih]
 cases d<;>simp [Wr,xH,this]
theorem auO:Fz .nm:=λ_ _ d=>by cases d<;>simp [Wr]
theorem atE{κ ν:Type}{eK:κ->AV}{eV:ν->AV}(hk:∀k,Fz (eK k))(hv:∀v,Fz (eV v))(o:Option (List (κ×ν))):Fz (oS eK eV o):=by
 cases o with
 |none=>exact auO
 |some l=>exact arV hk hv l
structure BZ where
 shown:Int
 since:Int
 gQ:Bool
def wS(x:BZ):an:=[.ah x.shown,.ah x.since,.bool x.gQ]
theorem abS(x:BZ):φ 0 (wS x)=δ (.ah x.shown):=rfl
theorem amf(x:BZ):φ 1 (wS x)=δ (.ah x.since):=rfl
theorem amg(x:BZ):φ 2 (wS x)=δ (.bool x.gQ):=rfl
theorem UL(x:BZ):ψ 3 (.agg (wS x))=δ (wS x):=rfl
structure cS where
 gG:iF
 mm:Int
 ending:Bool
def fQ(x:cS):an:=[.ah x.gG.eD,.ah x.gG.to,.ah x.gG.start,.ah x.gG.cI,.ah x.gG.time,.ah x.gG.fA.kind,sl 2 gY x.gG.fA.bV,.ah x.mm,.bool x.ending]
theorem aoo(x:cS):(fQ x).length=9:=rfl
theorem anE(x:cS):φ 1 (fQ x)=δ (.ah x.gG.to):=rfl
theorem anF(x:cS):φ 2 (fQ x)=δ (.ah x.gG.start):=rfl
theorem anG(x:cS):φ 3 (fQ x)=δ (.ah x.gG.cI):=rfl
theorem anH(x:cS):φ 4 (fQ x)=δ (.ah x.gG.time):=rfl
theorem anI(x:cS):φ 6 (fQ x)=δ (sl 2 gY x.gG.fA.bV):=rfl
theorem Ic(x:cS):φ 7 (fQ x)=δ (.ah x.mm):=rfl
theorem KJ(x:cS):φ 8 (fQ x)=δ (.bool x.ending):=rfl
theorem aa7(x:cS):l7 0 7 (fQ x)=δ (.agg (gA x.gG)):=rfl
theorem ym(x:cS):l7 0 9 (fQ x)=δ (.agg (fQ x)):=rfl
theorem zD(x:cS):ψ 9 (.agg (fQ x))=δ (fQ x):=rfl
theorem BS(x:cS)(l:an)(h:l.length=9):Φ 0 (fQ x) l=δ (fQ x):=by simp [Φ,aoo,h]
theorem aef(x:cS):iY (fQ x):=(bO (cN _ _) (bO (cN _ _) (bO (cN _ _) (bO (cN _ _) (bO (cN _ _) (bO (cN _ _) (bO (qZ KO _) (bO (cN _ _) (bO (AZ _) lg)))))))))
structure bk where
 aJ:BZ
 au:Int
 jT:Int
 bg:(List bl)
 bw:Int
 eF:Int
 cM:Int
 runs:(Option (List (aI×cS)))
def aQ(x:bk):an:=[.ah x.aJ.shown,.ah x.aJ.since,.bool x.aJ.gQ,.ah x.au,.ah x.jT,sl 11 bn x.bg,.ah x.bw,.ah x.eF,.ah x.cM,oS (λx=>Λ (aV x)) (λx=>Λ (fQ x)) x.runs]
theorem amZ(x:bk):(aQ x).length=10:=rfl
theorem abR(x:bk):φ 3 (aQ x)=δ (.ah x.au):=rfl
theorem aAs(x:bk):l7 0 10 (aQ x)=δ (.agg (aQ x)):=rfl
theorem O7(x:bk):ψ 10 (.agg (aQ x))=δ (aQ x):=rfl
theorem apq(x:bk)(l:an)(h:l.length=10):Φ 0 (aQ x) l=δ (aQ x):=by simp [Φ,amZ,h]
theorem BN(x:bk):iY (aQ x):=(bO (cN _ _) (bO (cN _ _) (bO (AZ _) (bO (cN _ _) (bO (cN _ _) (bO (qZ Lb _) (bO (cN _ _) (bO (cN _ _) (bO (cN _ _) (bO (atE (λx=>vF (DE x)) (λx=>vF (aef x)) _) lg))))))))))
theorem al1(x:bk){σ:Heap}:((χ (.rp ((aQ x).drop 1)) σ).bind λc=>φ 0 c)=δ (.ah x.aJ.since):=rfl
theorem al2(x:bk){σ:Heap}:((χ (.rp ((aQ x).drop 2)) σ).bind λc=>φ 0 c)=δ (.bool x.aJ.gQ):=rfl
theorem OI(x:bk){σ:Heap}:((χ (.rp ((aQ x).drop 3)) σ).bind λc=>φ 0 c)=δ (.ah x.au):=rfl
theorem Kw(x:bk){σ:Heap}:((χ (.rp ((aQ x).drop 4)) σ).bind λc=>φ 0 c)=δ (.ah x.jT):=rfl
theorem al3(x:bk){σ:Heap}:((χ (.rp ((aQ x).drop 7)) σ).bind λc=>φ 0 c)=δ (.ah x.eF):=rfl
theorem abD(x:bk){σ:Heap}:((χ (.rp ((aQ x).drop 8)) σ).bind λc=>φ 0 c)=δ (.ah x.cM):=rfl
theorem HX(x:bk){σ:Heap}:((χ (.rp ((aQ x).drop 9)) σ).bind λc=>φ 0 c)=δ (oS (λx=>Λ (aV x)) (λx=>Λ (fQ x)) x.runs):=(by unfold aQ;cases x.runs<;>rfl)
structure dA where
 aD:(List bk)
 au:Int
 vK:Int
 black:Bool
def DN(x:dA):an:=[sl 10 aQ x.aD,.ah x.au,.ah x.vK,.bool x.black]
theorem abF(x:dA){σ:Heap}:((χ (.rp ((DN x).drop 0)) σ).bind λc=>φ 0 c)=δ (sl 10 aQ x.aD):=rfl
structure bB where
 state:dA
 setup:ct
 keys:(List aI)
 params:(Option (List (aI×fO)))
 bP:(List cW)
def vJ(x:bB):an:=[sl 10 aQ x.state.aD,.ah x.state.au,.ah x.state.vK,.bool x.state.black,sl 3 dF x.setup.bh.bA,sl 4 dr x.setup.bh.dK,sl 3 fk x.setup.cG,sl 2 eZ x.setup.bZ,sl 3 cr x.setup.aS,sl 2 aV x.keys,oS (λx=>Λ (aV x)) (λx=>Λ (gm x)) x.params,sl 5 bz x.bP]
theorem al4(x:bB){σ:Heap}:((χ (.rp ((vJ x).drop 10)) σ).bind λc=>φ 0 c)=δ (oS (λx=>Λ (aV x)) (λx=>Λ (gm x)) x.params):=(by unfold vJ;cases x.params<;>rfl)
theorem abE(x:bB){σ:Heap}:((χ (.rp ((vJ x).drop 11)) σ).bind λc=>φ 0 c)=δ (sl 5 bz x.bP):=rfl
section
open HP
def wd(n:Nat):an:=[.int .u64 ((n / 18446744073709551616:Nat):Int),.int .u64 ((n % 18446744073709551616:Nat):Int)]
theorem Rh{n:Nat}(h:n<18446744073709551616):Xl.wrap (n:Int)=(n:Int):=by rw[IntKind.wrap_u64];omega
theorem Qb{r:AV->AV->Heap->aC}{x y v:AV}{σ:Heap}(h:[x,y].any A.own=ι)(e:r x y σ=δ (v,σ)):Ω η [] .k (YS r) [x,y] σ=δ (v,σ):=by refine wrap_eq h ?_ (iI _);rw[show UZ [] [x,y]=[x,y] by simp [UZ]];exact e
theorem Bl{n:Nat}(h:n<9223372036854775808)(σ:Heap):qN [.ah (n:Int)] σ=δ (.agg (wd n),σ):=by
 refine wrap_eq rfl ?_ (iI _);show UA (.ah (n:Int)) σ=_;unfold UA;rw[show A.conv .u64 (.ah (n:Int))=δ (.int .u64 (Xl.wrap (n:Int)))from rfl,bS,Rh (by omega)]
 have e:wd n=[.int .u64 0,.int .u64 (n:Int)]:=by unfold wd;rw[Nat.div_eq_of_lt (by omega),Nat.mod_eq_of_lt (by omega)];rfl
 rw[e];exact bL _ _
theorem ast{x y:Nat}(hx:x<18446744073709551616)(hy:y<18446744073709551616)(σ:Heap):Kt [.int .u64 (x:Int),.int .u64 (y:Int)] σ=δ (.aM [.int .u64 ((x*y / 18446744073709551616:Nat):Int),.int .u64 ((x*y % 18446744073709551616:Nat):Int)],σ):=by
 have h:0<=(x:Int)/\(x:Int)<18446744073709551616/\0<=(y:Int)/\(y:Int)<18446744073709551616:=by omega
 have e:∀(a b:Int),Kt [.int .u64 a,.int .u64 b] σ=if 0<=a/\a<18446744073709551616/\0<=b/\b<18446744073709551616 then δ (.aM [.int .u64 ((a.toNat*b.toNat / 18446744073709551616:Nat):Int),.int .u64 ((a.toNat*b.toNat % 18446744073709551616:Nat):Int)],σ)else ξ:=λa b=>rfl
 rw[e,aO h,Tl,Tl]
theorem aeQ{x y c:Nat}(hx:x<18446744073709551616)(hy:y<18446744073709551616)(hc:c<=1)(σ:Heap):HT [.int .u64 (x:Int),.int .u64 (y:Int),.int .u64 (c:Int)] σ=δ (.aM [.int .u64 (((x+y+c) % 18446744073709551616:Nat):Int),.int .u64 (((x+y+c) / 18446744073709551616:Nat):Int)],σ):=by
 have h:0<=(x:Int)/\(x:Int)<18446744073709551616/\0<=(y:Int)/\(y:Int)<18446744073709551616/\0<=(c:Int)/\(c:Int)<=1:=by omega
 have e:∀(a b d:Int),HT [.int .u64 a,.int .u64 b,.int .u64 d] σ=if 0<=a/\a<18446744073709551616/\0<=b/\b<18446744073709551616/\0<=d/\d<=1 then δ (.aM [.int .u64 (((a.toNat+b.toNat+d.toNat) % 18446744073709551616:Nat):Int),.int .u64 (((a.toNat+b.toNat+d.toNat) / 18446744073709551616:Nat):Int)],σ)else ξ:=λa b d=>rfl
 rw[e,aO h,Tl,Tl,Tl]
theorem zN{a n:Nat}(h:a*n<340282366920938463463374607431768211456)(ha:a<340282366920938463463374607431768211456)(hn:n<9223372036854775808)(σ:Heap):sZ [.agg (wd a),.ah (n:Int)] σ=δ (.agg (wd (a*n)),σ):=by
 have e0:aAf (.agg (wd a)) (.ah (n:Int)) σ=δ (.agg (wd (a*n)),σ)->sZ [.agg (wd a),.ah (n:Int)] σ=δ (.agg (wd (a*n)),σ):=λq=>Qb rfl q
 refine e0 ?_;unfold aAf;have hlo:a % 18446744073709551616<18446744073709551616:=Nat.mod_lt _ (by decide)
 have e1:a*n=(a / 18446744073709551616*n)*18446744073709551616+a % 18446744073709551616*n:=by have q:=Nat.div_add_mod a 18446744073709551616;generalize a / 18446744073709551616=hi at q;generalize a % 18446744073709551616=lo at q;subst q;rw[gu,aB3,Wx]
 generalize hp:a / 18446744073709551616*n=p at e1;generalize hq:a % 18446744073709551616*n=q at e1;have hhi:p+q / 18446744073709551616<18446744073709551616:=by omega
 have hd:(a*n) / 18446744073709551616=p+q / 18446744073709551616:=by omega
 have hm:(a*n) % 18446744073709551616=q % 18446744073709551616:=by omega
 rw[show ψ 2 (.agg (wd a))=δ (wd a)from rfl,bS,show φ 1 (wd a)=δ (.int .u64 ((a % 18446744073709551616:Nat):Int))from rfl,bS,show A.conv .u64 (.ah (n:Int))=δ (.int .u64 (Xl.wrap (n:Int)))from rfl,bS,Rh (by omega),ast hlo (by omega),bS,jZ,bS,ext1,bS,show φ 0 (wd a)=δ (.int .u64 ((a / 18446744073709551616:Nat):Int))from rfl,bS,bS];rw[show WR (.int .u64 ((a / 18446744073709551616:Nat):Int)) (.int .u64 (n:Int))=δ (.int .u64 (Xl.wrap (((a / 18446744073709551616:Nat):Int)*(n:Int))))from rfl,bS,<-aCE,hp,hq,Rh (by omega)];rw[show Z8 (.int .u64 (p:Int)) (.int .u64 ((q / 18446744073709551616:Nat):Int))=δ (.int .u64 (Xl.wrap ((p:Int)+((q / 18446744073709551616:Nat):Int))))from rfl,bS,<-Int.natCast_add,Rh hhi];have e:wd (a*n)=[.int .u64 ((p+q / 18446744073709551616:Nat):Int),.int .u64 ((q % 18446744073709551616:Nat):Int)]:=by unfold wd;rw[hd,hm]
 rw[e];exact bL _ _
theorem at8{a b:Nat}(h:a+b<340282366920938463463374607431768211456)(σ:Heap):Od [.agg (wd a),.agg (wd b)] σ=δ (.agg (wd (a+b)),σ):=by
 have e0:azD (.agg (wd a)) (.agg (wd b)) σ=δ (.agg (wd (a+b)),σ)->Od [.agg (wd a),.agg (wd b)] σ=δ (.agg (wd (a+b)),σ):=λq=>Qb rfl q
 refine e0 ?_;unfold azD;have ha:a % 18446744073709551616<18446744073709551616:=Nat.mod_lt _ (by decide);have hb:b % 18446744073709551616<18446744073709551616:=Nat.mod_lt _ (by decide);rw[show ψ 2 (.agg (wd a))=δ (wd a)from rfl,bS,show ψ 2 (.agg (wd b))=δ (wd b)from rfl,bS,show φ 1 (wd a)=δ (.int .u64 ((a % 18446744073709551616:Nat):Int))from rfl,bS,show φ 1 (wd b)=δ (.int .u64 ((b % 18446744073709551616:Nat):Int))from rfl,bS];have e0:=aeQ ha hb (c:=0) (by omega) σ;rw[show((0:Nat):Int)=0 from rfl]at e0;rw[e0,bS,jZ,bS,ext1,bS,show φ 0 (wd a)=δ (.int .u64 ((a / 18446744073709551616:Nat):Int))from rfl,bS,show φ 0 (wd b)=δ (.int .u64 ((b / 18446744073709551616:Nat):Int))from rfl,bS];simp only;rw[aeQ (by omega) (by omega) (by omega),bS,jZ,bS,ext1,bS]
 have e:wd (a+b)=[.int .u64 (((a / 18446744073709551616+b / 18446744073709551616+(a % 18446744073709551616+b % 18446744073709551616+0) / 18446744073709551616) % 18446744073709551616:Nat):Int),.int .u64 (((a % 18446744073709551616+b % 18446744073709551616+0) % 18446744073709551616:Nat):Int)]:=by
  have d1:(a+b) / 18446744073709551616=(a / 18446744073709551616+b / 18446744073709551616+(a % 18446744073709551616+b % 18446744073709551616+0) / 18446744073709551616) % 18446744073709551616:=by omega
  have d2:(a+b) % 18446744073709551616=(a % 18446744073709551616+b % 18446744073709551616+0) % 18446744073709551616:=by omega
  unfold wd;rw[d1,d2]
 rw[e];exact bL _ _
theorem agj(a b:Nat)(σ:Heap):Hy [.agg (wd a),.agg (wd b)] σ=δ (.bool (decide (a<b)),σ):=by
 refine wrap_eq rfl ?_ (iI _);show SM (.agg (wd a)) (.agg (wd b)) σ=_;unfold SM
 rw[show ψ 2 (.agg (wd a))=δ (wd a)from rfl,bS,show ψ 2 (.agg (wd b))=δ (wd b)from rfl,bS,show φ 0 (wd a)=δ (.int .u64 ((a / 18446744073709551616:Nat):Int))from rfl,bS,show φ 0 (wd b)=δ (.int .u64 ((b / 18446744073709551616:Nat):Int))from rfl,bS,
  show Sq (.int .u64 ((a / 18446744073709551616:Nat):Int)) (.int .u64 ((b / 18446744073709551616:Nat):Int))=δ (.bool (decide (((a / 18446744073709551616:Nat):Int)<((b / 18446744073709551616:Nat):Int))))from rfl,bS]
 by_cases h1:a / 18446744073709551616<b / 18446744073709551616
 ·rw[cB (show((a / 18446744073709551616:Nat):Int)<((b / 18446744073709551616:Nat):Int) by omega)];rw[cB (show a<b by omega)];exact bL _ _
 rw[cm (show ¬((a / 18446744073709551616:Nat):Int)<((b / 18446744073709551616:Nat):Int) by omega)]
 have hq:Wn .i (.int .u64 ((a / 18446744073709551616:Nat):Int)) (.int .u64 ((b / 18446744073709551616:Nat):Int))=δ (.bool (decide (((a / 18446744073709551616:Nat):Int)=((b / 18446744073709551616:Nat):Int)))):=by simp only[Wn,Uj,A.pR,if_true,cq];congr 2
 simp only[gF,bS];rw[hq];by_cases h2:a / 18446744073709551616=b / 18446744073709551616
 ·rw[cB (show((a / 18446744073709551616:Nat):Int)=((b / 18446744073709551616:Nat):Int) by omega)];simp only[gT,bS];rw[show φ 1 (wd a)=δ (.int .u64 ((a % 18446744073709551616:Nat):Int))from rfl,bS,show φ 1 (wd b)=δ (.int .u64 ((b % 18446744073709551616:Nat):Int))from rfl,bS,show Sq (.int .u64 ((a % 18446744073709551616:Nat):Int)) (.int .u64 ((b % 18446744073709551616:Nat):Int))=δ (.bool (decide (((a % 18446744073709551616:Nat):Int)<((b % 18446744073709551616:Nat):Int))))from rfl,bS];rw[show decide (((a % 18446744073709551616:Nat):Int)<((b % 18446744073709551616:Nat):Int))=decide (a<b)from decide_eq_decide.2 (by omega)];exact bL _ _
 ·rw[cm (show ¬((a / 18446744073709551616:Nat):Int)=((b / 18446744073709551616:Nat):Int) by omega)];simp only[yX,bS];rw[cm (show ¬a<b by omega)];exact bL _ _
end
section
open HP
theorem atf{r:AV->AV->AV->AV->Heap->aC}{x y z t v:AV}{σ:Heap}(h:[x,y,z,t].any A.own=ι)(e:r x y z t σ=δ (v,σ)):Ω η [] .k (A.An r) [x,y,z,t] σ=δ (v,σ):=by refine wrap_eq h ?_ (iI _);rw[show UZ [] [x,y,z,t]=[x,y,z,t] by simp [UZ]];exact e
theorem Dy{a b:Nat}(h:a+b<9223372036854775808):Z8 (.ah (a:Int)) (.ah (b:Int))=δ (.ah ((a+b:Nat):Int)):=by rw[lU,<-Int.natCast_add,cO (by unfold aU;omega)]
theorem ao3{a b:Nat}(h:a*b<9223372036854775808):WR (.ah (a:Int)) (.ah (b:Int))=δ (.ah ((a*b:Nat):Int)):=by rw[zX,<-aCE,cO (by unfold aU;omega)]
theorem azU{a b:Nat}(h:b<=a)(h2:a<9223372036854775808):T6 (.ah (a:Int)) (.ah (b:Int))=δ (.ah ((a-b:Nat):Int)):=by rw[mV,cO (by unfold aU;omega)];congr 2;omega
theorem afg{a:Nat}(h:a<9223372036854775808):A.quo (.ah (a:Int)) (.ah 2)=δ (.ah ((a / 2:Nat):Int)):=by rw[ahx _ _ (by decide),show((a:Int)).tdiv 2=((a / 2:Nat):Int)from by rw[Int.tdiv_eq_ediv_of_nonneg (by omega)];omega,cO (by unfold aU;omega)]
def Gj(a b:Int)(n d:Nat):Int:=if a<=b then a+((2*(b-a).toNat*n+d) / (2*d):Nat)else a-((2*(a-b).toNat*n+d-1) / (2*d):Nat)
theorem pY(n:Nat):ψ 2 (.agg (wd n))=δ (wd n):=rfl
theorem pq(n:Nat):l7 0 2 (wd n)=δ (.agg (wd n)):=rfl
theorem rS(n:Nat):Φ 0 (wd n) [(Z6 .u64 0),(Z6 .u64 0)]=δ (wd n):=rfl
theorem QN(n:Nat):((ZE (.lbx (wd n))).bind λc=>l7 0 2 c)=δ (.agg (wd n)):=rfl
theorem amK(k:Nat):WR (.ah 2) (.ah (k:Int))=δ (.ah (θ.wrap (2*(k:Int)))):=rfl
theorem Il{k:Nat}(h:k<4611686018427387904):WR (.ah 2) (.ah (k:Int))=δ (.ah ((2*k:Nat):Int)):=by rw[amK,cO (by unfold aU;omega)];congr 2
theorem as7{d X K m:Nat}(hd:0<d)(hd2:d<100000000000000000000000000)(hm2:m<=65535)(hX:X<=200000*d)(hK:K<=m)(hle:∀k:Nat,k<=K↔d*(2*k)<=X)(σ:Heap):∃q,p7 ((λv12 vg=>
    (Sq (aj v12 2) (aj v12 3)).bind λeE=>
    Γ eE (
     (Z8 (aj v12 2) (aj v12 3)).bind λdJ=>
     (Z8 dJ (ε 1)).bind λdz=>
     (A.quo dz (ε 2)).bind λdh=>
     ((ZE (aj v12 1)).bind λiZ=>l7 0 2 iZ).bind λew=>
     ((ZE (aj v12 0)).bind λkN=>l7 0 2 kN).bind λey=>
     (WR (ε 2) dh).bind λeU=>
     (wh (sZ [ey,eU] vg) vg).bind λx24=>
     (wh (Hy [ew,x24] vg) vg).bind λx25=>
     (Γ x25 (
      (T6 dh (ε 1)).bind λfG=>
      δ ([(aj v12 0),(aj v12 1),(aj v12 2),fG],vg)) (
      δ ([(aj v12 0),(aj v12 1),dh,(aj v12 3)],vg))).bind λlQ=>
     δ (l9,[(aj lQ.1 0),(aj lQ.1 1),(aj lQ.1 2),(aj lQ.1 3)],lQ.2)) (
     δ (Ψ 0,[(aj v12 0),(aj v12 1),(aj v12 2),(aj v12 3)],vg)))) [.lbx (wd d),.lbx (wd X),.ah 0,.ah (m:Int)] σ=δ q/\∃w,q=(.exit 0,[.lbx (wd d),.lbx (wd X),.ah (K:Int),w],σ):=by
 refine nO (λz v w=>∃lo hi:Nat,v=[.lbx (wd d),.lbx (wd X),.ah (lo:Int),.ah (hi:Int)]/\w=σ/\z=hi-lo/\lo<=K/\K<=hi/\hi<=m) ?_ (n:=m) ⟨0,m,rfl,rfl,by omega,by omega,hK,bF _⟩;rintro z v w ⟨lo,hi,rfl,rfl,hz,h1,h2,h3⟩;simp only[bM,cg];rw[lp,bS];by_cases hlt:lo<hi
 ·rw[cB (by omega),cK,Dy (by omega),bS,show Z8 (.ah ((lo+hi:Nat):Int)) (.ah 1)=δ (.ah ((lo+hi+1:Nat):Int))from Dy (b:=1) (by omega),bS,afg (by omega),bS,QN,bS,QN,bS,Il (by omega),bS];generalize hk:(lo+hi+1) / 2=k;have hk1:lo<k:=by omega
  have hk2:k<=hi:=by omega
  have hdk:d*(2*k)<=131070*d:=by rw[Wx];exact Wa (by omega) (bF _)
  rw[dL (zN (by omega) (by omega) (by omega) w),bS,dL (agj X (d*(2*k)) w),bS];by_cases hc:X<d*(2*k)
  ·rw[cB hc,cK,show T6 (.ah (k:Int)) (.ah 1)=δ (.ah ((k-1:Nat):Int))from azU (b:=1) (by omega) (by omega),bS,bS];have hnk:¬k<=K:=λq=>by have:=(hle k).1 q;omega
   exact .inl ⟨k-1-lo,_,_,by omega,rfl,lo,k-1,rfl,rfl,rfl,h1,by omega,by omega⟩
  ·rw[cm hc,cD,bS];have hkK:k<=K:=(hle k).2 (by omega);exact .inl ⟨hi-k,_,_,by omega,rfl,k,hi,rfl,rfl,rfl,hkK,h2,h3⟩
 ·rw[cm (by omega),cD];refine .inr ⟨_,rfl,by simp,.ah (hi:Int),?_⟩;rw[show lo=K by omega]
theorem arD{d X K m:Nat}(hd:0<d)(hd2:d<100000000000000000000000000)(hm2:m<=65535)(hX:X<=200000*d)(hK:K<=m)(hle:∀k:Nat,k<K↔d*(2*k+1)<X)(σ:Heap):∃q,p7 ((λko vi=>
    (Sq (aj ko 2) (aj ko 3)).bind λiO=>
    Γ iO (
     (Z8 (aj ko 2) (aj ko 3)).bind λfH=>
     (A.quo fH (ε 2)).bind λiP=>
     ((ZE (aj ko 0)).bind λkO=>l7 0 2 kO).bind λji=>
     (WR (ε 2) iP).bind λjx=>
     (Z8 jx (ε 1)).bind λgO=>
     (wh (sZ [ji,gO] vi) vi).bind λjG=>
     ((ZE (aj ko 1)).bind λmN=>l7 0 2 mN).bind λjQ=>
     (wh (Hy [jG,jQ] vi) vi).bind λgB=>
     (Γ gB (
      (Z8 iP (ε 1)).bind λiT=>
      δ ([(aj ko 0),(aj ko 1),iT,(aj ko 3)],vi)) (
      δ ([(aj ko 0),(aj ko 1),(aj ko 2),iP],vi))).bind λjv=>
     δ (l9,[(aj jv.1 0),(aj jv.1 1),(aj jv.1 2),(aj jv.1 3)],jv.2)) (
     δ (Ψ 2,[(aj ko 0),(aj ko 1),(aj ko 2),(aj ko 3)],vi)))) [.lbx (wd d),.lbx (wd X),.ah 0,.ah (m:Int)] σ=δ q/\∃w,q=(.exit 2,[.lbx (wd d),.lbx (wd X),.ah (K:Int),w],σ):=by
 refine nO (λz v w=>∃lo hi:Nat,v=[.lbx (wd d),.lbx (wd X),.ah (lo:Int),.ah (hi:Int)]/\w=σ/\z=hi-lo/\lo<=K/\K<=hi/\hi<=m) ?_ (n:=m) ⟨0,m,rfl,rfl,by omega,by omega,hK,bF _⟩;rintro z v w ⟨lo,hi,rfl,rfl,hz,h1,h2,h3⟩;simp only[bM,cg];rw[lp,bS];by_cases hlt:lo<hi
 ·rw[cB (by omega),cK,Dy (by omega),bS,afg (by omega),bS,QN,bS,Il (by omega),bS];generalize hk:(lo+hi) / 2=k;have hk1:lo<=k:=by omega
  have hk2:k<hi:=by omega
  have hdk:d*(2*k+1)<=131071*d:=by rw[Wx];exact Wa (by omega) (bF _)
  rw[show Z8 (.ah ((2*k:Nat):Int)) (.ah 1)=δ (.ah ((2*k+1:Nat):Int))from Dy (b:=1) (by omega),bS,dL (zN (by omega) (by omega) (by omega) w),bS,QN,bS,dL (agj (d*(2*k+1)) X w),bS];by_cases hc:d*(2*k+1)<X
  ·rw[cB hc,cK,show Z8 (.ah (k:Int)) (.ah 1)=δ (.ah ((k+1:Nat):Int))from Dy (b:=1) (by omega),bS,bS];have hkK:k<K:=(hle k).2 hc;exact .inl ⟨hi-(k+1),_,_,by omega,rfl,k+1,hi,rfl,rfl,rfl,by omega,h2,h3⟩
  ·rw[cm hc,cD,bS];have hnk:¬k<K:=λq=>hc ((hle k).1 q)
   exact .inl ⟨k-lo,_,_,by omega,rfl,lo,k,rfl,rfl,rfl,h1,by omega,by omega⟩
 ·rw[cm (by omega),cD];refine .inr ⟨_,rfl,by simp,.ah (hi:Int),?_⟩;rw[show lo=K by omega]
theorem aq0{a b:Int}(ha:0<=a)(ha2:a<=65535)(hb:0<=b)(xI:b<=65535){n d:Nat}(hd:0<d)(hnd:n<=d)(hd2:d<100000000000000000000000000)(σ:Heap):aBd [.ah a,.ah b,.agg (wd n),.agg (wd d)] σ=δ (.ah (Gj a b n d),σ):=by
 have run:∃q,azq (.ah a) (.ah b) (.agg (wd n)) (.agg (wd d)) σ=δ q/\q=(.ah (Gj a b n d),σ):=by
  unfold azq Gj;rw[pY,bS,pY,bS,qp,bS];by_cases hab:a<=b
  ·rw[cB hab,cK,aO hab];obtain⟨m,hm⟩:∃m:Nat,b-a=m:=⟨(b-a).toNat,by omega⟩
   have hm2:m<=65535:=by omega
   have b1:2*m*n<=131070*d:=Wa (by omega) hnd;have b2:n*(2*m)=2*m*n:=Wx _ _;rw[mV,cO (by unfold aU;omega),hm,bS,pq,bS,Il (by omega),bS,dL (zN (by omega) (by omega) (by omega) σ),bS,pq,bS,dL (at8 (by omega) σ),bS,pY,bS,rS,bS];rw[Tl,b2];generalize hX:2*m*n+d=X
   have hK:X / (2*d)<=m:=by
    refine Nat.lt_succ_iff.1 ((Nat.div_lt_iff_lt_mul (by omega)).2 ?_);have:m*n<=m*d:=Wa (bF _) hnd;have e1:2*m*n=2*(m*n):=aB3 _ _ _;have e2:(m+1)*(2*d)=2*(m*d)+2*d:=by rw[gu,Zv];omega
    show X<(m+1)*(2*d)
    omega
   generalize aBC:X / (2*d)=K at hK
   have hle:∀k:Nat,k<=K↔d*(2*k)<=X:=λk=>by rw[<-aBC,Nat.le_div_iff_mul_le (by omega),show k*(2*d)=d*(2*k) by rw[Zv,Zv d];congr 1;exact Wx _ _]
   refine yw (as7 hd hd2 hm2 (by omega) hK hle σ) ?_
   ·rintro q ⟨w,rfl⟩;simp only[mB,bM,cg];rw[lU,cO (by unfold aU;omega),bS];exact⟨_,bL _ _,rfl⟩
  ·rw[cm hab,cD,aL hab];obtain⟨m,hm⟩:∃m:Nat,a-b=m:=⟨(a-b).toNat,by omega⟩
   have hm2:m<=65535:=by omega
   have b1:2*m*n<=131070*d:=Wa (by omega) hnd;have b2:n*(2*m)=2*m*n:=Wx _ _;rw[mV,cO (by unfold aU;omega),hm,bS,pq,bS,Il (by omega),bS,zN (by omega) (by omega) (by omega) σ,bS,pY,bS,rS,bS];rw[Tl,b2];generalize hX:2*m*n=X
   have hK:(X+d-1) / (2*d)<=m:=by
    refine Nat.lt_succ_iff.1 ((Nat.div_lt_iff_lt_mul (by omega)).2 ?_);have:m*n<=m*d:=Wa (bF _) hnd;have e1:2*m*n=2*(m*n):=aB3 _ _ _;have e2:(m+1)*(2*d)=2*(m*d)+2*d:=by rw[gu,Zv];omega
    show X+d-1<(m+1)*(2*d)
    omega
   generalize aBC:(X+d-1) / (2*d)=K at hK
   have hle:∀k:Nat,k<K↔d*(2*k+1)<X:=λk=>by
    have q:=Nat.le_div_iff_mul_le (k:=2*d) (x:=k+1) (y:=X+d-1) (by omega);rw[aBC]at q;have e:(k+1)*(2*d)=d*(2*k+1)+d:=by rw[XE,gu,Zv,Zv d];rw[Wx k d];omega
    constructor
    ·intro h;have:=q.1 h;omega
    ·intro h;exact q.2 (by omega)
   refine yw (arD hd hd2 hm2 (by omega) hK hle σ) ?_
   ·rintro q ⟨w,rfl⟩;simp only[mB,bM,cg];rw[mV,cO (by unfold aU;omega),bS];exact⟨_,bL _ _,rfl⟩
 obtain⟨q,h1,rfl⟩:=run;exact atf rfl h1
end
section
def HW (a0:Int) (a1:Int):Option Int:=
 (Jn a0 a1).bind λx1=>
 (Jo a0 a1).bind λx2=>
 (show Option Int from
   if x2<0 then
    δ (θ.wrap (x1-1))
   else
   δ x1).bind λj4=>
 δ j4
theorem alx{a0:Int}{a1:Int}{σ:Heap}{r:Int}(h:HW a0 a1=δ r):TD [(ε a0),(ε a1)] σ=δ ((ε r),σ):=by
 refine uy (f:=TL) (y0:=(ε a0)) (y1:=(ε a1)) (enc:=λr:Int=>(ε r)) (T:=HW a0 a1) rfl rfl ?_ r h;unfold TL HW;refine iJ (λx1:Int=>(ε x1)) (λx1 hx1=>aua hx1) (λx1 hx1=>?_);refine iJ (λx2:Int=>(ε x2)) (λx2 hx2=>auc hx2) (λx2 hx2=>?_);refine ay _ rfl ?_
 refine Gg (ω:=Int) (λj4 a=>a=(([(ε j4)]:an),σ)) (
   by
    refine kE (p:=x2<0) (λc3=>?_) (λc3=>?_)
    ·refine ay _ rfl ?_;exact cz rfl
    exact cz rfl
   ) (λj4 a ha=>?_)
 subst ha;exact eB _ (bL _ _) ⟨rfl,rfl⟩
def Dt (a0:Int) (a1:Int):Option Int:=(HW (θ.wrap (θ.wrap (2*a0)+a1)) (θ.wrap (2*a1))).bind λr1=>δ r1
theorem abn{a0:Int}{a1:Int}{σ:Heap}{r:Int}(h:Dt a0 a1=δ r):OG [(ε a0),(ε a1)] σ=δ ((ε r),σ):=by refine uy (f:=TM) (y0:=(ε a0)) (y1:=(ε a1)) (enc:=λr:Int=>(ε r)) (T:=Dt a0 a1) rfl rfl ?_ r h;unfold TM Dt;refine ay _ rfl<|ay _ rfl<|ay _ rfl ?_;refine iJ (λr1:Int=>((ε r1),σ)) (λr1 iB=>alx iB) (λr1 iB=>?_);exact eB _ (bL _ _) ⟨rfl,rfl⟩
def Ox (a0:Int):Option Bool:=δ (aX a0 0 36000000)
theorem Kk{a0:Int}{σ:Heap}{r:Bool}(h:Ox a0=δ r):E7 [(ε a0)] σ=δ ((i7 r),σ):=by refine ux (f:=Te) (y0:=(ε a0)) (enc:=λr:Bool=>(i7 r)) (T:=Ox a0) rfl rfl ?_ r h;unfold Te Ox;refine ay _ (kJ a0 0 36000000 σ) ?_;exact eB _ (bL _ _) ⟨rfl,rfl⟩
def E9 (a0:(List Int)):Option Int:=
 kL a0 (λ(i8:Nat)e7(s1:Unit)=>(show Option (Lr Unit Unit Int)from
   if(!(aX e7 0 65535))=η then
    δ (.ret 1)
   else
   δ (.go ()))) (λs1=>δ ()) () (λb2=>
  δ 0) (λb2=>
  δ b2)
theorem aaU{a0:(List Int)}{σ:Heap}{r:Int}(h:E9 a0=δ r):Oq [(sl 1 nT a0)] σ=δ ((ε r),σ):=by
 refine ux (f:=Tf) (y0:=(sl 1 nT a0)) (enc:=λr:Int=>(ε r)) (T:=E9 a0) rfl rfl ?_ r h;unfold Tf E9;refine ay _ (fJ _ _ _) ?_;refine oz (B:=Unit) (R:=Int) (λ(i8:Nat)(s1:Unit)v w3=>v=[(ε 0),(ε (i8:Int))]/\σ=w3) (λ(b2:Unit)(q:LS)=>∃u2 u7,q=((Ψ 0),([u2,u7]:an),σ)) (λ(b2:Int)(q:LS)=>∃u7,q=(n9,([(ε b2),u7]:an),σ)) ?_ ?_ ⟨rfl,rfl⟩ ?_ ?_
 ·intro Ae i8 e7 s1 v w3 nG hI;obtain⟨rfl,rfl⟩:=hI;refine ay _ (gZ nG)<|oD<|ay _ (gy nG)<|ay _ rfl<|ay _ (ama e7 σ)<|ay _ rfl ?_;refine jE (c:=(!(aX e7 0 65535))) (λc9=>?_) (λc9=>?_)
  ·exact cz (iD (by simp) ⟨_,rfl⟩)
  refine ay _ (fK nG Ae) ?_;exact cz (oA ⟨rfl,rfl⟩)
 ·intro hl s1 v w3 hI;obtain⟨rfl,rfl⟩:=hI;refine ay _ (iu _)<|oC ?_;exact cz ⟨by simp,⟨_,_,rfl⟩⟩
 ·intro hl b2 q hq;obtain⟨u2,u7,rfl⟩:=hq;refine jl rfl ?_;exact eB _ (bL _ _) ⟨rfl,rfl⟩
 ·intro hl b2 q hq;obtain⟨u7,rfl⟩:=hq;refine tM rfl<|jl rfl ?_;exact eB _ (bL _ _) ⟨rfl,rfl⟩
def Ke (a0:iF):Option Int:=
 (E9 ([a0.eD,a0.to]:(List Int))).bind λr1=>
 if ¬(r1=0)then
  δ r1
 else
 if((((!((aX a0.start 0 36000000)))||(!((aX a0.cI 0 36000000))))||(!((aX a0.time 0 36000000))))||(!((aX (θ.wrap (θ.wrap (a0.start+a0.cI)+a0.time)) 0 36000000))))=η then
  δ 1
 else
 δ (qV a0.fA)
theorem ajW{a0:iF}{σ:Heap}{r:Int}(h:Ke a0=δ r):SJ [(Λ (gA a0))] σ=δ ((ε r),σ):=by
 refine ux (f:=SL) (y0:=(Λ (gA a0))) (enc:=λr:Int=>(ε r)) (T:=Ke a0) rfl rfl ?_ r h;unfold SL Ke;refine ay _ rfl<|ay _ rfl<|ay _ rfl<|ay (sl 1 nT ([a0.eD,a0.to]:(List Int))) rfl ?_;refine iJ (λr1:Int=>((ε r1),σ)) (λr1 iB=>aaU iB) (λr1 iB=>?_);refine ay _ (fN _ _ _) ?_;refine kE (p:=¬(r1=0)) (λc3=>?_) (λc3=>?_)
 ·exact eB _ (bL _ _) ⟨rfl,rfl⟩
 refine ay _ rfl<|ay _ (Kk (σ:=σ) (r:=(aX a0.start 0 36000000)) rfl)<|ay _ rfl<|fT (ε a0.cI) (λhg=>rfl)<|fT (i7 ((aX a0.cI 0 36000000))) (λhg=>by(try rw[hg]);exact(dL (Kk (σ:=σ) (r:=(aX a0.cI 0 36000000)) rfl)))<|fT (i7 (!((aX a0.cI 0 36000000)))) (λhg=>by(try rw[hg]);exact rfl)<|ay _ (rV _ _)<|fT (ε a0.time) (λhg=>rfl)<|fT (i7 ((aX a0.time 0 36000000))) (λhg=>by(try rw[hg]);exact(dL (Kk (σ:=σ) (r:=(aX a0.time 0 36000000)) rfl)))<|fT (i7 (!((aX a0.time 0 36000000)))) (λhg=>by(try rw[hg]);exact rfl)<|ay _ (rV _ _)<|fT (ε a0.start) (λhg=>rfl)<|fT (ε a0.cI) (λhg=>rfl)<|fT (ε (θ.wrap (a0.start+a0.cI))) (λhg=>by(try rw[hg]);exact rfl)<|fT (ε a0.time) (λhg=>rfl)<|fT (ε (θ.wrap (θ.wrap (a0.start+a0.cI)+a0.time))) (λhg=>by(try rw[hg]);exact rfl)<|fT (i7 ((aX (θ.wrap (θ.wrap (a0.start+a0.cI)+a0.time)) 0 36000000))) (λhg=>by(try rw[hg]);exact(dL (Kk (σ:=σ) (r:=(aX (θ.wrap (θ.wrap (a0.start+a0.cI)+a0.time)) 0 36000000)) rfl)))<|fT (i7 (!((aX (θ.wrap (θ.wrap (a0.start+a0.cI)+a0.time)) 0 36000000)))) (λhg=>by(try rw[hg]);exact rfl)<|ay _ (rV _ _) ?_;refine jE (c:=((((!((aX a0.start 0 36000000)))||(!((aX a0.cI 0 36000000))))||(!((aX a0.time 0 36000000))))||(!((aX (θ.wrap (θ.wrap (a0.start+a0.cI)+a0.time)) 0 36000000))))) (λc2=>?_) (λc2=>?_)
 ·exact eB _ (bL _ _) ⟨rfl,rfl⟩
 refine ay _ rfl<|ay _ (aa4 a0.fA σ) ?_;exact eB _ (bL _ _) ⟨rfl,rfl⟩
def Ks (a0:Int) (a1:Int):Option (Int×Int):=
 (E9 ([a0,a1]:(List Int))).bind λr1=>
 if ¬(r1=0)then
  δ (0,r1)
 else
 (Dt (θ.wrap (a0*a1)) 65535).bind λr2=>
 δ (r2,0)
theorem ak3{a0:Int}{a1:Int}{σ:Heap}{r:(Int×Int)}(h:Ks a0 a1=δ r):OA [(ε a0),(ε a1)] σ=δ ((XF [(ε r.1),(ε r.2)]),σ):=by
 refine uy (f:=aAl) (y0:=(ε a0)) (y1:=(ε a1)) (enc:=λr:(Int×Int)=>(XF [(ε r.1),(ε r.2)])) (T:=Ks a0 a1) rfl rfl ?_ r h;unfold aAl Ks;refine ay (sl 1 nT ([a0,a1]:(List Int))) rfl ?_;refine iJ (λr1:Int=>((ε r1),σ)) (λr1 iB=>aaU iB) (λr1 iB=>?_);refine ay _ (fN _ _ _) ?_;refine kE (p:=¬(r1=0)) (λc3=>?_) (λc3=>?_)
 ·exact eB _ (bL _ _) ⟨rfl,rfl⟩
 refine ay _ rfl ?_;refine iJ (λr2:Int=>((ε r2),σ)) (λr2 mg=>abn mg) (λr2 mg=>?_);exact eB _ (bL _ _) ⟨rfl,rfl⟩
end
section
open HP
theorem ate{s:List Sh}{ro:Sh}{r:AV->AV->AV->Heap->aC}{x y z v v':AV}{σ:Heap}(h:[x,y,z].any A.own=ι)(e1:UZ s [x,y,z]=[x,y,z])(e2:Wo ro v=v')(e:r x y z σ=δ (v,σ)):Ω η s ro (A.lJ r) [x,y,z] σ=δ (v',σ):=by refine wrap_eq h ?_ e2;rw[e1];exact e
theorem DS{x y X Y:Int}(hx:0<=x)(hx2:x<=X)(hy:0<=y)(hy2:y<=Y):0<=x*y/\x*y<=X*Y:=⟨Int.mul_nonneg hx hy,Int.mul_le_mul hx2 hy2 hy (by omega)⟩
def oq(l:List mS)(p q:Int):Nat->Nat->Nat
 |0,i=>i
 |f+1,i=>if i+2<l.length/\(l.getD (i+1) fu).time*q<=1000*p then oq l p q f (i+1)else i
def aBt(l:List mS)(p q:Int):Int:=(l.getD (oq l p q l.length 0) fu).way*((l.getD (oq l p q l.length 0+1) fu).time-(l.getD (oq l p q l.length 0) fu).time)*q+((l.getD (oq l p q l.length 0+1) fu).way-(l.getD (oq l p q l.length 0) fu).way)*(1000*p-(l.getD (oq l p q l.length 0) fu).time*q)
def Yf(l:List mS)(p q:Int):Int:=(l.getD (oq l p q l.length 0+1) fu).time-(l.getD (oq l p q l.length 0) fu).time
def pN(c:rR)(p q:Nat):Nat×Nat:=
 if c.kind=2 then(p*p,q*q)else if c.kind=3 then(p*(2*q-p),q*q)else if c.kind=4 then(p*p*(3*q-2*p),q*q*q)else if c.kind=5 then(if p<q then(0,1)else(1,1))
 else if c.kind=6 then((aBt c.bV p q).toNat,(1000*Yf c.bV p q).toNat*q)else(p,q)
structure agL (l : List mS) : Prop where
 two:2<=l.length
 len:l.length<=20
 bd:∀i,i<l.length->0<=(l.getD i fu).time/\(l.getD i fu).time<=1000/\0<=(l.getD i fu).way/\(l.getD i fu).way<=1000
 fst:(l.getD 0 fu).time=0
 lst:(l.getD (l.length-1) fu).time=1000
 ord:∀i,i+1<l.length->(l.getD i fu).time<(l.getD (i+1) fu).time/\(l.getD i fu).way<=(l.getD (i+1) fu).way
theorem at9{c:rR}(h:qV c=0)(h6:c.kind=6):agL c.bV:=by
 unfold qV at h;split at h
 ·cases h
 try rw[aO h6]at h
 split at h
 ·cases h
 split at h
 ·cases h
 rename_i h2 MK;unfold X1 at h;split at h
 ·cases h
 rename_i hb;split at h
 ·cases h
 rename_i hf;split at h
 ·cases h
 rename_i hl;split at h
 ·cases h
 rename_i ho
 have hb':∀p∈c.bV,FV p=ι:=by
  intro p hp;cases q:FV p
  ·rfl
  ·exact absurd (Tg.2 ⟨p,hp,q⟩) hb
 have hf:=aC2.1 hf;have hl:=aC2.1 hl;refine⟨by omega,by omega,λi hi=>?_,hf.1,hl.1,λi hi=>?_⟩
 ·have e:=DF hi;have:=hb' _ (cE e);unfold FV aX at this;simp only[oG,aCd,decide_eq_true_eq]at this;omega
 ·have h1:¬Gf c.bV (i+1)=η:=λq=>ho (Tg.2 ⟨i+1,by rw[List.mem_range'];exact⟨i,by omega,by omega⟩,q⟩)
  unfold Gf at h1;simp only[decide_eq_true_eq,Nat.add_sub_cancel]at h1;omega
theorem aeI{l:List mS}{p q:Int}:∀(f i:Nat),i+f=l.length->i+1<l.length->(l.getD i fu).time*q<=1000*p->oq l p q f i+1<l.length/\(l.getD (oq l p q f i) fu).time*q<=1000*p/\(1000*p<(l.getD (oq l p q f i+1) fu).time*q\/oq l p q f i+2=l.length)
 |0,i,h1,h2,_=>by omega
 |f+1,i,h1,h2,h3=>by
  rw[oq];split
  ·rename_i h;exact aeI f (i+1) (by omega) (by omega) h.2
  ·rename_i h;refine⟨h2,h3,?_⟩;by_cases h4:i+2<l.length
   ·exact .inl (Int.lt_of_not_ge λq=>h ⟨h4,q⟩)
   ·exact .inr (by omega)
theorem aqZ{l:List mS}(hl:agL l){p q:Int}(hp:0<=p)(hp2:p<=36000000)(hq:0<q)(zb:q<=36000000)(σ:Heap):∃r,p7 (azS (sl 2 gY l) (ε p) (ε q)) [.lbx [(Z6 .u64 0),(Z6 .u64 0)],.lbx [(Z6 .u64 0),(Z6 .u64 0)],.ah 0] σ=δ r/\r=(.exit 1,[.lbx [(Z6 .u64 0),(Z6 .u64 0)],.lbx [(Z6 .u64 0),(Z6 .u64 0)],.ah (oq l p q l.length 0:Nat)],σ):=by
 have MK:=hl.len;refine nO (λz v w=>∃i:Nat,v=[.lbx [(Z6 .u64 0),(Z6 .u64 0)],.lbx [(Z6 .u64 0),(Z6 .u64 0)],.ah (i:Int)]/\w=σ/\z=l.length-i/\i<=l.length/\oq l p q (l.length-i) i=oq l p q l.length 0) ?_ (n:=l.length) ⟨0,rfl,rfl,rfl,kD _,rfl⟩;rintro z v w ⟨i,rfl,rfl,hz,hi,hT⟩;try unfold azS
 simp only[bM,cg];rw[show Z8 (.ah (i:Int)) (.ah 2)=δ (.ah ((i+2:Nat):Int))from Dy (b:=2) (by omega),bS,fJ,bS,lp,bS];by_cases h1:i+2<l.length
 ·obtain⟨b1,b2,_,_⟩:=hl.bd (i+1) (by omega);have m1:=DS b1 b2 (Int.le_of_lt hq) zb;have ex:=DF (l:=l) (i:=i+1) (by omega);rw[cB (by omega)];simp only[gT,bS];rw[zX,cO (by unfold aU;omega),bS,show Z8 (.ah (i:Int)) (.ah 1)=δ (.ah ((i+1:Nat):Int))from Dy (b:=1) (by omega),bS,gy ex,bS,show p5 0 (.rp (gY (l.getD (i+1) fu)))=δ (.rp (gY (l.getD (i+1) fu)))from rfl,bS,pQ,bS,show φ 0 (gY (l.getD (i+1) fu))=δ (.ah (l.getD (i+1) fu).time)from rfl,bS,zX,cO (by unfold aU;omega),bS,qp,bS];simp only[nJ,bS];rw[show l.length-i=(l.length-(i+1))+1 by omega,oq]at hT;by_cases h2:(l.getD (i+1) fu).time*q<=1000*p
  ·rw[cB h2,cK];rw[aO ⟨h1,h2⟩]at hT;exact .inl ⟨l.length-(i+1),_,_,by omega,rfl,i+1,rfl,rfl,rfl,by omega,hT⟩
  ·rw[cm h2,cD];rw[aL (λq=>h2 q.2)]at hT;exact .inr ⟨_,rfl,by simp,by rw[hT]⟩
 ·rw[cm (by omega)];simp only[yX,bS,nI];rw[cD];refine .inr ⟨_,rfl,by simp,?_⟩
  have:oq l p q (l.length-i) i=i:=by
   cases hf:l.length-i with
   |zero=>rfl
   |succ f=>rw[oq,aL (λq=>h1 q.1)]
  rw[<-hT,this]
theorem C0{α:Type}{X:Option α}{v:α}(h:∃b,X=δ b/\b=v):X=δ v:=by obtain⟨b,h,rfl⟩:=h;exact h
theorem ahp{c:rR}(hc:qV c=0){p q:Nat}(hp:0<p)(hpq:p<q)(hq:q<=36000000)(σ:Heap):OL [.agg (nv c),.ah (p:Int),.ah (q:Int)] σ=δ (.aM [.agg (wd (pN c p q).1),.agg (wd (pN c p q).2)],σ)/\(pN c p q).1<=(pN c p q).2/\0<(pN c p q).2/\(pN c p q).2<100000000000000000000000000:=by
 have q2:q*q<=36000000*36000000:=Wa hq hq;have q3:q*q*q<=36000000*36000000*36000000:=Wa q2 hq;have ZK:0<q*q:=Nat.mul_pos (by omega) (by omega);have q3p:0<q*q*q:=Nat.mul_pos ZK (by omega);have pp:p*p<=q*q:=Wa (by omega) (by omega);have head:∀{v:AV},Wo .k v=v->True:=λ_=>trivial
 have go:(OS (.agg (nv c)) (.ah (p:Int)) (.ah (q:Int)) σ=δ (.aM [.agg (wd (pN c p q).1),.agg (wd (pN c p q).2)],σ))->OL [.agg (nv c),.ah (p:Int),.ah (q:Int)] σ=δ (.aM [.agg (wd (pN c p q).1),.agg (wd (pN c p q).2)],σ):=λh=>ate rfl (jD (uH rfl) rfl) (iI _) h
 suffices OS (.agg (nv c)) (.ah (p:Int)) (.ah (q:Int)) σ=δ (.aM [.agg (wd (pN c p q).1),.agg (wd (pN c p q).2)],σ)/\(pN c p q).1<=(pN c p q).2/\0<(pN c p q).2/\(pN c p q).2<100000000000000000000000000 from⟨go this.1,this.2⟩
 clear go head;unfold OS pN;rw[show ψ 2 (.agg (nv c))=δ (nv c)from rfl,bS,Bl (by omega),bS,zN (by omega) (by omega) (by omega),bS,pY,bS,rS,bS,show φ 0 (nv c)=δ (.ah c.kind)from rfl,bS,gK,bS];by_cases k2:c.kind=2
 ·rw[cB k2,cK,aO k2,dL (Bl (by omega) σ),bS,dL (zN (by omega) (by omega) (by omega) σ),bS,pq,bS,pY,bS,rS,bS,pY,bS,rS,bS,pq,bS,pq,bS];exact⟨bL _ _,pp,ZK,by omega⟩
 rw[cm k2,cD,aL k2,gK,bS];by_cases k3:c.kind=3
 ·have hm:p*(2*q-p)<=q*q:=by
   obtain⟨t,rfl⟩:∃t,q=p+t:=⟨q-p,by omega⟩
   rw[show 2*(p+t) -p=p+2*t by omega,XE,gu,XE,XE];have e1:p*(2*t)=p*t+p*t:=by rw[<-XE];congr 1;omega
   have e2:t*p=p*t:=Wx _ _;rw[e1,e2];omega
  rw[cB k3,cK,aO k3,dL (Bl (by omega) σ),bS,Il (by omega),bS,azU (by omega) (by omega),bS,dL (zN (by omega) (by omega) (by omega) σ),bS,pq,bS,pY,bS,rS,bS,pY,bS,rS,bS,pq,bS,pq,bS];exact⟨bL _ _,hm,ZK,by omega⟩
 rw[cm k3,cD,aL k3,gK,bS];by_cases k4:c.kind=4
 ·have hm:p*p*(3*q-2*p)<=q*q*q:=by
   obtain⟨t,rfl⟩:∃t,q=p+t:=⟨q-p,by omega⟩
   rw[show 3*(p+t) -2*p=p+3*t by omega]
   have e1:(p+t)*(p+t)*(p+t)=p*p*(p+3*t)+(3*p*(t*t)+t*t*t):=by
    simp only[gu,XE];have a1:p*p*(3*t)=p*p*t+p*p*t+p*p*t:=by rw[show 3*t=t+t+t by omega,XE,XE]
    have a2:p*t*p=p*p*t:=by rw[Nat.mul_right_comm]
    have a3:t*p*p=p*p*t:=by rw[Wx t p,Nat.mul_right_comm]
    have a4:t*p*t=p*(t*t):=by rw[Wx t p,aB3]
    have a5:p*t*t=p*(t*t):=aB3 _ _ _;have a6:t*t*p=p*(t*t):=Wx _ _;have a7:3*p*(t*t)=p*(t*t)+p*(t*t)+p*(t*t):=by rw[show 3*p=p+p+p by omega,gu,gu]
    rw[a1,a2,a3,a4,a5,a6,a7];omega
   rw[e1];omega
  rw[cB k4,cK,aO k4,dL (Bl (by omega) σ),bS,dL (zN (by omega) (by omega) (by omega) σ),bS,show WR (.ah 3) (.ah (q:Int))=δ (.ah ((3*q:Nat):Int))from ao3 (a:=3) (by omega),bS,Il (by omega),bS,azU (by omega) (by omega),bS,dL (zN (by omega) (by omega) (by omega) σ),bS,pq,bS,dL (zN (by omega) (by omega) (by omega) σ),bS,pY,bS,rS,bS,pY,bS,rS,bS,pq,bS,pq,bS];exact⟨bL _ _,hm,q3p,by omega⟩
 rw[cm k4,cD,aL k4,gK,bS];by_cases k5:c.kind=5
 ·rw[cB k5,cK,aO k5,lp,bS,cB (by omega),cK,aO hpq,show qN [.ah 0] σ=δ (.agg (wd 0),σ)from Bl (n:=0) (by omega) σ,bS];simp only;rw[show qN [.ah 1] σ=δ (.agg (wd 1),σ)from Bl (n:=1) (by omega) σ,bS];simp only;rw[pY,bS,rS,bS,pY,bS,rS,bS,pq,bS,pq,bS];exact⟨bL _ _,by omega,by omega,by omega⟩
 rw[cm k5,cD,aL k5,gK,bS];by_cases k6:c.kind=6
 ·rw[cB k6,cK,aO k6,show φ 1 (nv c)=δ (sl 2 gY c.bV)from rfl,bS];have hl:=at9 hc k6;have MK:=hl.len;obtain⟨s1,s2,s3⟩:=aeI (l:=c.bV) (p:=(p:Int)) (q:=(q:Int)) c.bV.length 0 (by omega) (by have:=hl.two;omega) (by rw[hl.fst];omega);generalize hI:oq c.bV (p:Int) (q:Int) c.bV.length 0=i at s1 s2 s3;obtain⟨a1,a2,a3,a4⟩:=hl.bd i (by omega);obtain⟨b1,b2,b3,b4⟩:=hl.bd (i+1) s1;obtain⟨o1,o2⟩:=hl.ord i s1;have exA:=DF (l:=c.bV) (i:=i) (by omega);have Jz:=DF (l:=c.bV) (i:=i+1) s1;have eN:aBt c.bV (p:Int) (q:Int)=(c.bV.getD i fu).way*((c.bV.getD (i+1) fu).time-(c.bV.getD i fu).time)*(q:Int)+((c.bV.getD (i+1) fu).way-(c.bV.getD i fu).way)*(1000*(p:Int) -(c.bV.getD i fu).time*(q:Int)):=by unfold aBt;rw[hI]
  have eL:Yf c.bV (p:Int) (q:Int)=(c.bV.getD (i+1) fu).time-(c.bV.getD i fu).time:=by unfold Yf;rw[hI]
  have hbt:1000*(p:Int)<=(c.bV.getD (i+1) fu).time*(q:Int):=by
   rcases s3 with s3|s3
   ·omega
   ·have:=hl.lst;rw[show c.bV.length-1=i+1 by omega]at this;rw[this];omega
  rw[eN,eL];generalize hA:c.bV.getD i fu=pa at exA a1 a2 a3 a4 o1 o2 s2;generalize hB:c.bV.getD (i+1) fu=pb at Jz b1 b2 b3 b4 o1 o2 hbt;obtain⟨T,hT⟩:∃T,T=pb.time-pa.time:=⟨_,rfl⟩
  obtain⟨D,hD⟩:∃D,D=pb.way-pa.way:=⟨_,rfl⟩
  have m1:=DS a1 a2 (show(0:Int)<=(q:Int) by omega) (show(q:Int)<=36000000 by omega);obtain⟨U,hU⟩:∃U,U=1000*(p:Int) -pa.time*(q:Int):=⟨_,rfl⟩
  have m2:=DS a3 a4 (show 0<=T by omega) (show T<=1000 by omega);have m3:=DS m2.1 m2.2 (show(0:Int)<=(q:Int) by omega) (show(q:Int)<=36000000 by omega);have m4:=DS (show 0<=D by omega) (show D<=1000 by omega) (show 0<=U by omega) (show U<=36000000000 by omega);have m5:=DS (show 0<=T by omega) (show T<=1000 by omega) (show(0:Int)<=(q:Int) by omega) (show(q:Int)<=36000000 by omega);have hUT:U<=T*(q:Int):=by rw[hT,Int.sub_mul];omega
  have m6:D*U<=D*(T*(q:Int)):=Int.mul_le_mul_of_nonneg_left hUT (by omega);have m7:pb.way*(T*(q:Int))<=1000*(T*(q:Int)):=Int.mul_le_mul_of_nonneg_right b4 m5.1;have m8:pa.way*T*(q:Int)+D*(T*(q:Int))=pb.way*(T*(q:Int)):=by rw[hD,Int.sub_mul,Int.mul_assoc];omega
  rw[<-hT,<-hD,<-hU];have t1:0<T:=by omega
  have t2:0<T*(q:Int):=Int.mul_pos t1 (by omega);have sP:(((1000*T).toNat*q:Nat):Int)=1000*(T*(q:Int)):=by rw[aCE,SN (by omega),Int.mul_assoc]
  refine⟨C0 (yw (aqZ hl (p:=(p:Int)) (q:=(q:Int)) (by omega) (by omega) (by omega) (by omega) σ) ?_),by show(_:Nat)<=_;omega,by show 0<(_:Nat);omega,by show(_:Nat)<_;omega⟩;rintro r rfl;simp only[mB,bM,cg];rw[hI,gy exA,bS,pQ,bS,Fl,bS,show Z8 (.ah (i:Int)) (.ah 1)=δ (.ah ((i+1:Nat):Int))from Dy (b:=1) (by omega),bS,gy Jz,bS,pQ,bS,Fl,bS,Fi,bS,Fo _ _ rfl,bS,Fi,bS,Fo _ _ rfl,bS];rw[show φ 0 (gY pb)=δ (.ah pb.time)from rfl,bS,show φ 0 (gY pa)=δ (.ah pa.time)from rfl,bS,mV,cO (by unfold aU;omega),<-hT,bS,show φ 1 (gY pa)=δ (.ah pa.way)from rfl,bS,zX,cO (by unfold aU;omega),bS,zX,cO (by unfold aU;omega),bS,show φ 1 (gY pb)=δ (.ah pb.way)from rfl,bS,bS,mV,cO (by unfold aU;omega),<-hD,bS,zX,cO (by unfold aU;omega),bS,bS,zX,cO (by unfold aU;omega),bS,mV,cO (by unfold aU;omega),<-hU,bS,zX,cO (by unfold aU;omega),bS,lU,cO (by unfold aU;omega),bS]
  have of1:∀w,qN [.ah (pa.way*T*(q:Int)+D*U)] w=δ (.agg (wd (pa.way*T*(q:Int)+D*U).toNat),w):=λw=>by have:=Bl (n:=(pa.way*T*(q:Int)+D*U).toNat) (by omega) w;rwa[SN (by omega)]at this
  have of2:∀w,qN [.ah (1000*T)] w=δ (.agg (wd (1000*T).toNat),w):=λw=>by have:=Bl (n:=(1000*T).toNat) (by omega) w;rwa[SN (by omega)]at this
  rw[of1,bS,zX,cO (by unfold aU;omega),bS];simp only;rw[of2,bS];simp only;rw[zN (by omega) (by omega) (by omega),bS];simp only;rw[show ZE (.lbx [(Z6 .u64 0),(Z6 .u64 0)])=δ [(Z6 .u64 0),(Z6 .u64 0)]from rfl,bS,pY,bS,rS,bS,bS,pY,bS,rS,bS,pq,bS,pq,bS];exact⟨_,bL _ _,rfl⟩
 ·rw[cm k6,cD,aL k6,Bl (by omega),bS,Bl (by omega),bS,pY,bS,rS,bS,pY,bS,rS,bS,pq,bS,pq,bS];exact⟨bL _ _,by omega,by omega,by omega⟩
end
section
open HP
structure uB (f : iF) : Prop where
 a:0<=f.eD/\f.eD<=65535
 b:0<=f.to/\f.to<=65535
 s:0<=f.start/\f.start<=36000000
 d:0<=f.cI/\f.cI<=36000000
 t:0<=f.time/\f.time<=36000000
 e:f.start+f.cI+f.time<=36000000
 c:qV f.fA=0
def GX (f:iF) (t:Int):Int:=
 if f.start+f.cI+f.time<=t then f.to
 else if t<=f.start+f.cI then f.eD
 else Gj f.eD f.to (pN f.fA (t-(f.start+f.cI)).toNat f.time.toNat).1 (pN f.fA (t-(f.start+f.cI)).toNat f.time.toNat).2
theorem Fv{s:List Sh}{ro:Sh}{r:AV->AV->Heap->aC}{x y z v v':AV}{σ:Heap}(h:[x,y].any A.own=ι)(e1:UZ s [x,y]=[x,y])(e2:Wo ro v=v')(e:r x y σ=δ (v,σ)):Ω η s ro (YS r) [x,y] σ=δ (v',σ):=by refine wrap_eq h ?_ e2;rw[e1];exact e
theorem avt{f:iF}(h:uB f)(t:Int)(σ:Heap):Ur [.agg (gA f),.ah t] σ=δ (.ah (GX f t),σ):=by
 obtain⟨a1,a2⟩:=h.a;obtain⟨b1,b2⟩:=h.b;obtain⟨s1,s2⟩:=h.s;obtain⟨d1,d2⟩:=h.d;obtain⟨t1,t2⟩:=h.t;have he:=h.e;refine Fv (z:=.ah 0) rfl (jD (uH rfl) rfl) (iI _) ?_;unfold acz GX;rw[Fq,bS,O0,bS,aAF,bS,lU,cO (by unfold aU;omega),bS,acs,bS,lU,cO (by unfold aU;omega),bS,qp,bS];by_cases h1:f.start+f.cI+f.time<=t
 ·rw[cB h1,cK,aO h1,acr,bS];exact bL _ _
 rw[cm h1,cD,aL h1,QT,bS];by_cases h2:t<=f.start+f.cI
 ·rw[cB h2,cK,aO h2,acq,bS];exact bL _ _
 rw[cm h2,cD,aL h2,akG,bS,mV,cO (by unfold aU;omega),bS,bS];obtain⟨w,l1,l2,l3⟩:=ahp h.c (p:=(t-(f.start+f.cI)).toNat) (q:=f.time.toNat) (by omega) (by omega) (by omega) σ;rw[SN (by omega),SN (by omega)]at w;rw[w,bS];simp only;generalize pN f.fA (t-(f.start+f.cI)).toNat f.time.toNat=nd at l1 l2 l3 ⊢;rw[jZ,bS,ext1,bS,pY,bS,rS,bS,pY,bS,rS,bS,acq,bS,acr,bS,pq,bS,pq,bS,aq0 a1 a2 b1 b2 l2 l1 l3,bS];exact bL _ _
end
section
open HP
theorem Fu{s:List Sh}{ro:Sh}{r:AV->Heap->aC}{x v v':AV}{σ:Heap}(h:[x].any A.own=ι)(e1:UZ s [x]=[x])(e2:Wo ro v=v')(e:r x σ=δ (v,σ)):Ω η s ro (ZY r) [x] σ=δ (v',σ):=by refine wrap_eq h ?_ e2;rw[e1];exact e
theorem Hf{n lo hi:Int}(h1:lo<=n)(h2:n<=hi):aX n lo hi=η:=by unfold aX;exact cB ⟨h1,h2⟩
theorem uG(cs:an):SD (.rp cs)=δ (.rp cs):=rfl
theorem nU(k:Nat)(cs:an):p5 k (.rp cs)=δ (.rp (cs.drop k)):=rfl
theorem ado{a b:Int}(h1:0<=a/\a<=65535)(h2:0<=b/\b<=65535):E9 [a,b]=δ 0:=by unfold E9;rw[BP (f:=λ_ n=>if(!(aX n 0 65535))=η then 1 else 0) (by show 2<=aZ;decide) (λi x _=>by show(if _ then _ else _)=_;by_cases h:(!(aX x 0 65535))=η<;>simp only[h,if_true,if_false]<;>rfl)];simp only[iW,Hf h1.1 h1.2,Hf h2.1 h2.2];rfl
theorem atq{f:iF}(h:uB f):Ke f=δ 0:=by obtain⟨s1,s2⟩:=h.s;obtain⟨d1,d2⟩:=h.d;obtain⟨t1,t2⟩:=h.t;have he:=h.e;unfold Ke;rw[ado h.a h.b,aP,aL (λq=>q rfl),Hf s1 s2,Hf d1 d2,Hf t1 t2,show θ.wrap (f.start+f.cI)=f.start+f.cI from cO (by unfold aU;omega),cO (by unfold aU;omega),Hf (by omega) he,h.c];rfl
theorem auv{f:iF}(h:uB f){t:Int}(ht:0<=t)(ht2:t<=36000000)(σ:Heap):azh [.agg (gA f),.ah t] σ=δ (.aM [.ah (GX f t),.ah 0],σ):=by refine Fv (z:=.ah 0) rfl (jD (uH rfl) rfl) (iI _) ?_;unfold acy;rw[Fq,bS,Is,bS,ajW (atq h),bS];simp only;rw[Kk (r:=η) (by unfold Ox;rw[Hf ht ht2]),bS];simp only;rw[ah9,bS,oZ,bS];simp only;rw[show((((Θ (.ah 0)).bind λv=>δ [v]).bind λc7=>(Φ 0 c7 [(ε 0),(ε 0)]).bind λc8=>((Θ (.ah (if ι=η then 1 else 0))).bind λv=>δ [v]).bind λc9=>(Φ 1 c9 c8).bind λfM=>δ fM).bind λcs=>δ (SQ 1 (gd 1 2 cs)))=δ (sl 1 nT [0,0])from rfl,bS,wO _ (by decide),bS];simp only;rw[show((S4 (λn=>decide (¬n=0)) ([0,0]:List Int)).getD 0)=0 from rfl,ahv,bS,cm (λq=>q rfl),cD,bS,avt h,bS];exact bL _ _
def xU (r:cS) (c:Int):Int:=GX r.gG (if 36000000<c then 36000000 else c)
theorem Le{r:cS}(h:uB r.gG){c:Int}(hc:0<=c)(σ:Heap):Dm [.agg (fQ r),.ah c] σ=δ (.ah (xU r c),σ):=by refine Fv (z:=.ah 0) rfl (jD (uH rfl) rfl) (iI _) ?_;unfold aaI;rw[zD,bS,aa7,bS,show A.min (.ah c) (.ah 36000000)=δ (.ah (if 36000000<c then 36000000 else c))from rfl,bS,auv h (by split<;>omega) (by split<;>omega),bS,jZ,bS,ext1,bS];exact bL _ _
def dU(c:BZ)(t:Int):Int:=if c.gQ=η then c.shown else θ.wrap (θ.wrap (c.shown+t) -c.since)
theorem LA(c:BZ)(t:Int)(σ:Heap):zq [.agg (wS c),.ah t] σ=δ (.ah (dU c t),σ):=by
 refine Qb rfl ?_;unfold aaO dU;rw[UL,bS,amg,bS];cases c.gQ
 ·rw[cD,aL (by decide),abS,bS,lU,bS,amf,bS,mV,bS];exact bL _ _
 ·rw[cK,aO rfl,abS,bS];exact bL _ _
def X5(r:cS):Int:=θ.wrap (θ.wrap (r.gG.start+r.gG.cI)+r.gG.time)
theorem auK(r:cS)(σ:Heap):aAb [.agg (fQ r)] σ=δ (.ah (X5 r),σ):=by refine Fu rfl (jD (uH rfl) rfl) (iI _) ?_;unfold aaY;rw[zD,bS,anF,bS,anG,bS,lU,bS,anH,bS,lU,bS];exact bL _ _
def gq(b:bk):Int:=if b.cM<0\/b.aJ.gQ=η then -1 else θ.wrap (θ.wrap (b.aJ.since+b.cM) -b.aJ.shown)
theorem ag5(b:bk)(σ:Heap):Dl [.rp (aQ b)] σ=δ (.ah (gq b),σ):=by
 refine Fu rfl rfl (iI _) ?_;unfold aaH gq;rw[uG,bS,nU,bS,abD,bS,lp,bS];by_cases hf:b.cM<0
 ·rw[cB hf];simp only[Ax,bS,nJ];rw[cK,aO (.inl hf)];exact bL _ _
 rw[cm hf];simp only[gF,bS,uG,nU,nI,Tq,al2];cases hs:b.aJ.gQ
 ·rw[cD,aL (λq=>q.elim hf (λq=>by cases q))];simp only[al1,show ∀(x:bk){σ:Heap},((χ (.rp (aQ x)) σ).bind λc=>φ 0 c)=δ (.ah x.aJ.shown)from λ_ _=>rfl,abD,bS,lU,mV];exact bL _ _
 ·rw[cK,aO (.inr rfl)];exact bL _ _
end
section
open HP
theorem gU(X:Option AV)(w:Bool)(d:Option AV):μ (.aM []) w X d=d:=by have h:μ (.aM []) w X d=d:=rfl;exact h.trans (aCk d)
theorem vX(b:Bool):Yr (.bool b)=δ (.bool (!b)):=rfl
section
variable {κ ν : Type} [DecidableEq κ] {ek : A.EK} {eK : κ -> AV} {eV : ν -> AV} {σ : Heap} {o : Option (List (κ × ν))}
theorem anb(hq:∀a b,Uj ek (eK a) (eK b)=δ (decide (a=b)))(x:κ)(z:AV)(hok:A.kK ek (eK x)=η):A.FI ek (oS eK eV o) (eK x) z σ=δ (.aM [((dO x (o.getD [])).map eV).getD z,.bool (dO x (o.getD [])).isSome]):=by
 cases o with
 |none=>simp only[A.FI,oS,hok,cA,Tn,aP,Va,dO];rfl
 |some l=>simp only[A.FI,oS,xH,hok,cA,Tn,aP,DP hq,cq,SG,Option.isSome_map]
theorem ap7(hq:∀a b,Uj ek (eK a) (eK b)=δ (decide (a=b)))(x:κ)(z:AV)(hok:A.kK ek (eK x)=η):WK ek (oS eK eV o) (eK x) z σ=δ (((dO x (o.getD [])).map eV).getD z):=by
 cases o with
 |none=>simp only[WK,oS,hok,cA,Tn,aP,Va,dO];rfl
 |some l=>simp only[WK,oS,xH,hok,cA,Tn,aP,DP hq,cq,SG]
end
def avm:cS:=⟨⟨0,0,0,0,0,⟨0,[]⟩⟩,0,ι⟩
def dX(b:bk)(k:aI)(c:Int):cS×Bool:=match dO k (b.runs.getD [])with
 |none=>(avm,ι)
 |some r=>(r,!(r.ending&&decide (X5 r<=c)))
abbrev pI:an:=[(ε 0),(ε 0),(ε 0),(ε 0),(ε 0),(ε 0),i6,(ε 0),aY]
theorem Lw{ro:Sh}{r:AV->AV->AV->Heap->aC}{x y z v v':AV}{σ σ':Heap}(e2:Wo ro v=v')(e:r x y z σ=δ (v,σ')):Ω ι [] ro (A.lJ r) [x,y,z] σ=δ (v',σ'):=by have:A.lJ r [x,y,z] σ=δ (v,σ'):=e;simp only[Ω,Uu,bK,UZ,this,cq,e2]
theorem aBq{p q:AV}(b:bk)(k:aI)(c:Int)(σ:Heap)(h1:SD p=δ p)(h2:p5 9 p=δ q)(h3:((χ q σ).bind λc=>φ 0 c)=δ (oS (λx=>Λ (aV x)) (λx=>Λ (fQ x)) b.runs)):uq [p,.agg (aV k),.ah c] σ=δ (.aM [.agg (fQ (dX b k c).1),.bool (dX b k c).2],σ):=by
 suffices ∃v,Wo (.t [(.a [.k,.k,.k,.k,.k,.k,(.s 2),.k,.k]),.k]) v=.aM [.agg (fQ (dX b k c).1),.bool (dX b k c).2]/\SC p (.agg (aV k)) (.ah c) σ=δ (v,σ) by obtain⟨v,h1,h2⟩:=this;exact Lw h1 h2
 unfold SC dX;rw[Iv,bS,h1,bS,h2,bS,h3,bS,uA,bS,anb tI k _ rfl,bS,jZ,bS,ext1,bS];cases dO k (b.runs.getD [])with
 |none=>refine⟨.aM [.agg pI,.bool ι],rfl,?_⟩;simp only[SX,Va,Option.isSome_none];rw[show ψ 9 (.agg pI)=δ pI from rfl,bS,show Φ 0 pI pI=δ pI from rfl,bS,show l7 0 9 pI=δ (.agg pI)from rfl,bS];simp only[yX,gU,bS,nI,show ψ 9 (.agg pI)=δ pI from rfl,show Φ 0 pI pI=δ pI from rfl,show l7 0 9 pI=δ (.agg pI)from rfl];exact bL _ _
 |some r=>
  refine⟨.aM [.agg (fQ r),.bool (!(r.ending&&decide (X5 r<=c)))],rfl,?_⟩;simp only[cq,SG,Option.isSome_some];rw[zD,bS,BS _ _ rfl,bS,ym,bS];simp only[gT,bS,KJ];cases he:r.ending
  ·simp only[yX,bS,nI,nJ,vX,zD,ym,BS r _ (show pI.length=9 from rfl)];exact bL _ _
  ·simp only[gT,bS,ym,dL (auK r σ),qp];simp only[bS,nJ,vX,zD,ym,BS r _ (show pI.length=9 from rfl)];exact bL _ _
theorem apW(b:bk)(k:aI)(c:Int)(σ:Heap):uq [.rp (aQ b),.agg (aV k),.ah c] σ=δ (.aM [.agg (fQ (dX b k c).1),.bool (dX b k c).2],σ):=aBq b k c σ rfl rfl (HX b)
def mn(a b:Int):Int:=if b<a then b else a
theorem azI(a b:Int):A.min (.ah a) (.ah b)=δ (.ah (mn a b)):=rfl
def vU(f:iF):iF:={f with start:=mn f.start 36000000,cI:=mn f.cI (θ.wrap (36000000-mn f.start 36000000)),time:=mn f.time (θ.wrap (θ.wrap (36000000-mn f.start 36000000) -mn f.cI (θ.wrap (36000000-mn f.start 36000000))))}
abbrev B8:an:=[(ε 0),(ε 0),(ε 0),(ε 0),(ε 0),(ε 0),i6]
theorem qX(n:Int):((Θ (.ah n)).bind λv=>δ [v])=δ [.ah n]:=rfl
theorem avj(f:iF)(n:Int):Φ 2 [.ah n] (gA f)=δ (gA {f with start:=n}):=rfl
theorem ahk(f:iF)(n:Int):Φ 3 [.ah n] (gA f)=δ (gA {f with cI:=n}):=rfl
theorem LL(f:iF)(n:Int):Φ 4 [.ah n] (gA f)=δ (gA {f with time:=n}):=rfl
theorem azn(f:iF)(σ:Heap):yh [.agg (gA f)] σ=δ (.agg (gA (vU f)),σ):=by refine Fu rfl (jD (uH rfl) rfl) (v:=.agg (gA (vU f))) rfl ?_;unfold acA vU;rw[Fq,bS,O0,bS,azI,bS,qX,bS,avj,bS,aAF,bS,O0,bS,mV,bS,azI,bS,qX,bS,ahk,bS,acs,bS,O0,bS,mV,bS,aAF,bS,mV,bS,azI,bS,qX,bS,LL,bS,Is,bS,Fq,bS,PJ _ _ rfl,bS,Is,bS];exact bL _ _
end
end
end Go.Proofs.YtmjgmpmhipenjaaGreat
