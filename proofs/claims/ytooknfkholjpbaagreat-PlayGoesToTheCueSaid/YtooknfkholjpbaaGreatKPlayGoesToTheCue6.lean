/- Parts of the proof of PlayGoesToTheCue, in order. -/
import Derived.WalkSpells
import Derived.ProofKit
import Derived.OpenShut
import Derived.Lib.Hide
import Derived.Lib.SmallJoins
import Derived.Deep.QuietTactic
import Derived.BigQuiet
import Derived.Deep.RegionHeld3
import Derived.Deep.Slices
import Derived.Test.YtooknfkholjpbaaGreatKPlayGoesToTheCue5
namespace Go.Proofs.YtooknfkholjpbaaGreat
set_option linter.unusedVariables false
set_option linter.unusedSimpArgs false
set_option linter.unusedSectionVars false
set_option maxRecDepth 1000000
noncomputable section
open AV renaming ah->ε,bool->Λ,int->Wz,op->Yy,agg->Φ,aA->Zg,rp->ZN,str->Xo,om->XP,sl->Yh,aM->Yu,lbx->VD
open A renaming look->Yt,eql->ZA,fin->wh,cells->ψ,dw->TQ,bI->ZP,aQ->WC,entries->US,find->Wh,cM->Xw,tab->Zw,cell->Ψ,bu->UY,gz->WN,eo->YR,bw->Zo,neq->UP,aD->VU,aB->ir,nn->Y9,deref->χ,loop->Y7,storeAt->XZ,eA->Wf,cond->φ,append->WK,wrap->Ω,bV->X4,ak->Γ
open aW renaming map->Z0,box->Vs
open List renaming any_eq_true->VK,range'_succ->aDW,drop_zero->Zz,map_append->Z6,mem_singleton->TV,find?_cons->aDr,pairwise_map->TO,find?_some->aEg,getElem?_drop->ZW,foldl_cons->V4,length->WD,append_nil->VT,getD->U1,find?_eq_none->T0,drop_length->aDp,getElem_of_mem->Vb,range_eq_range'->Un,foldl_nil->aDM,length_map->X1,drop_eq_getElem_cons->UG,map_nil->Vl,all_cons->aDz,length_cons->YZ,getElem_mem->aDo,length_singleton->Wa,map_map->YG,filterMap_cons->V5,filterMap_append->XY,take_add_one->TC,length_set->aDd,getElem?_set_ne->XX,range'->YO,find?->Xx,map_congr_left->Yq,take_append_drop->YN,take_length->UN,filterMap_nil->UJ,flatMap_cons->Xm,map->Y0,mem_filterMap->ZJ,set_set->Vp,length_append->ZY,mem_append_left->Vu,getD_eq_getElem?_getD->aC3
open Option renaming getD_some->WU,some->δ,bind->aDN,none->μ,getD_none->WO,map_none->Zc,toList_some->aDy,elim_some->aDn
open Nat renaming zero_add->YW,sub_self->Yp,le_succ_of_le->Uj,le_trans->UT,not_lt_zero->aCX
open Go.World renaming cell?->Xd
open Bool renaming true->θ,not_false->Yx,false_eq_true->YQ,not_eq_true'->UK,not_eq_false->aDb,true_and->aDh,false->ι,and_false->Wc,false_and->U7
open Go.IntKind renaming i64->ξ
open List.cons renaming injEq->aCW
open Classical renaming choose->To,choose_spec->Vm
open False renaming elim->aC6
open Int renaming le_refl->ZC,toNat_natCast->TS
open IntKind renaming i64->ξ
open AX renaming exit->Ξ,ret->YP
open Go.DataW renaming trod_struct->ZZ
open Option.some renaming injEq->Θ
section
def aB5 (a0:pH) (a1:iE):Option Bool:=δ (decide (a0.az=a1.kZ))
theorem ajv{a0:pH}{a1:iE}{σ:Heap}{r:Bool}(h:aB5 a0 a1=δ r):Lq [(Φ (dA a0)),(ZN (dR a1))] σ=δ ((Λ r),σ):=by refine rW (f:=TD) (y0:=(Φ (dA a0))) (y1:=(ZN (dR a1))) (enc:=λr:Bool=>(Λ r)) (T:=aB5 a0 a1) rfl rfl ?_ r h;unfold TD aB5;refine an _ rfl<|an _ rfl<|an _ rfl<|an _ rfl<|an _ (jL _ _ _) ?_;exact dI _ (bD _ _) ⟨rfl,rfl⟩
def F7 (a0:iE):Option Int:=
 if(!(aT a0.kind 1 9))=θ then
  δ 4
 else
 if(((((decide (a0.kind=8))||(decide (a0.kind=9)))&&(decide (¬(a0.kZ=0))))||((decide (¬(a0.kind=3)))&&(decide (¬(a0.cK=0)))))||((!((((decide (a0.kind=8))||(decide (a0.kind=9)))||(decide (a0.kind=6)))||(decide (a0.kind=7))))&&(decide (¬(a0.level=0)))))=θ then
  δ 3
 else
 δ 0
theorem ajQ{a0:iE}{σ:Heap}{r:Int}(h:F7 a0=δ r):PO [(Φ (dR a0))] σ=δ ((ε r),σ):=by
 refine yj (f:=TT) (y0:=(Φ (dR a0))) (enc:=λr:Int=>(ε r)) (T:=F7 a0) rfl rfl ?_ r h;unfold TT F7;refine an _ rfl<|an _ rfl<|an _ (mL a0.kind 1 9 σ)<|an _ rfl ?_;refine gy (c:=(!(aT a0.kind 1 9))) (λc2=>?_) (λc2=>?_)
 ·exact dI _ (bD _ _) ⟨rfl,rfl⟩
 refine an _ rfl<|an _ (jL _ _ _)<|ew (ε a0.kind) (λhg=>rfl)<|ew (Λ (decide (a0.kind=9))) (λhg=>by(try rw[hg]);exact(jL _ _ _))<|an _ (nO _ _)<|ew (ε a0.kind) (λhg=>rfl)<|ew (Λ (decide (a0.kind=6))) (λhg=>by(try rw[hg]);exact(jL _ _ _))<|an _ (nO _ _)<|ew (ε a0.kind) (λhg=>rfl)<|ew (Λ (decide (a0.kind=7))) (λhg=>by(try rw[hg]);exact(jL _ _ _))<|an _ (nO _ _)<|bX (ε a0.kZ) (λhg=>rfl)<|bX (Λ (decide (¬(a0.kZ=0)))) (λhg=>by(try rw[hg]);exact(fV _ _ _))<|an _ (mO _ _)<|ew (ε a0.kind) (λhg=>rfl)<|ew (Λ (decide (¬(a0.kind=3)))) (λhg=>by(try rw[hg]);exact(fV _ _ _))<|ew (Λ (decide (¬(a0.kind=3)))) (λhg=>by(try rw[hg]);exact rfl)<|AO (ε a0.cK) (λhg=>rfl)<|AO (Λ (decide (¬(a0.cK=0)))) (λhg=>by(try rw[hg]);exact(fV _ _ _))<|ew (Λ ((decide (¬(a0.kind=3)))&&(decide (¬(a0.cK=0))))) (λhg=>by(try rw[hg]);exact(mO _ _))<|an _ (nO _ _)<|ew (Λ ((((decide (a0.kind=8))||(decide (a0.kind=9)))||(decide (a0.kind=6)))||(decide (a0.kind=7)))) (λhg=>rfl)<|ew (Λ (!((((decide (a0.kind=8))||(decide (a0.kind=9)))||(decide (a0.kind=6)))||(decide (a0.kind=7))))) (λhg=>by(try rw[hg]);exact rfl)<|ew (Λ (!((((decide (a0.kind=8))||(decide (a0.kind=9)))||(decide (a0.kind=6)))||(decide (a0.kind=7))))) (λhg=>by(try rw[hg]);exact rfl)<|AO (ε a0.level) (λhg=>rfl)<|AO (Λ (decide (¬(a0.level=0)))) (λhg=>by(try rw[hg]);exact(fV _ _ _))<|ew (Λ ((!((((decide (a0.kind=8))||(decide (a0.kind=9)))||(decide (a0.kind=6)))||(decide (a0.kind=7))))&&(decide (¬(a0.level=0))))) (λhg=>by(try rw[hg]);exact(mO _ _))<|an _ (nO _ _) ?_;refine gy (c:=(((((decide (a0.kind=8))||(decide (a0.kind=9)))&&(decide (¬(a0.kZ=0))))||((decide (¬(a0.kind=3)))&&(decide (¬(a0.cK=0)))))||((!((((decide (a0.kind=8))||(decide (a0.kind=9)))||(decide (a0.kind=6)))||(decide (a0.kind=7))))&&(decide (¬(a0.level=0)))))) (λc1=>?_) (λc1=>?_)
 ·exact dI _ (bD _ _) ⟨rfl,rfl⟩
 exact dI _ (bD _ _) ⟨rfl,rfl⟩
def F8 (a0:i7) (a1:iE):Option Int:=
 (if(!((decide (a1.kind=8))||(decide (a1.kind=9))))=θ then tq (a0.bM.length<=aZ) (a0.bM.any (λx=>(decide (x.az=a1.kZ))))else δ default).bind λr1=>
 if((!((decide (a1.kind=8))||(decide (a1.kind=9))))&&(!r1))=θ then
  δ 8
 else
 (show Option Int from
   if a1.kind=6 then
    δ 36000000
   else
   (show Option Int from
     if a1.kind=9 then
      δ 1
     else
     δ 65535).bind λj3=>
   δ j3).bind λj7=>
 δ (if(!(aT a1.level 0 j7))=θ then 1 else 0)
theorem ajR{a0:i7}{a1:iE}{σ:Heap}{r:Int}(h:F8 a0 a1=δ r):PR [(Φ (cm a0)),(Φ (dR a1))] σ=δ ((ε r),σ):=by
 refine rW (f:=PS) (y0:=(Φ (cm a0))) (y1:=(Φ (dR a1))) (enc:=λr:Int=>(ε r)) (T:=F8 a0 a1) rfl rfl ?_ r h;unfold PS F8;refine an _ rfl<|an _ rfl<|an _ rfl<|an _ rfl<|an _ (jL _ _ _)<|ew (ZN (List.drop 1 (dR a1))) (λhg=>rfl)<|ew (ε a1.kind) (λhg=>by(try rw[hg]);exact rfl)<|ew (Λ (decide (a1.kind=9))) (λhg=>by(try rw[hg]);exact(jL _ _ _))<|an _ (nO _ _)<|an _ rfl<|bX (sl 3 dA a0.bM) (λhg=>rfl)<|bX (AV.fn 152 [(ZN (dR a1))]) (λhg=>rfl) ?_;refine tE (ω:=Bool) (λr1=>(Λ r1)) (λhg r1 jE=>by(try rw[hg]);exact(eH ((tJ (e:=λr:Bool=>((Λ r),σ)) (λhs=>aih _ a0.bM hs _ _ (λx=>(decide (x.az=a1.kZ))) σ (λx hx=>ajv (σ:=σ) (r:=(decide (x.az=a1.kZ))) rfl))) jE))) (λr1 jE=>?_);refine bX (Λ (!r1)) (λhg=>by(try rw[hg]);exact rfl)<|an _ (mO _ _) ?_;refine gy (c:=((!((decide (a1.kind=8))||(decide (a1.kind=9))))&&(!r1))) (λeR=>?_) (λeR=>?_)
 ·exact dI _ (bD _ _) ⟨rfl,rfl⟩
 refine an _ rfl<|an _ rfl<|an _ (jL _ _ _) ?_
 refine N1 (ω:=Int) (λj7 a=>a=(([(ε j7)]:aq),σ)) (
   by
    refine jJ (p:=a1.kind=6) (λc6=>?_) (λc6=>?_)
    ·exact bK rfl
    refine an _ (jL _ _ _) ?_
    refine N1 (ω:=Int) (λj3 a=>a=(([(ε j3)]:aq),σ)) (
      by
       refine jJ (p:=a1.kind=9) (λc2=>?_) (λc2=>?_)
       ·exact bK rfl
       exact bK rfl
      ) (λj3 a ha=>?_)
    subst ha;exact bK rfl
   ) (λj7 a ha=>?_)
 subst ha;refine an _ rfl<|an _ rfl<|an _ (mL a1.level 0 j7 σ)<|an _ rfl<|an _ (yl (!(aT a1.level 0 j7)) 1 σ) ?_;exact dI _ (bD _ _) ⟨rfl,rfl⟩
end
section
open HP
def kq(p:aC×ey):AV×AV:=(.agg (aS p.1),.agg (cG p.2))
abbrev jD(vb:AV)(bF:Nat)(va:AV)(d:cr):aq:=[vb,.ah d.state.az,.ah d.state.oG,.bool d.state.black,sl 3 cz d.setup.bk.bf,sl 4 dh d.setup.bk.cV,sl 3 dX d.setup.bn,sl 2 fc d.setup.dJ,sl 3 dA d.setup.bM,sl 2 aS d.keys,.om bF,va]
def lJ(id:Nat)(vb:AV)(bF:Nat)(va:AV)(d:cr):HP:=blk id (.box (jD vb bF va d))*(Sl (fl aU) 10 vb d.state.aH*(blk bF (.map ((d.params.getD []).map kq))*Sl (fl dR) 5 va d.eu))
def wv(pd:AV)(d:cr):HP:=ex λx:Nat×AV×Nat×AV=>pr (pd=.op x.1 0/\d.params.isSome=θ)*lJ x.1 x.2.1 x.2.2.1 x.2.2.2 d
section
variable {B : aW -> Prop} {aL σ : Heap} {R : HP} {pd : AV} {d : cr}
theorem aCb(H:Hs B aL σ (wv pd d*R)):∃id vb bF va,pd=.op id 0/\d.params.isSome=θ/\Hs B aL σ (lJ id vb bF va d*R):=by unfold wv at H;rw[Sg]at H;obtain⟨⟨id,vb,bF,va⟩,H⟩:=H;rw[xY,p9]at H;exact⟨id,vb,bF,va,H.1.1,H.1.2,H.2⟩
theorem Jx{id:Nat}{vb:AV}{bF:Nat}{va:AV}(hp:d.params.isSome=θ)(H:Hs B aL σ (lJ id vb bF va d*R)):Hs B aL σ (wv (.op id 0) d*R):=by unfold wv;rw[Sg];refine⟨⟨id,vb,bF,va⟩,?_⟩;rw[xY,p9];exact⟨⟨rfl,hp⟩,H⟩
theorem XA{vb:AV}{l:List bz}(H:Hs B aL σ (Sl (fl aU) 10 vb l*R)):Yk σ vb l:=by
 rcases xZ H with⟨h1,h2,_⟩|⟨id,g,h1,K⟩
 ·exact .inl ⟨h1,h2⟩
 ·exact .inr ⟨id,g,h1,(jO K).2⟩
theorem aA8(H:Hs B aL σ R)(ex:Heap):Hs dV aL (σ++ex) R:=MR (MQ H) ex (λ_ _=>trivial)
theorem Ri{W:Heap}{i:Nat}{b:aW}(H:Hs B aL σ R)(hW:∃ex,W=σ++ex)(hi:σ.length<=i)(hb:W[i]? =δ b):Hs dV aL W (blk i b*R):=by
 obtain⟨ex,rfl⟩:=hW;have hl:=XL H;obtain⟨⟨bs,oU,_⟩,h,hr,h2⟩:=H;refine⟨⟨bs++ex,by rw[oU,lp],λ_ _=>trivial⟩,λj=>if j=i then δ b else h j,⟨λj=>if j=i then δ b else μ,h,λj=>rfl,hr,λj=>?_,λj=>?_⟩,λj x hx=>?_⟩
 ·by_cases e:j=i
  ·right;cases hj:h j with
   |none=>rfl
   |some x=>have:=(bG.1 (h2 j x hj).2).1;omega
  ·simp only[e,if_false,true_or]
 ·by_cases e:j=i<;>simp only[e,if_true,if_false,Option.or_some,Option.none_or,Option.some_or]
 ·by_cases e:j=i
  ·subst e;simp only[if_true,Θ]at hx;subst hx;exact⟨by omega,hb⟩
  ·simp only[e,if_false]at hx;obtain⟨k1,k2⟩:=h2 j x hx;exact⟨k1,by rw[iS (bG.1 k2).1];exact k2⟩
theorem asx{l:List (aC×ey)}{bF:Nat}(h:σ[bF]? =δ (.map (l.map kq)))(d:Nat):X4 σ 0 (d+1) (.om bF)=δ (.fm (l.map kq)):=by simp only[X4,aCX,if_false,h];rw[RG d (λp hp=>by obtain⟨q,_,rfl⟩:=gh.1 hp;exact⟨wq (AG _),wq (aCj _)⟩)];rfl
theorem RH{id:Nat}{vb:AV}{bF:Nat}{va:AV}(hp:d.params.isSome=θ)(H:Hs B aL σ (lJ id vb bF va d*R)):Lt σ XQ (.op id 0) (.rp (vu d)):=by
 obtain⟨ps,hps⟩:=Option.isSome_iff_exists.1 hp;unfold lJ at H;have H1:=eS (show _=blk id (.box (jD vb bF va d))*(Sl (fl aU) 10 vb d.state.aH*(blk bF (.map ((d.params.getD []).map kq))*Sl (fl dR) 5 va d.eu)*R) by ac_rfl) H;have H2:=eS (show _=Sl (fl aU) 10 vb d.state.aH*(blk id (.box (jD vb bF va d))*(blk bF (.map ((d.params.getD []).map kq))*Sl (fl dR) 5 va d.eu)*R) by ac_rfl) H;have H3:=eS (show _=blk bF (.map ((d.params.getD []).map kq))*(Sl (fl aU) 10 vb d.state.aH*blk id (.box (jD vb bF va d))*Sl (fl dR) 5 va d.eu*R) by ac_rfl) H;have H4:=eS (show _=Sl (fl dR) 5 va d.eu*(Sl (fl aU) 10 vb d.state.aH*blk id (.box (jD vb bF va d))*blk bF (.map ((d.params.getD []).map kq))*R) by ac_rfl) H;obtain⟨we,b1,b2,b3⟩:=GO H2 BP (kW _) 6;obtain⟨Et,a1,a2,a3⟩:=GO H4 ach (kW _) 6;have hm:=asx (jO H3).2 6;rw[hps,WU]at hm;have hg:=(jO H1).2;refine⟨⟨.rp [we,.ah d.state.az,.ah d.state.oG,.bool d.state.black,sl 3 cz d.setup.bk.bf,sl 4 dh d.setup.bk.cV,sl 3 dX d.setup.bn,sl 2 fc d.setup.dJ,sl 3 dA d.setup.bM,sl 2 aS d.keys,.fm (ps.map kq),Et],?_,?_,?_⟩,rfl,λh=>by cases h⟩
 ·simp only[X4,aCX,if_false,hg,Zz,jD,A.yw,b1,a1,hm,sk amy _ σ 0 7,sk az1 _ σ 0 7,sk aci _ σ 0 7,sk aqR _ σ 0 7,sk aBq _ σ 0 7,sk AG _ σ 0 7,aJ,cR]
 ·rfl
 ·show ZN (TQ HC _)=ZN (TQ HC (vu d));congr 1;unfold vu;rw[hps];simp only[TQ,b3,a3];rfl
theorem aAx{id:Nat}{vb:AV}{bF:Nat}{va:AV}(hp:d.params.isSome=θ)(H:Hs B aL σ (lJ id vb bF va d*R)):wI (.op id 0) d σ:=by
 have K:∀ex,Hs dV aL (σ++ex) (lJ id vb bF va d*R):=λex=>aA8 H ex
 have hg:∀ex,(σ++ex)[id]? =δ (.box (jD vb bF va d)):=λex=>(jO (eS (show _=blk id (.box (jD vb bF va d))*(Sl (fl aU) 10 vb d.state.aH*(blk bF (.map ((d.params.getD []).map kq))*Sl (fl dR) 5 va d.eu)*R) by unfold lJ;ac_rfl) (K ex))).2
 have hm:∀ex,(σ++ex)[bF]? =δ (.map ((d.params.getD []).map kq)):=λex=>(jO (eS (show _=blk bF (.map ((d.params.getD []).map kq))*(Sl (fl aU) 10 vb d.state.aH*blk id (.box (jD vb bF va d))*Sl (fl dR) 5 va d.eu*R) by unfold lJ;ac_rfl) (K ex))).2
 refine⟨rfl,⟨.op id 4,.op id 6,by simp [WC],by simp [WC],λex=>?_⟩,⟨.op id 10,.om bF,by simp [WC],λex=>⟨?_,λk=>?_⟩⟩,λex=>RH hp (K ex)⟩
 ·simp only[χ,hg ex];rfl
 ·simp only[χ,hg ex];rfl
 ·simp only[Yt,show A.lS (.s [0,2]) (.agg (aS k))=θ from rfl,cU,US,hm ex,aJ,show Wh (.s [0,2]) (.agg (aS k)) ((d.params.getD []).map kq)=δ ((dQ k (d.params.getD [])).map λp=>Φ (cG p))from EV (eK:=λk=>Φ (aS k)) (eV:=λp=>Φ (cG p)) vq k _,cR];unfold mh;cases dQ k (d.params.getD [])<;>rfl
end
def JL (a:iE):Int:=(F7 a).getD 0
def Kw (s:i7) (a:iE):Int:=(F8 s a).getD 0
theorem aei(a:iE):F7 a=δ (JL a):=by
 unfold JL F7;split
 ·rfl
 split<;>rfl
theorem aeN{s:i7}(hl:s.bM.length<=aZ)(a:iE):F8 s a=δ (Kw s a):=by
 unfold Kw F8;rw[tF hl];have:∀(c:Bool)(x y:Bool),∃r,(if c=θ then δ x else δ y:Option Bool)=δ r:=by intro c x y;cases c<;>exact⟨_,rfl⟩
 obtain⟨r,hr⟩:=this (!((decide (a.kind=8))||(decide (a.kind=9)))) (s.bM.any (λx=>(decide (x.az=a.kZ)))) default;rw[hr,aJ];split
 ·rfl
 ·split
  ·rfl
  ·split<;>rfl
theorem af1{s:i7}(hl:s.bM.length<=aZ){a:iE}(h1:JL a=0)(h2:Kw s a=0):(1<=a.kind/\a.kind<=9)/\(a.kind<=7->∃p∈s.bM,p.az=a.kZ)/\(a.kind≠6->0<=a.level/\a.level<=65535)/\0<=a.level/\a.level<=36000000:=by
 have e1:=aei a;have e2:=aeN hl a;rw[h1]at e1;rw[h2]at e2;unfold F7 at e1;split at e1
 ·cases e1
 rename_i k1;have hk:1<=a.kind/\a.kind<=9:=tK (by simpa using k1);unfold F8 at e2;rw[tF hl]at e2
 have aw8:a.kind<=7->∃p∈s.bM,p.az=a.kZ:=by
  intro h;rw[cO (show ¬a.kind=8 by omega),cO (show ¬a.kind=9 by omega)]at e2;simp only[Bool.or_false,Yx,if_true,aJ,aDh]at e2;by_cases q:s.bM.any (λx=>decide (x.az=a.kZ))=θ
  ·obtain⟨p,hp,hp2⟩:=VK.1 q;exact⟨p,hp,by simpa using hp2⟩
  ·rw[aP (by simpa using q)]at e2;cases e2
 refine⟨hk,aw8,?_⟩;have:∀(c:Bool)(x y:Bool),∃r,(if c=θ then δ x else δ y:Option Bool)=δ r:=by intro c x y;cases c<;>exact⟨_,rfl⟩
 obtain⟨r,hr⟩:=this (!((decide (a.kind=8))||(decide (a.kind=9)))) (s.bM.any (λx=>(decide (x.az=a.kZ)))) default;rw[hr,aJ]at e2;split at e2
 ·cases e2
 by_cases k6:a.kind=6
 ·rw[aP k6]at e2;simp only[aJ]at e2;by_cases q:aT a.level 0 36000000=θ
  ·have:=tK q;exact⟨λh=>absurd k6 h,this.1,this.2⟩
  ·rw[aP (by simpa using q)]at e2;cases e2
 ·rw[aO k6]at e2;by_cases k9:a.kind=9
  ·rw[aP k9]at e2;simp only[aJ]at e2;by_cases q:aT a.level 0 1=θ
   ·have:=tK q;exact⟨λ_=>⟨this.1,by omega⟩,this.1,by omega⟩
   ·rw[aP (by simpa using q)]at e2;cases e2
  ·rw[aO k9]at e2;simp only[aJ]at e2;by_cases q:aT a.level 0 65535=θ
   ·have:=tK q;exact⟨λ_=>⟨this.1,by omega⟩,this.1,by omega⟩
   ·rw[aP (by simpa using q)]at e2;cases e2
def FI (d:cr) (a:iE):Int:=
 ([(([(if decide ((d.eu.length:Int)=5000)=θ then 2 else 0),JL a,(if(!(aT a.time 0 36000000))=θ then 1 else 0),(if decide (a.time<tI d.eu)=θ then 7 else 0)]:List Int).find? λn=>decide (¬n=0)).getD 0,Kw d.setup a].find? λn=>decide (¬n=0)).getD 0
def nF (d:cr) (a:iE):cr×Int:=
 if ¬(FI d a=0)then(d,FI d a)
 else if ¬((lu d (kM d d.state a.time) a).2=0)then(d,(lu d (kM d d.state a.time) a).2)
 else({d with state:=(lu d (kM d d.state a.time) a).1,eu:=d.eu++[a]},0)
theorem asn{a b:Int}(h:(([a,b]:List Int).find? λn=>decide (¬n=0)).getD 0=0):a=0/\b=0:=by
 by_cases ha:a=0
 ·by_cases hb:b=0
  ·exact⟨ha,hb⟩
  ·simp [Xx,ha,hb]at h
 ·simp [Xx,ha]at h
theorem aso{a b c e:Int}(h:(([a,b,c,e]:List Int).find? λn=>decide (¬n=0)).getD 0=0):a=0/\b=0/\c=0/\e=0:=by
 by_cases ha:a=0
 ·by_cases hb:b=0
  ·by_cases hc:c=0
   ·by_cases he:e=0
    ·exact⟨ha,hb,hc,he⟩
    ·simp [Xx,ha,hb,hc,he]at h
   ·simp [Xx,ha,hb,hc]at h
  ·simp [Xx,ha,hb]at h
 ·simp [Xx,ha]at h
theorem agc{d:cr}{a:iE}(h:FI d a=0):¬((d.eu.length:Int)=5000)/\JL a=0/\(0<=a.time/\a.time<=36000000)/\tI d.eu<=a.time/\Kw d.setup a=0:=by
 obtain⟨h1,h2⟩:=asn h;obtain⟨k1,k2,k3,k4⟩:=aso h1;refine⟨λq=>?_,k2,?_,?_,h2⟩
 ·rw[cL q,aP rfl]at k1;cases k1
 ·by_cases q:aT a.time 0 36000000=θ
  ·exact tK q
  ·rw[aP (by simpa using q)]at k3;cases k3
 ·by_cases q:a.time<tI d.eu
  ·rw[cL q,aP rfl]at k4;cases k4
  ·omega
structure zP (d : cr) : Prop where
 di:vC d
 si:lq (tI d.eu) d.state
 SF:d.state.aH.map (·.az)=d.setup.bM.map (·.az)
 len:d.eu.length<=5000
 par:d.params.isSome=θ
theorem zP.pl{d:cr}(h:zP d):d.setup.bM.length<=aZ:=by have e:=congrArg WD h.SF;simp only[X1]at e;have:=h.si.len;unfold aZ;omega
theorem Rq{l:List bz}{i:Nat}{b b':bz}(h:l[i]? =δ b)(e:b'.az=b.az):(l.set i b').map (·.az)=l.map (·.az):=by
 rw[List.map_set];refine List.ext_getElem? λj=>?_
 rw[kE];split
 ·rename_i q;have hl:=(bG.1 h).1;rw[aP (by simpa [<-q]using hl),uz,<-q,h,cR,e]
 ·rfl
theorem apA{d:cr}{t:Int}{s s':dH}(h:zL d t s=δ s'):s'.aH.map (·.az)=s.aH.map (·.az):=by
 unfold zL at h;split at h
 ·cases h
 obtain⟨b,hb,h⟩:=ct.1 h;obtain⟨x,hx,rfl⟩:=fF.1 h;exact Rq hb rfl
theorem abw{d:cr}{t:Int}:∀(n:Nat)(s:dH),(tv d t n s).aH.map (·.az)=s.aH.map (·.az)
 |0,s=>rfl
 |n+1,s=>by
  unfold tv;cases h:zL d t s with
  |none=>rfl
  |some s'=>simp only;rw[abw n s',apA h]
theorem Ma(d:cr)(s:dH)(t:Int):(kM d s t).aH.map (·.az)=s.aH.map (·.az):=abw _ s
theorem ao8:pK ⟨1,[]⟩=0:=by decide
theorem arM{d:cr}(hI:vC d){s:dH}{a:iE}(hs:lq a.time s)(hk:1<=a.kind/\a.kind<=9)(hl:a.kind≠6->0<=a.level/\a.level<=65535)(rS:0<=a.level/\a.level<=36000000):lq a.time (lu d s a).1/\(lu d s a).1.aH.map (·.az)=s.aH.map (·.az):=by
 have ht:=hs.n;unfold lu;by_cases k8:a.kind=8
 ·rw[aP k8];exact⟨⟨hs.n,hs.len,hs.bs,hl (by omega)⟩,rfl⟩
 rw[aO k8];by_cases k9:a.kind=9
 ·rw[aP k9];exact⟨⟨hs.n,hs.len,hs.bs,hs.oG⟩,rfl⟩
 rw[aO k9];generalize (iT (λb:bz=>decide (b.az=a.kZ)) s.aH).toNat=i;cases hb:s.aH[i]? with
 |none=>exact⟨hs,rfl⟩
 |some b=>
  simp only;have Al:=dm hb;have hB:=hs.bs b Al;have iI:=GH hB.uQ (ZC _) ht.2;have put:∀b':bz,uA a.time b'->b'.az=b.az->lq a.time (Kt s i b')/\(Kt s i b').aH.map (·.az)=s.aH.map (·.az):=λb' h1 h2=>⟨Rr hs i h1 _,Rq hb h2⟩
  have go:∀to:Int,0<=to->lq a.time (vP d s i b to a.time).1/\(vP d s i b to a.time).1.aH.map (·.az)=s.aH.map (·.az):=by
   intro to h0;unfold vP;cases hx:b.bH[to.toNat]? with
   |none=>exact⟨hs,rfl⟩
   |some x=>
    have e:to=((to.toNat:Nat):Int):=by omega
    have:=afm hI (aB2 hs (ξ.wrap (s.az+1))) (ZC _) ht.2 Al hx;rw[<-e]at this;exact⟨Rr hs i this _,Rq hb rfl⟩
  have azI:=hB.cK;unfold Dw;split
  ·split
   ·exact⟨hs,rfl⟩
   ·exact go _ (by omega)
  split
  ·split
   ·exact⟨hs,rfl⟩
   ·exact go _ (by omega)
  split
  ·split
   ·exact⟨hs,rfl⟩
   ·exact go _ (by omega)
  split
  ·split
   ·exact⟨hs,rfl⟩
   ·refine put _ ⟨hB.sS,hB.fC,hB.can,hB.runs,hB.jc,⟨iI.2.1,iI.2.2,ZC _⟩,hB.cK,?_⟩ rfl;rcases hB.FK with h|⟨h1,h2,h3⟩
    ·exact .inl h
    ·exact .inr ⟨h1,h2,h3⟩
  split
  ·split
   ·exact⟨hs,rfl⟩
   ·rename_i hst;have NT:b.aK.jV=θ:=by simpa using hst
    obtain⟨c1,c2,c3⟩:=hB.uQ;refine put _ ⟨hB.sS,hB.fC,hB.can,hB.runs,hB.jc,⟨c1,by show b.aK.shown<=a.time;omega,ZC _⟩,hB.cK,?_⟩ rfl;rcases hB.FK with h|⟨h1,h2,h3⟩
    ·exact .inl h
    ·refine .inr ⟨h1,?_,h3⟩;rw[iI.1,aP NT]at h2;show ξ.wrap (ξ.wrap (b.aK.shown+a.time) -a.time)<=b.eM;rw[show ξ.wrap (b.aK.shown+a.time)=b.aK.shown+a.time from cq (by unfold aY;omega),cq (by unfold aY;omega)];omega
  split
  ·split
   ·exact⟨hs,rfl⟩
   ·refine⟨Rr hs i (b:=xJ d {s with az:=ξ.wrap (s.az+1)} b a) ⟨hB.sS,hB.fC,ad9 (Q1 (Mb hB)),λk r hkr=>?_,hB.jc,⟨iI.2.1,iI.2.2,ZC _⟩,⟨by show(-1:Int)<=-1;omega,by show(-1:Int)<_;omega⟩,.inl (by show(-1:Int)<0;decide)⟩ _,Rq hb rfl⟩;have hm:(k,r)∈MI d {s with az:=ξ.wrap (s.az+1)} b a:=(Js _).mem_iff.1 hkr;obtain⟨p,hp,q⟩:=ZJ.1 hm;obtain⟨r',hr',q⟩:=fF.1 q;injection q with q1 q2
    subst q2;refine⟨?_,by rw[<-q1];exact(hB.runs p.1 p.2 hp).2⟩;unfold B8 at hr';split at hr'
    ·cases hr'
    ·rename_i hq;injection hr' with hr'
     subst hr'
     have nG:(eF b p.1 (eT b.aK a.time)).2=θ:=by
      cases h:(eF b p.1 (eT b.aK a.time)).2
      ·exact absurd (.inl h) hq
      ·rfl
     have hfo:=C6 (hB.ok (ZC _) ht.2) nG;exact RE (J4 hfo _) (by simp) ⟨iI.2.1,by show eT b.aK a.time<=_;omega⟩ (by simp) rS ao8
  ·exact put _ ⟨hB.sS,hB.fC,hB.can,hB.runs,hl (by assumption),hB.uQ,hB.cK,hB.FK⟩ rfl
theorem at6{d:cr}(h:zP d)(a:iE):zP (nF d a).1:=by
 unfold nF;split
 ·exact h
 rename_i h0;have h0:FI d a=0:=by simpa using h0
 obtain⟨k1,k2,k3,k4,k5⟩:=agc h0;obtain⟨a1,a2,a3,a4⟩:=af1 h.pl k2 k5;split
 ·exact h
 ·have hA:=QS h.di h.si k4 k3.2;obtain⟨b1,b2⟩:=arM h.di hA a1 a3 a4;refine⟨⟨h.di.pre,h.di.lev,h.di.par⟩,?_,?_,?_,h.par⟩
  ·have:tI (d.eu++[a])=a.time:=by unfold tI;simp
   show lq (tI (d.eu++[a])) _;rw[this];exact b1
  ·show(lu d (kM d d.state a.time) a).1.aH.map (·.az)=_;rw[b2,Ma];exact h.SF
  ·show(d.eu++[a]).length<=5000;rw[ZY,Wa];exact Nat.lt_of_le_of_ne h.len (λq=>k1 (by rw[q];rfl))
end
section
open HP
section
variable {aL σ : Heap} {R : HP} {pd : AV} {d : cr}
theorem axM(a b c e:Int):((((Ψ (.ah a)).bind λv=>δ [v]).bind λiz=>(ir 0 iz [(ε 0),(ε 0),(ε 0),(ε 0)]).bind λiH=>((Ψ (.ah b)).bind λv=>δ [v]).bind λij=>(ir 1 ij iH).bind λiL=>((Ψ (.ah c)).bind λv=>δ [v]).bind λgj=>(ir 2 gj iL).bind λfW=>((Ψ (.ah e)).bind λv=>δ [v]).bind λiA=>(ir 3 iA fW).bind λjv=>δ jv).bind λcs=>δ (Yh 1 (iP 1 4 cs)))=δ (sl 1 oL [a,b,c,e]):=rfl
theorem avE(a b:Int):((((Ψ (.ah a)).bind λv=>δ [v]).bind λkX=>(ir 0 kX [(ε 0),(ε 0)]).bind λnD=>((Ψ (.ah b)).bind λv=>δ [v]).bind λlN=>(ir 1 lN nD).bind λmU=>δ mU).bind λcs=>δ (Yh 1 (iP 1 2 cs)))=δ (sl 1 oL [a,b]):=rfl
theorem aol(a:iE):(((ψ 5 (.agg (dR a))).bind λxM=>(ir 0 xM [(ε 0),(ε 0),(ε 0),(ε 0),(ε 0)]).bind λuM=>δ uM).bind λcs=>δ (Yh 5 (iP 5 1 cs)))=δ (.sl 5 [dR a]):=rfl
theorem afX{r:AV->AV->Heap->aF}{x y v:AV}{σ σ':Heap}(e:r x y σ=δ (v,σ')):Ω ι [] .k (Xw r) [x,y] σ=δ (v,σ'):=by have:Xw r [x,y] σ=δ (v,σ'):=e;simp only[Ω,U7,bQ,TQ,this,cR,jr]
theorem GF{α:Type}{c:α->aq}{sz:Nat}{B:aW->Prop}{v:AV}{l:List α}(H:Hs B aL σ (Sl (fl c) sz v l*R)):Ψ v=δ v:=by rcases xZ H with⟨_,rfl|rfl,_⟩|⟨id,g,rfl,_⟩<;>rfl
theorem atT{id:Nat}{vb:AV}{bF:Nat}{va:AV}(hp:d.params.isSome=θ)(hl:d.eu.length<=aZ)(H:Hs dV aL σ (lJ id vb bF va d*R)):IN [.op id 0] σ=δ (.ah (tI d.eu),σ):=
 Bb (eD:=[.op id 0]) (ts:=[.rp (vu d)]) ⟨RH hp H,trivial⟩ (λσ=>af0 d hl σ) rfl
theorem agN{id:Nat}{vb:AV}{bF:Nat}{va:AV}(hp:d.params.isSome=θ)(hl:d.eu.length<=aZ)(H:Hs dV aL σ (lJ id vb bF va d*R))(t:Int):F9 [.op id 0,.ah t] σ=δ (.ah (ux d.eu t),σ):=
 Bb (eD:=[.op id 0,.ah t]) (ts:=[.rp (vu d),.ah t]) ⟨RH hp H,R5 t,trivial⟩ (λσ=>auT d hl t σ) rfl
theorem RY{id:Nat}{vb:AV}{bF:Nat}{va:AV}{B:aW->Prop}(H:Hs B aL σ (lJ id vb bF va d*R)):σ[id]? =δ (.box (jD vb bF va d)):=
 (jO (eS (show _=blk id (.box (jD vb bF va d))*(Sl (fl aU) 10 vb d.state.aH*(blk bF (.map ((d.params.getD []).map kq))*Sl (fl dR) 5 va d.eu)*R) by unfold lJ;ac_rfl) H)).2
theorem aCl{s:dH}{v:AV}{H:Heap}(h:J7 σ s v H):(∃ex,H=σ++ex)/\XZ (.op H.length 0) (bU v s) (H++[Vs xL])=δ (H++[Vs (bU v s)])/\(H++[Vs (bU v s)])[H.length]? =δ (.box (bU v s))/\((s.aH=[]/\v=.ez)\/∃g,v=.os (σ.length+1) g 10 0 s.aH.length/\SA σ (H++[Vs (bU v s)]) H.length (σ.length+1) g s):=by
 obtain⟨⟨ex,hex⟩,_⟩:=h.ex;have hlen:σ.length<=H.length:=by rw[hex];simp
 have G0:(H++[Vs xL])[H.length]? =δ (.box xL):=by rw[jq (bN _),Yp];rfl
 have G1:(H++[Vs (bU v s)])[H.length]? =δ (.box (bU v s)):=by rw[jq (bN _),Yp];rfl
 refine⟨⟨ex,hex⟩,?_,G1,?_⟩
 ·simp only[XZ,G0];rw[show ir 0 (bU v s) xL=δ (bU v s)from rfl,cR,sy _ _ (bN _),Yp];rfl
 ·rcases h with⟨h1,h2,h3⟩|⟨g,h1,h2⟩
  ·exact .inl ⟨h1,h2⟩
  ·refine .inr ⟨g,h1,⟨by rw[<-h1];exact G1,?_,⟨ex++[Vs (bU v s)],by rw[hex,lp]⟩,hlen,Nat.le_succ _⟩⟩;have hl:σ.length+1<H.length:=by rw[h2];simp
   rw[iS hl,h2];exact MX σ g s
theorem arL{d:cr}{pd:AV}(hI:vC d){σ H:Heap}(hd:wI pd d σ){s:dH}{v:AV}(h:J7 σ s v H){a:iE}(hs:lq a.time s)(hk:1<=a.kind/\a.kind<=9)(hp:a.kind<=7->∃b∈s.aH,b.az=a.kZ):
  ∃W',LH [pd,.op H.length 0,.agg (dR a)] (H++[Vs (bU v s)])=δ (.ah (lu d s a).2,W')/\(∃ex,W'=σ++ex)/\W'[H.length]? =δ (.box (bU v (lu d s a).1))/\((((lu d s a).1).aH=[]/\v=.ez)\/∃g,v=.os (σ.length+1) g 10 0 (lu d s a).1.aH.length/\W'[σ.length+1]? =δ (.arr g 10 ((lu d s a).1.aH.map aU))):=by
 obtain⟨hex,_,G1,hc⟩:=aCl h;have NM:∃ex,H++[Vs (bU v s)]=σ++ex:=by obtain⟨ex,rfl⟩:=hex;exact⟨_,lp _ _ _⟩
 have hlen:σ.length<=H.length:=by obtain⟨ex,rfl⟩:=hex;simp
 by_cases k7:a.kind<=7
 ·rcases hc with⟨h1,h2⟩|⟨g,h1,Bn⟩
  ·obtain⟨b,hb,_⟩:=hp k7;rw[h1]at hb;cases hb
  ·obtain⟨W',w1,w2⟩:=au5 hI hd Bn hs ⟨hk.1,k7⟩ (hp k7)
   have hle:(lu d s a).1.aH.length=s.aH.length:=by
    have:=w2.b1;have e:∀l1 l2:List bz,l1.map (·.az)=l2.map (·.az)->l1.length=l2.length:=λl1 l2 h=>by simpa using congrArg WD h
    unfold lu;rw[aO (by omega),aO (by omega)];generalize (iT (λb:bz=>decide (b.az=a.kZ)) s.aH).toNat=i;cases hb:s.aH[i]? with
    |none=>rfl
    |some b=>
     simp only
     have hgo:∀to,(vP d s i b to a.time).1.aH.length=s.aH.length:=by intro to;unfold vP;cases b.bH[to.toNat]? <;>simp
     unfold Dw;repeat (first|rfl|exact hgo _|exact aDd|split)
   refine⟨W',w1,w2.ex,?_,.inr ⟨g,by rw[hle];exact h1,w2.b2⟩⟩;rw[w2.b1,hle,<-h1]
 ·have CH:((χ (.op H.length 1) (H++[Vs (bU v s)])).bind λc=>Γ 0 c)=δ (.ah s.az):=by simp only[χ,G1];rfl
  have O0:∀(k:Nat)(W:Heap),χ (.rp ((dR a).drop k)) W=δ ((dR a).drop k):=λk W=>rfl
  obtain⟨W0,vQ⟩:∃W0,W0=H++[Vs (bU v s)]:=⟨_,rfl⟩
  have hHl:H.length<W0.length:=by rw[vQ];simp
  rw[<-vQ]at CH G1 NM ⊢
  have st:∀(s1 s2:dH)(o:Nat)(new:aq),ir o new (bU v s1)=δ (bU v s2)->XZ (.op H.length o) new (W0.set H.length (.box (bU v s1)))=δ (W0.set H.length (.box (bU v s2))):=by intro s1 s2 o new hsp;simp only[XZ,nv hHl,hsp,cR,Vp]
  have st0:XZ (.op H.length 1) [.ah (ξ.wrap (s.az+1))] W0=δ (W0.set H.length (.box (bU v {s with az:=ξ.wrap (s.az+1)}))):=by simp only[XZ,G1];rfl
  have fin:∀s':dH,s'.aH=s.aH->(∃ex,W0.set H.length (.box (bU v s'))=σ++ex)/\(W0.set H.length (.box (bU v s')))[H.length]? =δ (.box (bU v s'))/\((s'.aH=[]/\v=.ez)\/∃g,v=.os (σ.length+1) g 10 0 s'.aH.length/\(W0.set H.length (.box (bU v s')))[σ.length+1]? =δ (.arr g 10 (s'.aH.map aU))):=by
   intro s' hs';refine⟨XG NM hlen _,nv hHl,?_⟩;rcases hc with⟨h1,h2⟩|⟨g,h1,Bn⟩
   ·exact .inl ⟨by rw[hs'];exact h1,h2⟩
   ·rw[<-vQ]at Bn;refine .inr ⟨g,by rw[hs'];exact h1,?_⟩;rw[XX Bn.ne,hs'];exact Bn.b2
  have run:∃W',IS pd (.op H.length 0) (.agg (dR a)) W0=δ (.ah (lu d s a).2,W')/\W'=W0.set H.length (.box (bU v (lu d s a).1))/\(lu d s a).1.aH=s.aH:=by
   unfold IS lu;rw[show((ψ 5 (.agg (dR a))).bind λcs=>δ (ZN cs))=δ (.rp (dR a))from rfl,bS];simp only[mS,bS,O0,show Γ 0 ((dR a).drop 1)=δ (.ah a.kind)from rfl,show Γ 0 ((dR a).drop 4)=δ (.ah a.level)from rfl,jL,show ZP (.op H.length 0)=δ (.op H.length 0)from rfl,show ∀o,WC o (.op H.length 0)=δ (.op H.length o)from λo=>by simp [WC],CH,nQ];by_cases k8:a.kind=8
   ·rw[aP k8,cL k8,dL,uu,bS,st0,bS,uu,bS,st _ {s with az:=ξ.wrap (s.az+1),oG:=a.level} 2 _ rfl,bS];exact⟨_,rfl,rfl,rfl⟩
   ·have k9:a.kind=9:=by omega
    rw[aO k8,cO k8,dD,aP k9,cL k9,dL,uu,bS,st0,bS,show((Ψ (Λ (decide (a.level=1)))).bind λv=>δ [v])=δ [.bool (decide (a.level=1))]from rfl,bS,st _ {s with az:=ξ.wrap (s.az+1),black:=decide (a.level=1)} 3 _ rfl,bS];exact⟨_,rfl,rfl,rfl⟩
  obtain⟨W',e1,e2,e3⟩:=run;subst e2;exact⟨_,MU (jr _) e1,fin _ e3⟩
theorem avP(hK:zP d)(a:iE)(H:Hs dV aL σ (wv pd d*R)):∃σ',UA [pd,.agg (dR a)] σ=δ (.ah (nF d a).2,σ')/\Hs dV aL σ' (wv pd (nF d a).1*R):=by
 suffices h:∃σ',P8 pd (.agg (dR a)) σ=δ (.ah (nF d a).2,σ')/\Hs dV aL σ' (wv pd (nF d a).1*R) by obtain⟨σ',e,h⟩:=h;exact⟨σ',afX e,h⟩
 obtain⟨id,vb,bF,va,rfl,hp,H⟩:=aCb H;have lC:=RY H;have ahK:=(bG.1 lC).1;have Ea:d.eu.length<=aZ:=by have:=hK.len;unfold aZ;omega
 have xQ:=eS (show _=Sl (fl dR) 5 va d.eu*(Sl (fl aU) 10 vb d.state.aH*blk id (.box (jD vb bF va d))*blk bF (.map ((d.params.getD []).map kq))*R) by unfold lJ;ac_rfl) H;have FT:=eS (show _=Sl (fl aU) 10 vb d.state.aH*(blk id (.box (jD vb bF va d))*(blk bF (.map ((d.params.getD []).map kq))*Sl (fl dR) 5 va d.eu)*R) by unfold lJ;ac_rfl) H;have ca:=GF xQ;have cb:=GF FT;unfold P8;rw[show ψ 5 (.agg (dR a))=δ (dR a)from rfl,bS];simp only[show ZP (.op id 0)=δ (.op id 0)from rfl,bS,show ∀o,WC o (.op id 0)=δ (.op id o)from λo=>by simp [WC]];rw[show((χ (.op id 11) σ).bind λc=>Γ 0 c)=δ va from by simp only[χ,lC];exact ca,bS,auP xQ,bS,jL,bS,eH (yl _ _ σ),bS,acz,bS,eH (ajQ (aei a)),bS,al7,bS,eH (aeu _ σ),bS,zY,bS,eH (yl _ _ σ),bS,bS,eH (atT hp Ea H),bS,nw,bS,eH (yl _ _ σ),bS,axM,bS,eH (EL _ (by show 4<=aZ;decide) σ),bS];rw[show((χ (.op id 4) σ).bind λc=>VU 0 5 c)=δ (.agg (cm d.setup))from by simp only[χ,lC];rfl,bS,bS,eH (ajR (aeN hK.pl a)),bS,avE,bS,eH (EL _ (by show 2<=aZ;decide) σ),bS];have hE:(([(([(if decide ((d.eu.length:Int)=5000)=θ then 2 else 0),JL a,(if(!(aT a.time 0 36000000))=θ then 1 else 0),(if decide (a.time<tI d.eu)=θ then 7 else 0)]:List Int).find? λn=>decide (¬n=0)).getD 0,Kw d.setup a]:List Int).find? λn=>decide (¬n=0)).getD 0=FI d a:=rfl;rw[hE,fV,bS];unfold nF;by_cases h0:FI d a=0
 case neg=>
  rw[cL h0,dL,aP h0];exact⟨σ,rfl,Jx hp H⟩
 rw[cO (λq=>q h0),dD,aO (λq=>q h0),bS];obtain⟨k1,k2,k3,k4,k5⟩:=agc h0;obtain⟨a1,a2,a3,a4⟩:=af1 hK.pl k2 k5;have hrd:=aAx hp H;obtain⟨v,W,e1,e2⟩:=W7 hK.di hrd k3.2 hK.si k4 ⟨.op id 0,by simp [WC],by simp only[χ,lC];rfl⟩ (XA FT);have Ou:=QS hK.di hK.si k4 k3.2;obtain⟨s1,hs1⟩:∃s1,s1=kM d d.state a.time:=⟨_,rfl⟩
 have hpl:a.kind<=7->∃b∈s1.aH,b.az=a.kZ:=by
  intro h;obtain⟨p,hp1,hp2⟩:=a2 h;have hn:s1.aH.map (·.az)=d.setup.bM.map (·.az):=by rw[hs1,Ma];exact hK.SF
  have:a.kZ∈s1.aH.map (·.az):=by rw[hn,<-hp2];exact gh.2 ⟨p,hp1,rfl⟩
  obtain⟨b,hb,uR⟩:=gh.1 this;exact⟨b,hb,uR⟩
 rw[<-hs1]at e1 e2 Ou ⊢;rw[e1,bS];simp only;rw[show ψ 4 (.agg (bU v s1))=δ (bU v s1)from rfl,bS];obtain⟨x1,x2,x3,x4⟩:=aCl e2;rw[x2,bS,bS];obtain⟨W',w1,w2,w3,w4⟩:=arL hK.di hrd e2 Ou a1 hpl;rw[w1,bS];simp only;rw[fV,bS];by_cases hr:(lu d s1 a).2=0
 case neg=>
  rw[cL hr,dL,aP hr];obtain⟨ex,rfl⟩:=w2;exact⟨_,rfl,Jx hp (aA8 H ex)⟩
 rw[cO (λq=>q hr),dD,aO (λq=>q hr)];obtain⟨s2,hs2⟩:∃s2,s2=(lu d s1 a).1:=⟨_,rfl⟩
 rw[<-hs2]at w3 w4 ⊢;rw[show((χ (.op W.length 0) W').bind λc=>VU 0 4 c)=δ (.agg (bU v s2))from by simp only[χ,w3];rfl,bS,show ψ 4 (.agg (bU v s2))=δ (bU v s2)from rfl,bS]
 -- the new boards are the desk's own
 have K:Hs dV aL W' (blk id (.box (jD vb bF va d))*(Sl (fl aU) 10 v s2.aH*(blk bF (.map ((d.params.getD []).map kq))*(Sl (fl dR) 5 va d.eu*R)))):=by
  obtain⟨ex,hex⟩:=w2
  have H':Hs dV aL W' (blk id (.box (jD vb bF va d))*(blk bF (.map ((d.params.getD []).map kq))*(Sl (fl dR) 5 va d.eu*R))):=by rw[hex];exact aA8 (yp (eS (show _=Sl (fl aU) 10 vb d.state.aH*(blk id (.box (jD vb bF va d))*(blk bF (.map ((d.params.getD []).map kq))*(Sl (fl dR) 5 va d.eu*R))) by unfold lJ;ac_rfl) H)) ex
  rcases w4 with⟨q1,q2⟩|⟨g,q1,q2⟩
  ·rw[q1,q2];exact eS (show _=_ by ac_rfl) (sV (v:=.ez) (E:=fl aU) (sz:=10) H' (.inr rfl))
  ·rw[q1];have H'':=yp (eS (show _=Sl (fl aU) 10 vb d.state.aH*(blk id (.box (jD vb bF va d))*(blk bF (.map ((d.params.getD []).map kq))*(Sl (fl dR) 5 va d.eu*R))) by unfold lJ;ac_rfl) H);have A1:=Ri H'' ⟨ex,hex⟩ (Nat.le_succ _) q2;exact eS (show _=_ by ac_rfl) (MT (n:=s2.aH.length) A1)
 have K1:=AM (b':=.box (jD v bF va {d with state:=s2})) K trivial;have axa:=(jO K).2;rw[show XZ (.op id 0) (bU v s2) W'=δ (W'.set id (.box (jD v bF va {d with state:=s2})))from by simp only[XZ,axa];rfl,bS];have axc:=(jO K1).2;rw[show((χ (.op id 11) (W'.set id (.box (jD v bF va {d with state:=s2})))).bind λc=>Γ 0 c)=δ va from by simp only[χ,axc];exact ca,bS,bS,aol,bS]
 have K2:=eS (show _=Sl (fl dR) 5 va d.eu*(els (fl dR) [dR a] [a]*(blk id (.box (jD v bF va {d with state:=s2}))*(Sl (fl aU) 10 v s2.aH*(blk bF (.map ((d.params.getD []).map kq))*R)))) by
  rw[show els (fl dR) [dR a] [a]=pr (dR a=dR a)*emp from rfl];ac_rfl) (p9.2 ⟨(rfl:dR a=dR a),eS (CT _).symm K1⟩)
 obtain⟨Et,W2,f1,f2⟩:=J6 (most:=140737488355328 / 40) K2 (by have:=hK.len;simp;omega) (λ_ _ _ _=>trivial);rw[f1,bS];simp only;have ca':=GF f2;have K3:=eS (show _=blk id (.box (jD v bF va {d with state:=s2}))*(Sl (fl dR) 5 Et (d.eu++[a])*(Sl (fl aU) 10 v s2.aH*(blk bF (.map ((d.params.getD []).map kq))*R))) by ac_rfl) f2;have axd:=(jO K3).2;have K4:=AM (b':=.box (jD v bF Et {d with state:=s2,eu:=d.eu++[a]})) K3 trivial;rw[show((Ψ Et).bind λv=>δ [v])=δ [Et]from by rw[ca'];rfl,bS,show XZ (.op id 11) [Et] W2=δ (W2.set id (.box (jD v bF Et {d with state:=s2,eu:=d.eu++[a]})))from by simp only[XZ,axd];rfl,bS];exact⟨_,rfl,Jx (d:={d with state:=s2,eu:=d.eu++[a]}) hp (eS (show _=lJ id v bF Et {d with state:=s2,eu:=d.eu++[a]}*R by unfold lJ;ac_rfl) K4)⟩
end
end
section
open HP
def sC (d:cr) (s:dH) (k:aC) (t:Int):Int:=if ¬(gr d k).1=1 then(sR d s.aH k t).out else if s.black=θ then 0 else As (sR d s.aH k t).out s.oG
def Hl (d:cr) (t:Int):List gE×Int:=
 if ¬(ux d.eu t=0)then([],ux d.eu t)else(d.keys.map (λk=>⟨k,sC d (kM d d.state t) k t⟩),0)
theorem aAz{l:List iE}{t:Int}(h:ux l t=0):(0<=t/\t<=36000000)/\tI l<=t:=by
 unfold ux at h;split at h
 ·rename_i q;refine⟨tK q,?_⟩;by_cases q2:t<tI l
  ·rw[cL q2,aP rfl]at h;cases h
  ·omega
 ·cases h
section
variable {aL σ : Heap} {R : HP} {pd : AV} {d : cr} {B : aW -> Prop}
theorem apw{ids:Nat}{v:AV}{s:dH}(H:Hs B aL σ (blk ids (.box (bU v s))*(Sl (fl aU) 10 v s.aH*R))):Lt σ Xy (.op ids 0) (.rp (wo s)):=by
 obtain⟨we,b1,b2,b3⟩:=GO (eS (show _=Sl (fl aU) 10 v s.aH*(blk ids (.box (bU v s))*R) by ac_rfl) H) BP (kW _) 6;have hg:=(jO H).2;refine⟨⟨.rp [we,.ah s.az,.ah s.oG,.bool s.black],?_,rfl,?_⟩,rfl,λh=>by cases h⟩
 ·simp only[X4,aCX,if_false,hg,Zz,bU,A.yw,b1,aJ,cR]
 ·show ZN (TQ [(.s 10),.k,.k,.k] _)=ZN (TQ [(.s 10),.k,.k,.k] (wo s));congr 1;unfold wo;simp only[TQ,b3];rfl
theorem asC{id:Nat}{vb:AV}{bF:Nat}{va:AV}(hp:d.params.isSome=θ){ids:Nat}{v:AV}{s:dH}(H:Hs B aL σ (lJ id vb bF va d*(blk ids (.box (bU v s))*(Sl (fl aU) 10 v s.aH*R))))(hI:vC d){t:Int}(hs:lq t s)(k:aC):LC [.op id 0,.op ids 0,.agg (aS k),.ah t] σ=δ (.ah (sC d s k t),σ):=by
 have OJ:∀b∈s.aH,wu b t:=λb hb=>(hs.bs b hb).ok (ZC _) hs.n.2
 exact Bb (eD:=[.op id 0,.op ids 0,.agg (aS k),.ah t]) (ts:=[.rp (vu d),.rp (wo s),.agg (aS k),.ah t]) ⟨RH hp H,apw (yp H),E5 (wq (AG k)) rfl,R5 t,trivial⟩ (λσ=>asD (by have:=hs.len;unfold aZ;omega) OJ hs.oG (λ_=>agu hI OJ) σ) rfl
theorem asX(k:aC)(n:Int):(((ψ 2 (.agg (aS k))).bind λgj=>(ir 0 gj [(ε 0),bE,(ε 0)]).bind λfW=>((Ψ (.ah n)).bind λv=>δ [v]).bind λiA=>(ir 2 iA fW).bind λjv=>δ jv).bind λcs=>δ (Φ cs))=δ (.agg (dW ⟨k,n⟩)):=rfl
theorem atq(x:gE):(((ψ 3 (.agg (dW x))).bind λme=>(ir 0 me [(ε 0),bE,(ε 0)]).bind λqC=>δ qC).bind λcs=>δ (Yh 3 (iP 3 1 cs)))=δ (.sl 3 [dW x]):=rfl
theorem amF{id:Nat}{vb:AV}{bF:Nat}{va:AV}(hp:d.params.isSome=θ){ids:Nat}{v:AV}{s:dH}(hI:vC d){t:Int}(hs:lq t s)(hk:d.keys.length<=1000000){i:Nat}{k:aC}(hi:d.keys[i]? =δ k){vo:AV}{out:List gE}(ho:out.length<=1000000)(H:Hs dV aL σ (lJ id vb bF va d*(blk ids (.box (bU v s))*(Sl (fl aU) 10 v s.aH*(Sl (fl dW) 3 vo out*R))))):
  ∃iq σ',(Ls (Yy id 0) (ε t) ids (sl 2 aS d.keys) (ε (d.keys.length:Int))) [vo,.ah (i:Int)] σ=δ (.normal,[iq,.ah ((i+1:Nat):Int)],σ')/\Hs dV aL σ' (lJ id vb bF va d*(blk ids (.box (bU v s))*(Sl (fl aU) 10 v s.aH*(Sl (fl dW) 3 iq (out++[⟨k,sC d s k t⟩])*R)))):=by
 try unfold Ls
 simp only[cH,dr];rw[iR hi,bS,dL,gH hi,bS,qG,bS,rB,bS,BV,bS,C4 _ _ rfl,bS,rB,bS,bS,eH (asC hp H hI hs k),bS,asX,bS,atq,bS]
 have K2:=eS (show _=Sl (fl dW) 3 vo out*(els (fl dW) [dW ⟨k,sC d s k t⟩] [⟨k,sC d s k t⟩]*(lJ id vb bF va d*(blk ids (.box (bU v s))*(Sl (fl aU) 10 v s.aH*R)))) by
  rw[show els (fl dW) [dW ⟨k,sC d s k t⟩] [⟨k,sC d s k t⟩]=pr (dW ⟨k,sC d s k t⟩=dW ⟨k,sC d s k t⟩)*emp from rfl];ac_rfl) (p9.2 ⟨(rfl:dW ⟨k,sC d s k t⟩=dW ⟨k,sC d s k t⟩),eS (CT _).symm H⟩)
 obtain⟨iq,σ',f1,f2⟩:=J6 (most:=140737488355328 / 32) K2 (by simp;omega) (λ_ _ _ _=>trivial);rw[f1,bS];simp only;rw[fT hi (by unfold aZ;omega),bS];exact⟨iq,σ',rfl,eS (by ac_rfl) f2⟩
theorem aoR(hK:zP d)(hk:d.keys.length<=1000000)(t:Int)(H:Hs dV aL σ (wv pd d*R)):∃v σ',aCq [pd,.ah t] σ=δ (.aM [v,.ah (Hl d t).2],σ')/\Hs dV aL σ' (Sl (fl dW) 3 v (Hl d t).1*(wv pd d*R)):=by
 suffices h:∃v σ',PT pd (.ah t) σ=δ (.aM [v,.ah (Hl d t).2],σ')/\Hs dV aL σ' (Sl (fl dW) 3 v (Hl d t).1*(wv pd d*R)) by obtain⟨v,σ',e,h⟩:=h;exact⟨v,σ',afX e,h⟩
 obtain⟨id,vb,bF,va,rfl,hp,H⟩:=aCb H;have Ea:d.eu.length<=aZ:=by have:=hK.len;unfold aZ;omega
 have lC:=RY H;have FT:=eS (show _=Sl (fl aU) 10 vb d.state.aH*(blk id (.box (jD vb bF va d))*(blk bF (.map ((d.params.getD []).map kq))*Sl (fl dR) 5 va d.eu)*R) by unfold lJ;ac_rfl) H;unfold PT Hl;rw[agN hp Ea H,bS];simp only;rw[fV,bS];by_cases h0:ux d.eu t=0
 case neg=>
  rw[cL h0,dL,aP h0];exact⟨.aA,σ,rfl,sV (Jx hp H) (.inl rfl)⟩
 rw[cO (λq=>q h0),dD,aO (λq=>q h0)];obtain⟨t1,t2⟩:=aAz h0;have hrd:=aAx hp H;obtain⟨v,W,e1,e2⟩:=W7 hK.di hrd t1.2 hK.si t2 ⟨.op id 0,by simp [WC],by simp only[χ,lC];rfl⟩ (XA FT);have Ou:=QS hK.di hK.si t2 t1.2;obtain⟨s1,hs1⟩:∃s1,s1=kM d d.state t:=⟨_,rfl⟩
 rw[<-hs1]at e1 e2 Ou ⊢;rw[e1,bS];simp only;rw[show ψ 4 (.agg (bU v s1))=δ (bU v s1)from rfl,bS];obtain⟨x1,x2,x3,x4⟩:=aCl e2;rw[x2,bS];obtain⟨ids,aBF⟩:∃ids,ids=W.length:=⟨_,rfl⟩
 obtain⟨W0,vQ⟩:∃W0,W0=W++[Vs (bU v s1)]:=⟨_,rfl⟩
 rw[<-aBF]at x3 x4 ⊢;rw[<-vQ]at x3 x4 ⊢;have NM:∃ex,W0=σ++ex:=by rw[vQ];obtain⟨ex,rfl⟩:=x1;exact⟨_,lp _ _ _⟩
 have hlen:σ.length<=ids:=by rw[aBF];obtain⟨ex,rfl⟩:=x1;simp
 have K:Hs dV aL W0 (lJ id vb bF va d*(blk ids (.box (bU v s1))*(Sl (fl aU) 10 v s1.aH*(Sl (fl dW) 3 .aA []*R)))):=by
  rcases x4 with⟨q1,q2⟩|⟨g,q1,q2⟩
  ·have A1:=Ri H NM hlen x3;rw[q2,q1];rw[q2]at A1;have A2:=sV (v:=.ez) (E:=fl aU) (sz:=10) (sV (v:=.aA) (E:=fl dW) (sz:=3) A1 (.inl rfl)) (.inr rfl);exact eS (by ac_rfl) A2
  ·obtain⟨ex,hex⟩:=NM;obtain⟨exW,axh⟩:=x1
   -- the boards first, then the box
   have hA:∃ex',W=σ++ex':=⟨exW,axh⟩
   have uR:W[σ.length+1]? =δ (.arr g 10 (s1.aH.map aU)):=by
    have:=q2.b2;rcases e2 with⟨z1,z2,_⟩|⟨g',z1,z2⟩
    ·rw[q1]at z2;cases z2
    ·have hl:σ.length+1<W.length:=by rw[z2];simp
     rw[vQ,iS hl]at this;exact this
   have A1:=Ri H hA (Nat.le_succ _) uR;have A2:=Ri A1 (W:=W0) ⟨_,vQ⟩ (by rw[aBF];exact bN _) x3;rw[q1];rw[q1]at A2;have A3:=sV (v:=.aA) (E:=fl dW) (sz:=3) A2 (.inl rfl);have A4:=eS (show _=blk (σ.length+1) (.arr g 10 (s1.aH.map aU))*(lJ id vb bF va d*(blk ids (.box (bU (.os (σ.length+1) g 10 0 s1.aH.length) s1))*(Sl (fl dW) 3 .aA []*R))) by ac_rfl) A3;exact eS (by ac_rfl) (MT (n:=s1.aH.length) A4)
 simp only[show ZP (.op id 0)=δ (.op id 0)from rfl,bS,show ∀o,WC o (.op id 0)=δ (.op id o)from λo=>by simp [WC]];have axb:=RY K;rw[show((χ (.op id 9) W0).bind λc=>Γ 0 c)=δ (sl 2 aS d.keys)from by simp only[χ,axb];rfl,bS,fu,bS]
 have hL:∃q,Y7 (Ls (Yy id 0) (ε t) ids (sl 2 aS d.keys) (ε (d.keys.length:Int))) [.aA,.ah 0] W0=δ q/\∃vo u W',q=(.exit 0,[vo,u],W')/\Hs dV aL W' (lJ id vb bF va d*(blk ids (.box (bU v s1))*(Sl (fl aU) 10 v s1.aH*(Sl (fl dW) 3 vo (d.keys.map (λk=>⟨k,sC d s1 k t⟩))*R)))):=by
  refine qt (λz u w=>∃(i:Nat)(vo:AV),i<=d.keys.length/\u=[vo,.ah (i:Int)]/\z=d.keys.length-i/\Hs dV aL w (lJ id vb bF va d*(blk ids (.box (bU v s1))*(Sl (fl aU) 10 v s1.aH*(Sl (fl dW) 3 vo ((d.keys.take i).map (λk=>⟨k,sC d s1 k t⟩))*R))))) ?_ (n:=d.keys.length) ⟨0,.aA,kW _,rfl,rfl,K⟩;rintro z u w ⟨i,vo,hi,rfl,hz,K⟩;by_cases h:i<d.keys.length
  ·have hx:d.keys[i]? =δ d.keys[i]:=cC h;obtain⟨iq,σ',f1,f2⟩:=amF hp hK.di Ou hk hx (by simp;omega) K;refine .inl ⟨d.keys.length-(i+1),_,_,by omega,f1,i+1,iq,h,rfl,rfl,?_⟩;rw[TC,hx,aDy,Z6,eP,Vl];exact f2
  ·have:i=d.keys.length:=by omega
   subst this;rw[UN]at K;refine .inr ⟨(.exit 0,[vo,.ah (d.keys.length:Int)],w),?_,by simp,vo,_,w,rfl,K⟩;try unfold Ls
   simp only[cH,dr];rw[iQ,bS,dD]
 obtain⟨q,l1,vo,u,W',rfl,K'⟩:=hL;refine⟨vo,W',?_,?_⟩
 ·refine(congrArg (λz=>aDN z _) l1).trans ?_;rw[bS];simp only[qj,cH]
 ·have K2:=yp (eS (show _=(blk ids (.box (bU v s1))*Sl (fl aU) 10 v s1.aH)*(lJ id vb bF va d*(Sl (fl dW) 3 vo (d.keys.map (λk=>⟨k,sC d s1 k t⟩))*R)) by ac_rfl) K');have K3:=Jx hp K2;exact eS (by ac_rfl) K3
end
end
section
open HP
structure J9 (s : i7) : Prop where
 jM:s.bk.bf.length<=1000000
 par:∀p∈s.bk.bf,p.params.length<=1000000/\∀q∈p.params,q.ranges.length<=1000000
 un:s.bk.cV.length<=1000000
 pre:s.bn.length<=1000000/\∀p∈s.bn,p.jN.length<=1000000
 S6:s.dJ.length<=1000000
 cK:∀l∈s.dJ,l.bH.length<=1000000/\∀c∈l.bH,c.dF.length<=1000000/\c.fM.br.length<=1000000
 pl:s.bM.length<=1000000
theorem Gk{α:Type}{c:α->aq}{sz most:Nat}{l:List α}{m:aq->Heap->aF}{r0:AV->Heap->aF}(hc:∀x,kF (c x))(hm:m=A.xu (Ω θ [(.s sz)] .k (YR r0)))(hr:∀a σ,r0 a σ=(A.wO a .aA).bind λx1=>φ x1 (δ (.aA,σ)) ((WK sz most .ez a σ).bind λr2=>δ (r2.1,r2.2))) (hl:l.length<=most) (σ:Heap):A.nS (.s sz) m [sl sz c l] σ=δ (sl sz c l,σ):=by obtain⟨v,σ',e1,_,K⟩:=Rz (B:=dV) (r:=λ_ _=>μ) hm hr hl (λ_ _ _ _=>trivial) (C7 σ);obtain⟨v',e2,e3⟩:=afg hc K;unfold A.nS;rw[e1,aJ];simp only;rw[e2,cR];simp only;rw[e3]
theorem avM{σ:Heap}{id:Nat}{b:aW}(h:σ[id]? =δ b):σ.set id b=σ:=by obtain⟨hl,rfl⟩:=bG.1 h;exact List.set_getElem_self hl
theorem aoG{W:Heap}{id g sz i o:Nat}{rows:List aq}{row new:aq}(h:W[id]? =δ (.arr g sz rows))(hr:rows[i]? =δ row)(hs:ir o new row=δ row):XZ (.oe id g i o) new W=δ W:=by simp only[XZ,h,if_true,hr,aJ,hs,cR];obtain⟨hl,rfl⟩:=bG.1 hr;rw[List.set_getElem_self hl,avM h]
def E9{α:Type}(c:α->aq)(sz:Nat)(W:Heap)(v:AV)(l:List α):Prop:=(l=[]/\(v=.aA\/v=.ez))\/∃id g,v=.os id g sz 0 l.length/\W[id]? =δ (.arr g sz (l.map c))
theorem az9{α:Type}{c:α->aq}{sz:Nat}{B:aW->Prop}{aL σ:Heap}{R:HP}{v:AV}{l:List α}(H:Hs B aL σ (Sl (fl c) sz v l*R)):E9 c sz σ v l:=by
 rcases xZ H with⟨h1,h2,_⟩|⟨id,g,h1,K⟩
 ·exact .inl ⟨h1,h2⟩
 ·exact .inr ⟨id,g,h1,(jO K).2⟩
theorem E9.len{α:Type}{c:α->aq}{sz:Nat}{W:Heap}{v:AV}{l:List α}(h:E9 c sz W v l):UY v=δ (.ah (l.length:Int)):=by rcases h with⟨rfl,rfl|rfl⟩|⟨id,g,rfl,_⟩<;>rfl
theorem E9.at{α:Type}{c:α->aq}{sz:Nat}{W:Heap}{v:AV}{l:List α}(h:E9 c sz W v l){i:Nat}{x:α}(hx:l[i]? =δ x):∃id g,Zo sz v (.ah (i:Int))=δ (.oe id g i 0)/\(∀o,χ (.oe id g i o) W=δ ((c x).drop o))/\∀o new,ir o new (c x)=δ (c x)->XZ (.oe id g i o) new W=δ W:=by
 have hi:=(bG.1 hx).1;rcases h with⟨rfl,_⟩|⟨id,g,rfl,hg⟩
 ·simp at hx
 ·have hr:(l.map c)[i]? =δ (c x):=by rw[uz,hx];rfl
  refine⟨id,g,?_,λo=>?_,λo new hs=>aoG hg hr hs⟩
  ·have:((i:Int)<(l.length:Int)):=by omega
   simp [Zo,A.idx,this]
  ·simp only[χ,hg,if_true,hr,cR]
theorem aCN{α:Type}{c:α->aq}{sz:Nat}{B:aW->Prop}{aL σ:Heap}{R:HP}{v:AV}{l:List α}(H:Hs B aL σ (Sl (fl c) sz v l*R))(hc:∀x,kF (c x)){n:Nat}(hn:n<=aL.length)(d:Nat):∃v',X4 σ n (d+1) v=δ v'/\((l=[]/\(v'=.aA\/v'=.ez))\/v'=sl sz c l):=by
 rcases xZ H with⟨rfl,rfl|rfl,_⟩|⟨id,g,rfl,K⟩
 ·exact⟨.aA,by simp [X4],.inl ⟨rfl,.inl rfl⟩⟩
 ·exact⟨.ez,by simp [X4],.inl ⟨rfl,.inr rfl⟩⟩
 ·obtain⟨h1,h2⟩:=jO K;exact⟨_,R3 hc h2 (by omega) d,.inr rfl⟩
def zF:aq->cD->HP:=λe x=>ex λvp=>pr (e=[.str x.name,.ah x.size,vp])*Sl (fl cG) 7 vp x.params
def zD:aq->jl->HP:=λe x=>ex λvc=>pr (e=[.ah x.az,vc])*Sl (fl bg) 11 vc x.bH
section
variable {B : aW -> Prop} {aL σ : Heap} {R : HP} {e : aq}
theorem ahq{x:cD}:Hs B aL σ (zF e x*R)↔∃vp,e=[.str x.name,.ah x.size,vp]/\Hs B aL σ (Sl (fl cG) 7 vp x.params*R):=by
 unfold zF;rw[Sg];constructor
 ·rintro⟨vp,H⟩;rw[xY,p9]at H;exact⟨vp,H⟩
 ·rintro⟨vp,H⟩;exact⟨vp,by rw[xY,p9];exact H⟩
theorem aho{x:jl}:Hs B aL σ (zD e x*R)↔∃vc,e=[.ah x.az,vc]/\Hs B aL σ (Sl (fl bg) 11 vc x.bH*R):=by
 unfold zD;rw[Sg];constructor
 ·rintro⟨vp,H⟩;rw[xY,p9]at H;exact⟨vp,H⟩
 ·rintro⟨vp,H⟩;exact⟨vp,by rw[xY,p9];exact H⟩
abbrev Sm:List Sh:=qz
theorem ac5:∀{seg:List aq}{l:List cD}{R:HP},Hs B aL σ (els zF seg l*R)->∀{n:Nat},n<=aL.length->∀(d:Nat),∃yH,A.lK σ n (d+1) seg=δ yH/\yH.map (TQ [.k,.k,(.e 7 Sm)])=l.map cz
 |[],[],R,H,n,hn,d=>⟨[],by simp [A.lK],rfl⟩
 |[],_::_,R,H,n,hn,d=>(p9.1 H).1.elim
 |_::_,[],R,H,n,hn,d=>(p9.1 H).1.elim
 |e::seg,x::l,R,H,n,hn,d=>by
  rw[els,xY]at H;obtain⟨vp,he,K⟩:=ahq.1 H;obtain⟨v',h1,h2⟩:=aCN K aCj hn d;obtain⟨yH,k1,k2⟩:=ac5 (yp H) hn d;refine⟨[.str x.name,.ah x.size,v']::yH,?_,?_⟩
  ·rw[he];simp [A.lK,A.gP,X4,h1,k1]
  ·have:Y9 (.e 7 Sm) v'=sl 7 cG x.params:=by
    rcases h2 with⟨h2,rfl|rfl⟩|rfl
    ·rw[h2];rfl
    ·rw[h2];rfl
    ·exact mT (λ_=>rfl) _
   rw[eP,k2,eP];congr 1;simp only[TQ,jr,this];rfl
theorem ac4:∀{seg:List aq}{l:List jl}{R:HP},Hs B aL σ (els zD seg l*R)->∀{n:Nat},n<=aL.length->∀(d:Nat),∃yH,A.lK σ n (d+1) seg=δ yH/\yH.map (TQ [.k,(.e 11 Cg)])=l.map fc
 |[],[],R,H,n,hn,d=>⟨[],by simp [A.lK],rfl⟩
 |[],_::_,R,H,n,hn,d=>(p9.1 H).1.elim
 |_::_,[],R,H,n,hn,d=>(p9.1 H).1.elim
 |e::seg,x::l,R,H,n,hn,d=>by
  rw[els,xY]at H;obtain⟨vp,he,K⟩:=aho.1 H;obtain⟨v',h1,h2⟩:=aCN K JP hn d;obtain⟨yH,k1,k2⟩:=ac4 (yp H) hn d;refine⟨[.ah x.az,v']::yH,?_,?_⟩
  ·rw[he];simp [A.lK,A.gP,X4,h1,k1]
  ·have:Y9 (.e 11 Cg) v'=sl 11 bg x.bH:=by
    rcases h2 with⟨h2,rfl|rfl⟩|rfl
    ·rw[h2];rfl
    ·rw[h2];rfl
    ·exact mT (λ_=>rfl) _
   rw[eP,k2,eP];congr 1;simp only[TQ,jr,this];rfl
theorem arh{v:AV}{l:List cD}(H:Hs B aL σ (Sl zF 3 v l*R)){n:Nat}(hn:n<=aL.length)(d:Nat):∃v',X4 σ n (d+2) v=δ v'/\Y9 (.e 3 [.k,.k,(.e 7 Sm)]) v'=sl 3 cz l:=by
 rcases AD H with⟨rfl,rfl|rfl,_⟩|⟨id,g,seg,rfl,hl,H⟩
 ·exact⟨.aA,by simp [X4],rfl⟩
 ·exact⟨.ez,by simp [X4],rfl⟩
 ·obtain⟨h1,h2⟩:=jO H;obtain⟨yH,k1,k2⟩:=ac5 (eS (show _=els zF seg l*(blk id (.arr g 3 seg)*R) by ac_rfl) H) hn d;refine⟨.sl 3 yH,?_,?_⟩
  ·simp only[X4,aO (show ¬id<n by omega),h2];rw[aP (by simp;omega),Zz,n9 (by omega),Gv,k1];rfl
  ·simp only[Y9,k2];rfl
theorem aqW{v:AV}{l:List jl}(H:Hs B aL σ (Sl zD 2 v l*R)){n:Nat}(hn:n<=aL.length)(d:Nat):∃v',X4 σ n (d+2) v=δ v'/\Y9 (.e 2 [.k,(.e 11 Cg)]) v'=sl 2 fc l:=by
 rcases AD H with⟨rfl,rfl|rfl,_⟩|⟨id,g,seg,rfl,hl,H⟩
 ·exact⟨.aA,by simp [X4],rfl⟩
 ·exact⟨.ez,by simp [X4],rfl⟩
 ·obtain⟨h1,h2⟩:=jO H;obtain⟨yH,k1,k2⟩:=ac4 (eS (show _=els zD seg l*(blk id (.arr g 2 seg)*R) by ac_rfl) H) hn d;refine⟨.sl 2 yH,?_,?_⟩
  ·simp only[X4,aO (show ¬id<n by omega),h2];rw[aP (by simp;omega),Zz,n9 (by omega),Gv,k1];rfl
  ·simp only[Y9,k2];rfl
end
section
variable {aL σ : Heap} {R : HP}
theorem NJ{α β A1 A2:Type}{X:Option α}{v:α}{f:α->Option β}{g:A1->A2->β}{Q:A1->A2->Prop}(e:X=δ v)(k:∃a b,f v=δ (g a b)/\Q a b):∃a b,X.bind f=δ (g a b)/\Q a b:=by rw[e];exact k
theorem aAh{α β A1:Type}{X:Option α}{v:α}{f:α->Option β}{g:A1->β}{Q:A1->Prop}(e:X=δ v)(k:∃a,Q a/\f v=δ (g a)):∃a,Q a/\X.bind f=δ (g a):=by rw[e];exact k
theorem Dh{α:Type}{E:aq->α->HP}{sz:Nat}{B:aW->Prop}{v:AV}{l:List α}(H:Hs B aL σ (Sl E sz v l*R)):Ψ v=δ v:=by rcases AD H with⟨_,rfl|rfl,_⟩|⟨id,g,seg,rfl,_⟩<;>rfl
theorem ar9{W:Heap}{x:cD}{pv:AV}(hx:∀q∈x.params,q.ranges.length<=1000000)(hl:x.params.length<=1000000)(h:E9 cG 7 W pv x.params)(u0 u1 u2:AV):Y7 (P3 (ε (x.params.length:Int))) [u0,u1,u2,.lbx [.str x.name,.ah x.size,pv],.ah 0] W=δ (.exit 2,[u0,u1,u2,.lbx [.str x.name,.ah x.size,pv],.ah (x.params.length:Int)],W):=by
 refine D6 (qt (Q:=λq=>q=(.exit 2,[u0,u1,u2,.lbx [.str x.name,.ah x.size,pv],.ah (x.params.length:Int)],W)) (λz v w=>∃i:Nat,i<=x.params.length/\v=[u0,u1,u2,.lbx [.str x.name,.ah x.size,pv],.ah (i:Int)]/\w=W/\z=x.params.length-i) ?_ (n:=x.params.length) ⟨0,kW _,rfl,rfl,rfl⟩);have hc:Ψ pv=δ pv:=by rcases h with⟨_,rfl|rfl⟩|⟨id,g,rfl,_⟩<;>rfl
 rintro z v w ⟨i,hi,rfl,rfl,hz⟩;by_cases hlt:i<x.params.length
 ·have hq:x.params[i]? =δ x.params[i]:=cC hlt;obtain⟨id,g,e1,e2,e3⟩:=h.at hq;refine .inl ⟨x.params.length-(i+1),_,_,by omega,?_,i+1,hlt,rfl,rfl,rfl⟩;try unfold P3
  simp only[cH,dr];have hp2:Γ 2 [.str x.name,.ah x.size,pv]=δ pv:=hc;rw[iR hq,bS,dL];simp only[kg,bS,hp2,e1,show ∀o,WC o (.oe id g i 0)=δ (.oe id g i o)from λo=>by simp [WC],e2];rw[show Γ 0 ((cG x.params[i]).drop 6)=δ (sl 3 lI x.params[i].ranges)from rfl,bS,eH (Gk (most:=140737488355328 / 32) (m:=as0) (r0:=aB0) adk rfl (λ_ _=>rfl) (by have:=hx _ (aDo hlt);omega) w),bS,show((Ψ (sl 3 lI x.params[i].ranges)).bind λv=>δ [v])=δ [sl 3 lI x.params[i].ranges]from rfl,bS,e3 6 _ rfl,bS,fT hq (by unfold aZ;omega),bS]
 ·have:i=x.params.length:=by omega
  subst this;refine .inr ⟨_,?_,by simp,rfl⟩;try unfold P3
  simp only[cH,dr];rw[iQ,bS,dD]
theorem asa{W:Heap}{x:jl}{pv:AV}(hx:∀c∈x.bH,c.dF.length<=1000000/\c.fM.br.length<=1000000)(hl:x.bH.length<=1000000)(h:E9 bg 11 W pv x.bH)(u0 u1:AV):Y7 (P4 (ε (x.bH.length:Int))) [u0,u1,.lbx [.ah x.az,pv],.ah 0] W=δ (.exit 8,[u0,u1,.lbx [.ah x.az,pv],.ah (x.bH.length:Int)],W):=by
 refine D6 (qt (Q:=λq=>q=(.exit 8,[u0,u1,.lbx [.ah x.az,pv],.ah (x.bH.length:Int)],W)) (λz v w=>∃i:Nat,i<=x.bH.length/\v=[u0,u1,.lbx [.ah x.az,pv],.ah (i:Int)]/\w=W/\z=x.bH.length-i) ?_ (n:=x.bH.length) ⟨0,kW _,rfl,rfl,rfl⟩);have hc:Ψ pv=δ pv:=by rcases h with⟨_,rfl|rfl⟩|⟨id,g,rfl,_⟩<;>rfl
 rintro z v w ⟨i,hi,rfl,rfl,hz⟩;by_cases hlt:i<x.bH.length
 ·have hq:x.bH[i]? =δ x.bH[i]:=cC hlt;obtain⟨id,g,e1,e2,e3⟩:=h.at hq;have hb:=hx _ (aDo hlt);refine .inl ⟨x.bH.length-(i+1),_,_,by omega,?_,i+1,hlt,rfl,rfl,rfl⟩;try unfold P4
  simp only[cH,dr];have hp2:Γ 1 [.ah x.az,pv]=δ pv:=hc;rw[iR hq,bS,dL];simp only[kg,bS,hp2,e1,show ZP (.oe id g i 0)=δ (.oe id g i 0)from rfl,show ∀o,WC o (.oe id g i 0)=δ (.oe id g i o)from λo=>by simp [WC],show WC 1 (.oe id g i 6)=δ (.oe id g i 7)from rfl,e2];rw[show Γ 0 ((bg x.bH[i]).drop 10)=δ (sl 8 ff x.bH[i].dF)from rfl,bS,eH (Gk (most:=140737488355328 / 64) (m:=ar1) (r0:=aBw) aep rfl (λ_ _=>rfl) (by omega) w),bS,show Γ 0 ((bg x.bH[i]).drop 7)=δ (sl 2 iF x.bH[i].fM.br)from rfl,bS,eH (Gk (most:=140737488355328 / 16) (m:=F5) (r0:=PD) Mm rfl (λ_ _=>rfl) (by omega) w),bS,show((Ψ (sl 8 ff x.bH[i].dF)).bind λv=>δ [v])=δ [sl 8 ff x.bH[i].dF]from rfl,bS,e3 10 _ rfl,bS,show((Ψ (sl 2 iF x.bH[i].fM.br)).bind λv=>δ [v])=δ [sl 2 iF x.bH[i].fM.br]from rfl,bS,e3 7 _ rfl,bS,fT hq (by unfold aZ;omega),bS]
 ·have:i=x.bH.length:=by omega
  subst this;refine .inr ⟨_,?_,by simp,rfl⟩;try unfold P4
  simp only[cH,dr];rw[iQ,bS,dD]
theorem Ry{α:Type}{E:aq->α->HP}{sz most:Nat}{v:AV}{l:List α}{e:aq}{x:α}(hl:l.length+1<=most)(H:Hs dV aL σ (Sl E sz v l*(E e x*R))):∃v' σ',WK sz most v (.sl sz [e]) σ=δ (v',σ')/\Hs dV aL σ' (Sl E sz v' (l++[x])*R):=
 J6 (ys:=[e]) (xs:=[x]) (eS (by rw[aCE]) H) (by simpa using hl) (λ_ _ _ _=>trivial)
theorem at4{l:List ey}(hl:l.length<=1000000)(H:Hs dV aL σ R):∃v σ',Tr [sl 7 cG l] σ=δ (v,σ')/\Ψ v=δ v/\Hs dV aL σ' (Sl (fl cG) 7 v l*R):=
 Rz (most:=140737488355328 / 80) (r:=λ_ _=>μ) rfl (λ_ _=>rfl) (by omega) (λ_ _ _ _=>trivial) H
theorem arl(n:ByteArray)(m:Int)(v:AV):(((ψ 3 (.agg [.str n,.ah m,v])).bind λnE=>(ir 0 nE [bE,(ε 0),Zg]).bind λpO=>δ pO).bind λcs=>δ (Yh 3 (iP 3 1 cs)))=δ (.sl 3 [[.str n,.ah m,v]]):=rfl
theorem ark(n:Int)(v:AV):(((ψ 2 (.agg [.ah n,v])).bind λnE=>(ir 0 nE [(ε 0),Zg]).bind λpO=>δ pO).bind λcs=>δ (Yh 2 (iP 2 1 cs)))=δ (.sl 2 [[.ah n,v]]):=rfl
theorem au9{s:i7}(hb:J9 s)(H:Hs dV aL σ R)(un pl u:AV):∃v W,Y7 (IK (sl 3 cz s.bk.bf) (ε (s.bk.bf.length:Int))) [.lbx (cm s),u,.lbx [.aA,un,.aA,.aA,pl],.ah 0] σ=δ (.exit 0,[.lbx (cm s),u,.lbx [v,un,.aA,.aA,pl],.ah (s.bk.bf.length:Int)],W)/\Hs dV aL W (Sl zF 3 v s.bk.bf*R):=by
 suffices h:∃q,Y7 (IK (sl 3 cz s.bk.bf) (ε (s.bk.bf.length:Int))) [.lbx (cm s),u,.lbx [.aA,un,.aA,.aA,pl],.ah 0] σ=δ q/\∃v W,q=(.exit 0,[.lbx (cm s),u,.lbx [v,un,.aA,.aA,pl],.ah (s.bk.bf.length:Int)],W)/\Hs dV aL W (Sl zF 3 v s.bk.bf*R) by obtain⟨q,e,v,W,rfl,K⟩:=h;exact⟨v,W,e,K⟩
 refine qt (λz v w=>∃(i:Nat)(vo:AV),i<=s.bk.bf.length/\v=[.lbx (cm s),u,.lbx [vo,un,.aA,.aA,pl],.ah (i:Int)]/\z=s.bk.bf.length-i/\Hs dV aL w (Sl zF 3 vo (s.bk.bf.take i)*R)) ?_ (n:=s.bk.bf.length) ⟨0,.aA,kW _,rfl,rfl,sV H (.inl rfl)⟩;rintro z v w ⟨i,vo,hi,rfl,hz,K⟩;by_cases h:i<s.bk.bf.length
 ·obtain⟨x,eZ⟩:∃x,x=s.bk.bf[i]:=⟨_,rfl⟩
  have hx:s.bk.bf[i]? =δ x:=by rw[eZ];exact cC h
  have hpb:=hb.par x (dm hx);have hlb:=hb.jM
  have step:∃iq w',(IK (sl 3 cz s.bk.bf) (ε (s.bk.bf.length:Int))) [.lbx (cm s),u,.lbx [vo,un,.aA,.aA,pl],.ah (i:Int)] w=δ (.normal,[.lbx (cm s),u,.lbx [iq,un,.aA,.aA,pl],.ah ((i+1:Nat):Int)],w')/\Hs dV aL w' (Sl zF 3 iq (s.bk.bf.take i++[x])*R):=by
   try unfold IK
   simp only[cH,dr];rw[iR hx,bS,dL,gH hx,bS,qG,bS,show VU 0 3 (cz x)=δ (.agg (cz x))from rfl,bS,show ψ 3 (.agg (cz x))=δ (cz x)from rfl,bS,show ir 0 (cz x) [bE,(ε 0),Zg]=δ (cz x)from rfl,bS,nr,bS];obtain⟨pv,w1,c1,c2,c3⟩:=at4 hpb.1 K;have Bn:=az9 c3;rw[c1,bS];simp only;rw[show((Ψ pv).bind λv=>δ [v])=δ [pv]from by rw[c2];rfl,bS,show ir 2 [pv] (cz x)=δ [.str x.name,.ah x.size,pv]from rfl,bS,show Γ 2 [.str x.name,.ah x.size,pv]=δ pv from c2,bS,Bn.len,bS];refine NJ (ar9 hpb.2 hpb.1 Bn _ _ _) ?_;simp only[qj,cH,dr,kg,bS];have Oo:=Dh K;rw[show Γ 0 [vo,un,.aA,.aA,pl]=δ vo from Oo,bS,show VU 0 3 [.str x.name,.ah x.size,pv]=δ (.agg [.str x.name,.ah x.size,pv])from rfl,bS,arl,bS];obtain⟨iq,w2,f1,f2⟩:=Ry (most:=140737488355328 / 48) (E:=zF) (l:=s.bk.bf.take i) (v:=vo) (e:=[.str x.name,.ah x.size,pv]) (x:=x) (R:=R) (by rw[rM];omega) (eS (by ac_rfl) (ahq.2 ⟨pv,rfl,c3⟩));rw[f1,bS];simp only;rw[show((Ψ iq).bind λv=>δ [v])=δ [iq]from by rw[Dh f2];rfl,bS,show ir 0 [iq] [vo,un,.aA,.aA,pl]=δ [iq,un,.aA,.aA,pl]from rfl,bS,fT hx (by unfold aZ;omega),bS];exact⟨iq,w2,rfl,f2⟩
  obtain⟨iq,w',s1,s2⟩:=step;refine .inl ⟨s.bk.bf.length-(i+1),_,_,by omega,s1,i+1,iq,h,rfl,rfl,?_⟩;rw[TC,hx];exact s2
 ·have:i=s.bk.bf.length:=by omega
  subst this;rw[UN]at K;refine .inr ⟨(.exit 0,[.lbx (cm s),u,.lbx [vo,un,.aA,.aA,pl],.ah (s.bk.bf.length:Int)],w),?_,by simp,vo,w,rfl,K⟩;try unfold IK
  simp only[cH,dr];rw[iQ,bS,dD]
theorem ava{s:i7}(hb:J9 s)(H:Hs dV aL σ R)(vl un pl u:AV)(hvl:Ψ vl=δ vl):∃v W,Y7 (IL (sl 3 dX s.bn) (ε (s.bn.length:Int))) [.lbx (cm s),u,.lbx [vl,un,.aA,.aA,pl],.ah 0] σ=δ (.exit 4,[.lbx (cm s),u,.lbx [vl,un,v,.aA,pl],.ah (s.bn.length:Int)],W)/\Hs dV aL W (Sl (fl dX) 3 v s.bn*R):=by
 suffices h:∃q,Y7 (IL (sl 3 dX s.bn) (ε (s.bn.length:Int))) [.lbx (cm s),u,.lbx [vl,un,.aA,.aA,pl],.ah 0] σ=δ q/\∃v W,q=(.exit 4,[.lbx (cm s),u,.lbx [vl,un,v,.aA,pl],.ah (s.bn.length:Int)],W)/\Hs dV aL W (Sl (fl dX) 3 v s.bn*R) by obtain⟨q,e,v,W,rfl,K⟩:=h;exact⟨v,W,e,K⟩
 refine qt (λz v w=>∃(i:Nat)(vo:AV),i<=s.bn.length/\v=[.lbx (cm s),u,.lbx [vl,un,vo,.aA,pl],.ah (i:Int)]/\z=s.bn.length-i/\Hs dV aL w (Sl (fl dX) 3 vo (s.bn.take i)*R)) ?_ (n:=s.bn.length) ⟨0,.aA,kW _,rfl,rfl,sV H (.inl rfl)⟩;rintro z v w ⟨i,vo,hi,rfl,hz,K⟩;by_cases h:i<s.bn.length
 ·obtain⟨x,eZ⟩:∃x,x=s.bn[i]:=⟨_,rfl⟩
  have hx:s.bn[i]? =δ x:=by rw[eZ];exact cC h
  have hpb:=hb.pre.2 x (dm hx);have hlb:=hb.pre.1
  have step:∃iq w',(IL (sl 3 dX s.bn) (ε (s.bn.length:Int))) [.lbx (cm s),u,.lbx [vl,un,vo,.aA,pl],.ah (i:Int)] w=δ (.normal,[.lbx (cm s),u,.lbx [vl,un,iq,.aA,pl],.ah ((i+1:Nat):Int)],w')/\Hs dV aL w' (Sl (fl dX) 3 iq (s.bn.take i++[x])*R):=by
   try unfold IL
   simp only[cH,dr];rw[iR hx,bS,dL,gH hx,bS,qG,bS,show VU 0 3 (dX x)=δ (.agg (dX x))from rfl,bS,show ψ 3 (.agg (dX x))=δ (dX x)from rfl,bS,show ir 0 (dX x) [(ε 0),bE,Zg]=δ (dX x)from rfl,bS,show Γ 2 (dX x)=δ (sl 3 dW x.jN)from rfl,bS,Gk (most:=140737488355328 / 32) (m:=Tp) (r0:=Tq) aAU rfl (λ_ _=>rfl) (by omega) w,bS];simp only[kg,bS];have Oo:=Dh K;rw[show((Ψ (sl 3 dW x.jN)).bind λv=>δ [v])=δ [sl 3 dW x.jN]from rfl,bS,show ir 2 [sl 3 dW x.jN] (dX x)=δ (dX x)from rfl,bS,show Γ 2 [vl,un,vo,.aA,pl]=δ vo from Oo,bS,show VU 0 3 (dX x)=δ (.agg (dX x))from rfl,bS,show(((ψ 3 (.agg (dX x))).bind λnE=>(ir 0 nE [(ε 0),bE,Zg]).bind λpO=>δ pO).bind λcs=>δ (Yh 3 (iP 3 1 cs)))=δ (.sl 3 [dX x])from rfl,bS];obtain⟨iq,w2,f1,f2⟩:=Ry (most:=140737488355328 / 48) (E:=fl dX) (l:=s.bn.take i) (v:=vo) (e:=dX x) (x:=x) (R:=R) (by rw[rM];omega) (eS (by ac_rfl) (p9.2 ⟨(rfl:dX x=dX x),K⟩));rw[f1,bS];simp only;rw[show((Ψ iq).bind λv=>δ [v])=δ [iq]from by rw[Dh f2];rfl,bS,show ir 2 [iq] [vl,un,vo,.aA,pl]=δ [vl,un,iq,.aA,pl]from rfl,bS,fT hx (by unfold aZ;omega),bS];exact⟨iq,w2,rfl,f2⟩
  obtain⟨iq,w',s1,s2⟩:=step;refine .inl ⟨s.bn.length-(i+1),_,_,by omega,s1,i+1,iq,h,rfl,rfl,?_⟩;rw[TC,hx];exact s2
 ·have:i=s.bn.length:=by omega
  subst this;rw[UN]at K;refine .inr ⟨(.exit 4,[.lbx (cm s),u,.lbx [vl,un,vo,.aA,pl],.ah (s.bn.length:Int)],w),?_,by simp,vo,w,rfl,K⟩;try unfold IL
  simp only[cH,dr];rw[iQ,bS,dD]
theorem at3{l:List bA}(hl:l.length<=1000000)(H:Hs dV aL σ R):∃v σ',PE [sl 11 bg l] σ=δ (v,σ')/\Ψ v=δ v/\Hs dV aL σ' (Sl (fl bg) 11 v l*R):=awV (by omega) H
theorem avb{s:i7}(hb:J9 s)(H:Hs dV aL σ R)(vl un vp pl u:AV):∃v W,Y7 (IM (sl 2 fc s.dJ) (ε (s.dJ.length:Int))) [u,.lbx [vl,un,vp,.aA,pl],.ah 0] σ=δ (.exit 6,[u,.lbx [vl,un,vp,v,pl],.ah (s.dJ.length:Int)],W)/\Hs dV aL W (Sl zD 2 v s.dJ*R):=by
 suffices h:∃q,Y7 (IM (sl 2 fc s.dJ) (ε (s.dJ.length:Int))) [u,.lbx [vl,un,vp,.aA,pl],.ah 0] σ=δ q/\∃v W,q=(.exit 6,[u,.lbx [vl,un,vp,v,pl],.ah (s.dJ.length:Int)],W)/\Hs dV aL W (Sl zD 2 v s.dJ*R) by obtain⟨q,e,v,W,rfl,K⟩:=h;exact⟨v,W,e,K⟩
 refine qt (λz v w=>∃(i:Nat)(vo:AV),i<=s.dJ.length/\v=[u,.lbx [vl,un,vp,vo,pl],.ah (i:Int)]/\z=s.dJ.length-i/\Hs dV aL w (Sl zD 2 vo (s.dJ.take i)*R)) ?_ (n:=s.dJ.length) ⟨0,.aA,kW _,rfl,rfl,sV H (.inl rfl)⟩;rintro z v w ⟨i,vo,hi,rfl,hz,K⟩;by_cases h:i<s.dJ.length
 ·obtain⟨x,eZ⟩:∃x,x=s.dJ[i]:=⟨_,rfl⟩
  have hx:s.dJ[i]? =δ x:=by rw[eZ];exact cC h
  have hpb:=hb.cK x (dm hx);have hlb:=hb.S6
  have step:∃iq w',(IM (sl 2 fc s.dJ) (ε (s.dJ.length:Int))) [u,.lbx [vl,un,vp,vo,pl],.ah (i:Int)] w=δ (.normal,[u,.lbx [vl,un,vp,iq,pl],.ah ((i+1:Nat):Int)],w')/\Hs dV aL w' (Sl zD 2 iq (s.dJ.take i++[x])*R):=by
   try unfold IM
   simp only[cH,dr];rw[iR hx,bS,dL,gH hx,bS,qG,bS,show VU 0 2 (fc x)=δ (.agg (fc x))from rfl,bS,show ψ 2 (.agg (fc x))=δ (fc x)from rfl,bS,show ir 0 (fc x) [(ε 0),Zg]=δ (fc x)from rfl,bS,V0,bS];obtain⟨pv,w1,c1,c2,c3⟩:=at3 hpb.1 K;have Bn:=az9 c3;rw[c1,bS];simp only;rw[show((Ψ pv).bind λv=>δ [v])=δ [pv]from by rw[c2];rfl,bS,show ir 1 [pv] (fc x)=δ [.ah x.az,pv]from rfl,bS,show Γ 1 [.ah x.az,pv]=δ pv from c2,bS,Bn.len,bS];refine NJ (asa hpb.2 hpb.1 Bn _ _) ?_;simp only[qj,cH,dr,kg,bS];have Oo:=Dh K;rw[show Γ 3 [vl,un,vp,vo,pl]=δ vo from Oo,bS,show VU 0 2 [.ah x.az,pv]=δ (.agg [.ah x.az,pv])from rfl,bS,ark,bS];obtain⟨iq,w2,f1,f2⟩:=Ry (most:=140737488355328 / 32) (E:=zD) (l:=s.dJ.take i) (v:=vo) (e:=[.ah x.az,pv]) (x:=x) (R:=R) (by rw[rM];omega) (eS (by ac_rfl) (aho.2 ⟨pv,rfl,c3⟩));rw[f1,bS];simp only;rw[show((Ψ iq).bind λv=>δ [v])=δ [iq]from by rw[Dh f2];rfl,bS,show ir 3 [iq] [vl,un,vp,vo,pl]=δ [vl,un,vp,iq,pl]from rfl,bS,fT hx (by unfold aZ;omega),bS];exact⟨iq,w2,rfl,f2⟩
  obtain⟨iq,w',s1,s2⟩:=step;refine .inl ⟨s.dJ.length-(i+1),_,_,by omega,s1,i+1,iq,h,rfl,rfl,?_⟩;rw[TC,hx];exact s2
 ·have:i=s.dJ.length:=by omega
  subst this;rw[UN]at K;refine .inr ⟨(.exit 6,[u,.lbx [vl,un,vp,vo,pl],.ah (s.dJ.length:Int)],w),?_,by simp,vo,w,rfl,K⟩;try unfold IM
  simp only[cH,dr];rw[iQ,bS,dD]
end
theorem aqb{s:i7}(hb:J9 s)(σ:Heap):Qc [.agg (cm s)] σ=δ (.agg (cm s),σ):=by
 suffices h:∃v,Y9 (.a [(.e 3 [.k,.k,(.e 7 qz)]),(.s 4),Du,(.e 2 [.k,(.e 11 nC)]),(.s 3)]) v=.agg (cm s)/\aCz (.agg (cm s)) σ=δ (v,σ) by obtain⟨v,h1,h2⟩:=h;exact Gz rfl (dO (nT rfl) rfl) h1 h2
 unfold aCz;have hu:=hb.un;have hpl:=hb.pl;rw[show ψ 5 (.agg (cm s))=δ (cm s)from rfl,bS,show Γ 4 (cm s)=δ (sl 3 dA s.bM)from rfl,bS,Gk (most:=140737488355328 / 24) (m:=Tn) (r0:=aCL) aBq rfl (λ_ _=>rfl) (by omega) σ,bS];simp only;rw[show((((Ψ (sl 3 dA s.bM)).bind λv=>δ [v]).bind λc4=>(ir 4 c4 Dt).bind λc5=>δ c5).bind λcs=>δ (Φ cs))=δ (.agg [Zg,Zg,Zg,Zg,sl 3 dA s.bM])from rfl,bS,show ψ 5 (.agg [Zg,Zg,Zg,Zg,sl 3 dA s.bM])=δ [Zg,Zg,Zg,Zg,sl 3 dA s.bM]from rfl,bS,show ir 0 [Zg,Zg,Zg,Zg,sl 3 dA s.bM] Dt=δ [Zg,Zg,Zg,Zg,sl 3 dA s.bM]from rfl,bS,show Γ 1 (cm s)=δ (sl 4 dh s.bk.cV)from rfl,bS,Gk (most:=140737488355328 / 40) (m:=aAD) (r0:=aAm) az1 rfl (λ_ _=>rfl) (by omega) σ,bS];simp only;rw[show((Ψ (sl 4 dh s.bk.cV)).bind λv=>δ [v])=δ [sl 4 dh s.bk.cV]from rfl,bS,show ir 1 [sl 4 dh s.bk.cV] [Zg,Zg,Zg,Zg,sl 3 dA s.bM]=δ [Zg,sl 4 dh s.bk.cV,Zg,Zg,sl 3 dA s.bM]from rfl,bS,abQ,bS,fu,bS];obtain⟨v1,W1,l1,K1⟩:=au9 hb (R:=emp) (C7 (B:=dV) σ) (sl 4 dh s.bk.cV) (sl 3 dA s.bM) (.lbx Dt);refine aAh l1 ?_;simp only[qj,cH,dr,kg,bS];rw[show Γ 2 (cm s)=δ (sl 3 dX s.bn)from rfl,bS,fu,bS];obtain⟨v2,W2,l2,K2⟩:=ava hb K1 v1 (sl 4 dh s.bk.cV) (sl 3 dA s.bM) (.lbx Dt) (Dh K1);refine aAh l2 ?_;simp only[qj,cH,dr,kg,bS];rw[show Γ 3 (cm s)=δ (sl 2 fc s.dJ)from rfl,bS,fu,bS];obtain⟨v3,W3,l3,K3⟩:=avb hb K2 v1 (sl 4 dh s.bk.cV) v2 (sl 3 dA s.bM) (.lbx Dt);refine aAh l3 ?_;simp only[qj,cH,dr,kg,bS];rw[show VU 0 5 [v1,sl 4 dh s.bk.cV,v2,v3,sl 3 dA s.bM]=δ (.agg [v1,sl 4 dh s.bk.cV,v2,v3,sl 3 dA s.bM])from rfl,bS,show ψ 5 (.agg [v1,sl 4 dh s.bk.cV,v2,v3,sl 3 dA s.bM])=δ [v1,sl 4 dh s.bk.cV,v2,v3,sl 3 dA s.bM]from rfl,bS,show ir 0 [v1,sl 4 dh s.bk.cV,v2,v3,sl 3 dA s.bM] Dt=δ [v1,sl 4 dh s.bk.cV,v2,v3,sl 3 dA s.bM]from rfl,bS,show VU 0 5 [v1,sl 4 dh s.bk.cV,v2,v3,sl 3 dA s.bM]=δ (.agg [v1,sl 4 dh s.bk.cV,v2,v3,sl 3 dA s.bM])from rfl,bS];have J1:=eS (show _=Sl zF 3 v1 s.bk.bf*(Sl zD 2 v3 s.dJ*(Sl (fl dX) 3 v2 s.bn*emp)) by ac_rfl) K3;have J2:=eS (show _=Sl (fl dX) 3 v2 s.bn*(Sl zD 2 v3 s.dJ*(Sl zF 3 v1 s.bk.bf*emp)) by ac_rfl) K3;obtain⟨v1',a1,a2⟩:=arh J1 (bN _) 6;obtain⟨v2',b1,b2⟩:=aCN J2 aci (bN _) 7;obtain⟨v3',c1,c2⟩:=aqW K3 (bN _) 6;refine⟨.agg [v1',sl 4 dh s.bk.cV,v2',v3',sl 3 dA s.bM],?_,MN K3 ?_ ?_⟩
 ·have Cz:Y9 Du v2'=sl 3 dX s.bn:=by
   rcases b2 with⟨h,rfl|rfl⟩|rfl
   ·rw[h];rfl
   ·rw[h];rfl
   ·exact mT (λ_=>rfl) _
  show Φ (TQ [(.e 3 [.k,.k,(.e 7 Sm)]),(.s 4),Du,(.e 2 [.k,(.e 11 Cg)]),(.s 3)] _)=_;simp only[TQ,a2,Cz,c2];rfl
 ·simp only[X4,A.gP,a1,b1,c1,sk az1 _ W3 σ.length 8,sk aBq _ W3 σ.length 8,aJ,cR]
 ·intro e
  have n1:v1'=v1:=by
   rcases AD J1 with⟨_,rfl|rfl,_⟩|⟨id,g,seg,rfl,hl,K⟩
   ·simp [X4]at a1;exact a1.symm
   ·simp [X4]at a1;exact a1.symm
   ·obtain⟨k1,k2⟩:=jO K;have:=(bG.1 k2).1;subst e;omega
  have n2:v2'=v2:=by
   rcases AD J2 with⟨_,rfl|rfl,_⟩|⟨id,g,seg,rfl,hl,K⟩
   ·simp [X4]at b1;exact b1.symm
   ·simp [X4]at b1;exact b1.symm
   ·obtain⟨k1,k2⟩:=jO K;have:=(bG.1 k2).1;subst e;omega
  have n3:v3'=v3:=by
   rcases AD K3 with⟨_,rfl|rfl,_⟩|⟨id,g,seg,rfl,hl,K⟩
   ·simp [X4]at c1;exact c1.symm
   ·simp [X4]at c1;exact c1.symm
   ·obtain⟨k1,k2⟩:=jO K;have:=(bG.1 k2).1;subst e;omega
  rw[n1,n2,n3]
end
section
open HP
theorem aof{l:List p7}(h:BZ l=0):l.length<=30:=by
 unfold BZ at h;split at h
 ·cases h
 ·omega
theorem ae9(size:Int):∀(l pre:List ey),AZ size pre l=0->∀x∈l,(0<=x.default/\x.default<=65535)/\x.ranges.length<=30
 |[],pre,h,x,hx=>by simp at hx
 |y::l,pre,h,x,hx=>by
  rw[ac0]at h;by_cases h0:zU size pre y=0;case neg=>rw[aO h0]at h;exact absurd h h0
  rw[aP h0]at h;rcases jP.1 hx with rfl|hx
  ·unfold zU at h0;split at h0
   ·cases h0
   split at h0
   ·cases h0
   split at h0
   ·cases h0
   split at h0
   ·cases h0
   rename_i h4;split at h0
   ·cases h0
   refine⟨?_,aof h0⟩;cases q:aT x.default 0 65535
   ·exact absurd (.inr (.inr q)) h4
   ·exact tK q
  ·exact ae9 size l _ h x hx
theorem afM{p:cD}(h:p5 p=0):p.params.length<=40/\∀x∈p.params,(0<=x.default/\x.default<=65535)/\x.ranges.length<=30:=by
 refine⟨aaP h,?_⟩;unfold p5 at h;split at h
 ·cases h
 split at h
 ·cases h
 split at h
 ·cases h
 split at h
 ·cases h
 exact ae9 _ _ _ h
structure Ka (s : i7) : Prop where
 ok:zw s
 bk:ji s.bk=0
 pre:ru s.bk s.bn=0
 S6:s.dJ.length<=30
 lok:∀l∈s.dJ,pL l.bH=0
 pl:s.bM.length<=40
 fnd:∀p∈s.bM,(um s.dJ p.list).2=θ
theorem ahs{s:i7}(hs:zw s)(h:Ca s=0):Ka s:=by
 unfold Ca at h;by_cases h1:ru s.bk s.bn=0;case neg=>rw[aP h1]at h;exact absurd h h1
 rw[aO (λq=>q h1)]at h;split at h
 ·cases h
 rename_i h2;by_cases h3:jR (C8 s) s.dJ 0=0;case neg=>rw[aP h3]at h;exact absurd h h3
 rw[aO (λq=>q h3)]at h;split at h
 ·cases h
 rename_i h4;refine⟨hs,Qi h1,h1,by omega,λl hl=>?_,by omega,λp hp=>?_⟩
 ·obtain⟨i,hi,e⟩:=Vb hl;have:=(zi s.dJ 0).1 h3 i l (by rw[<-e];exact cC hi);unfold C8 at this;split at this
  ·cases this
  split at this
  ·cases this
  unfold yz at this;rw[aO (λq=>q h1)]at this;by_cases h5:pL l.bH=0
  ·exact h5
  ·rw[aP h5]at this;exact absurd this h5
 ·obtain⟨i,hi,e⟩:=Vb hp;have:=(zi s.bM 0).1 h i p (by rw[<-e];exact cC hi);unfold M5 at this;split at this
  ·cases this
  split at this
  ·cases this
  split at this
  ·cases this
  rename_i q;simpa using q
theorem aeM{r:eU}{bn:List fL}(h:ru r bn=0):bn.length<=200/\∀p∈bn,p.jN.length<=2000/\∀x∈p.jN,0<=x.level/\x.level<=65535:=by
 have hr:=Qi h;unfold ru at h;rw[aO (λq=>q hr)]at h;split at h
 ·cases h
 refine⟨by omega,λp hp=>?_⟩;obtain⟨i,hi,e⟩:=Vb hp;have h2:=(zi bn 0).1 h i p (by rw[<-e];exact cC hi);unfold JR at h2;split at h2
 ·cases h2
 split at h2
 ·cases h2
 split at h2
 ·cases h2
 split at h2
 ·cases h2
 refine⟨by omega,λx hx=>?_⟩;obtain⟨j,hj,e⟩:=Vb hx;have h3:=(zi p.jN 0).1 h2 j x (by rw[<-e];exact cC hj);unfold Kb at h3;split at h3
 ·cases h3
 split at h3
 ·cases h3
 rename_i q;exact tK (by simpa using q)
theorem aup{r:eU}{bn:List fL}(h:ru r bn=0)(k:aC)(v:mz):0<=(xq bn k v).1/\(xq bn k v).1<=65535:=by
 unfold xq;split
 ·simp
 split
 ·simp
 rename_i h2;split
 ·exact tK (by simpa using h2)
 split
 ·simp
 rename_i p hp;split
 ·simp
 rename_i x hx;exact((aeM h).2 p (xD hp)).2 x (xD hx)
theorem Ka.bd{s:i7}(h:Ka s):J9 s:=by
 have hl:=Mz h.bk;have hp:=aeM h.pre;refine⟨?_,λp hp=>?_,?_,⟨by omega,λp q=>by have:=(hp.2 p q).1;omega⟩,by have:=h.S6;omega,λl hl=>?_,by have:=h.pl;omega⟩
 ·unfold wE at hl;split at hl
  ·cases hl
  ·omega
 ·have:=afM (QD hl p hp);exact⟨by omega,λq hq=>by have:=(this.2 q hq).2;omega⟩
 ·have hr:=h.bk;unfold ji at hr;rw[aP hl]at hr;split at hr
  ·cases hr
  ·omega
 ·have hg:=MC (h.lok l hl);exact⟨by have:=hg.len;omega,λc hc=>⟨by have:=(hg.mv c hc).1;omega,by have:=hg.pts c hc;omega⟩⟩
def oc(l:List cD):List (ByteArray×cD):=l.foldl (λm p=>fJ p.name p m) []
def E7(lm:List (ByteArray×cD))(u:iw):List ey:=match dQ u.ga lm with
 |none=>[]
 |some p=>p.params
def Ke(lm:List (ByteArray×cD))(m:List (aC×ey))(u:iw):List (aC×ey):=(E7 lm u).foldl (λm x=>fJ ⟨u.az,x.name⟩ x m) m
def xI(r:eU):List (aC×ey):=r.cV.foldl (Ke (oc r.bf)) []
def nA(s:i7)(p:pH):bz:=⟨⟨0,0,ι⟩,p.az,p.kD,(um s.dJ p.list).1.bH,-1,65535,-1,μ⟩
def mD(s:i7):cr:=⟨⟨s.bM.map (nA s),0,65535,ι⟩,s,nZ s.bk,δ (xI s.bk),[]⟩
theorem WV{κ ν:Type}[DecidableEq κ]{P:ν->Prop}{k:κ}{v:ν}(hv:P v):∀{l:List (κ×ν)},(∀p∈l,P p.2)->∀p∈fJ k v l,P p.2
 |[],_,p,hp=>by simp [fJ]at hp;rw[hp];exact hv
 |(k',v')::r,h,p,hp=>by
  rw[fJ]at hp;split at hp
  ·rcases jP.1 hp with rfl|hp
   ·exact hv
   ·exact h p (by simp [hp])
  ·rcases jP.1 hp with rfl|hp
   ·exact h _ (by simp)
   ·exact WV hv (λp hp=>h p (by simp [hp])) p hp
theorem QV{α β:Type}{P:β->Prop}{f:β->α->β}:∀(l:List α)(b:β),P b->(∀b,P b->∀x∈l,P (f b x))->P (l.foldl f b)
 |[],b,h,_=>h
 |x::l,b,h,k=>QV l (f b x) (k b h x (by simp)) λb hb y hy=>k b hb y (by simp [hy])
theorem aeA{P:cD->Prop}{l:List cD}(h:∀p∈l,P p):∀p∈oc l,P p.2:=by unfold oc;exact QV (P:=λm:List (ByteArray×cD)=>∀p∈m,P p.2) l [] (by simp) λm hm x hx=>WV (h x hx) hm
theorem ard{P:ey->Prop}{r:eU}(h:∀p∈r.bf,∀x∈p.params,P x):∀p∈xI r,P p.2:=by
 unfold xI;refine QV (P:=λm:List (aC×ey)=>∀p∈m,P p.2) r.cV [] (by simp) λm hm u hu=>?_
 unfold Ke;refine QV (P:=λm:List (aC×ey)=>∀p∈m,P p.2) _ m hm λm hm x hx=>WV ?_ hm
 unfold E7 at hx;cases hf:dQ u.ga (oc r.bf)with
 |none=>rw[hf]at hx;simp at hx
 |some p=>rw[hf]at hx;exact aeA (P:=λp=>∀x∈p.params,P x) h _ (Dr hf) x hx
theorem acp{l:List jl}{n:Int}(h:(um l n).2=θ):(um l n).1∈l:=by
 unfold um at h ⊢;cases hf:l.find? (λx=>decide (x.az=n))with
 |none=>rw[hf]at h;cases h
 |some x=>exact xD hf
theorem aq9{s:i7}(h:Ka s):zP (mD s):=by
 obtain⟨hr,hp,hl,hb⟩:=h.ok;refine⟨⟨hp,aup h.pre,λk=>?_⟩,⟨⟨ZC _,by show(0:Int)<=_;decide⟩,?_,λb hb=>?_,by show(0:Int)<=65535/\(65535:Int)<=65535;decide⟩,?_,by show 0<=5000;decide,rfl⟩
 ·unfold gr;cases hf:dQ k ((mD s).params.getD [])with
  |none=>simp
  |some x=>exact ard (P:=λx=>0<=x.default/\x.default<=65535) (λp hp x hx=>((afM (QD (Mz h.bk) p hp)).2 x hx).1) _ (Dr hf)
 ·show(s.bM.map (nA s)).length<=40;rw[X1];exact h.pl
 ·obtain⟨p,hp,rfl⟩:=gh.1 hb;have hm:=acp (h.fnd p hp);refine{sS:=(hl.2 _ hm).2,fC:=h.lok _ hm,can:=λl e=>?_,runs:=λk r q=>?_,jc:=?_,uQ:=?_,cK:=?_,FK:=?_}
  ·simp [nA]at e
  ·simp [nA]at q
  ·show(0:Int)<=65535/\(65535:Int)<=65535;decide
  ·show(0:Int)<=0/\(0:Int)<=0/\(0:Int)<=0;decide
  ·show(-1:Int)<=-1/\(-1:Int)<(((um s.dJ p.list).1.bH.length:Nat):Int);omega
  ·left;show(-1:Int)<0;decide
 ·show(s.bM.map (nA s)).map (·.az)=_;rw[YG];rfl
theorem apz{s:i7}(h:Ka s):(mD s).keys.length<=1000000:=by have:=Rj h.bk;show(nZ s.bk).length<=_;omega
section
variable {aL σ : Heap} {R : HP}
section
variable {κ ν : Type} [DecidableEq κ] {ek : A.EK} {eK : κ -> AV} {eV : ν -> AV} {B : aW -> Prop} {id : Nat} {l : List (κ × ν)}
theorem ahz(hq:∀a b,WN ek (eK a) (eK b)=δ (decide (a=b))){x:κ}(hok:A.lS ek (eK x)=θ)(v:ν)(H:Hs dV aL σ (blk id (.map (l.map λp=>(eK p.1,eV p.2)))*R)):∃σ',A.jX ek (.om id) (eK x) (eV v) σ=δ σ'/\Hs dV aL σ' (blk id (.map ((fJ x v l).map λp=>(eK p.1,eV p.2)))*R):=by refine⟨σ.set id (.map ((fJ x v l).map λp=>(eK p.1,eV p.2))),?_,AM H trivial⟩;simp only[A.jX,hok,cU,(jO H).2,GS hq,cR]
theorem auZ(hq:∀a b,WN ek (eK a) (eK b)=δ (decide (a=b))){x:κ}(hok:A.lS ek (eK x)=θ)(z:AV)(H:Hs B aL σ (blk id (.map (l.map λp=>(eK p.1,eV p.2)))*R)):Yt ek (.om id) (eK x) z σ=δ (((dQ x l).map eV).getD z):=by simp only[Yt,hok,cU,US,(jO H).2,aJ,EV hq,cR]
end
def zW(p:ByteArray×cD):AV×AV:=(.str p.1,.agg (cz p.2))
theorem avF{s:i7}(hl:s.bk.bf.length<=1000000){ql:Nat}(H:Hs dV aL σ (blk ql (.map (([]:List (ByteArray×cD)).map zW))*R)):∃W,Y7 (LP (sl 3 cz s.bk.bf) (ε (s.bk.bf.length:Int)) ql) [.lbx (cm s),.ah 0] σ=δ (.exit 0,[.lbx (cm s),.ah (s.bk.bf.length:Int)],W)/\Hs dV aL W (blk ql (.map ((oc s.bk.bf).map zW))*R):=by
 suffices h:∃q,Y7 (LP (sl 3 cz s.bk.bf) (ε (s.bk.bf.length:Int)) ql) [.lbx (cm s),.ah 0] σ=δ q/\∃W,q=(.exit 0,[.lbx (cm s),.ah (s.bk.bf.length:Int)],W)/\Hs dV aL W (blk ql (.map ((oc s.bk.bf).map zW))*R) by obtain⟨q,e,W,rfl,K⟩:=h;exact⟨W,e,K⟩
 refine qt (λz v w=>∃(i:Nat)(m:List (ByteArray×cD)),i<=s.bk.bf.length/\v=[.lbx (cm s),.ah (i:Int)]/\z=s.bk.bf.length-i/\(s.bk.bf.drop i).foldl (λm p=>fJ p.name p m) m=oc s.bk.bf/\Hs dV aL w (blk ql (.map (m.map zW))*R)) ?_ (n:=s.bk.bf.length) ⟨0,[],kW _,rfl,rfl,rfl,H⟩;rintro z v w ⟨i,m,hi,rfl,hz,hT,K⟩;by_cases h:i<s.bk.bf.length
 ·obtain⟨x,eZ⟩:∃x,x=s.bk.bf[i]:=⟨_,rfl⟩
  have hx:s.bk.bf[i]? =δ x:=by rw[eZ];exact cC h
  rw[UG h,<-eZ]at hT;obtain⟨w',u1,u2⟩:=ahz (ek:=.z) (eK:=λb:ByteArray=>Xo b) (eV:=λp:cD=>Φ (cz p)) (l:=m) afd (x:=x.name) rfl x K;refine .inl ⟨s.bk.bf.length-(i+1),_,w',by omega,?_,i+1,fJ x.name x m,h,rfl,rfl,hT,u2⟩;try unfold LP
  simp only[cH,dr];rw[iR hx,bS,dL,gH hx,bS,qG,bS,show VU 0 3 (cz x)=δ (.agg (cz x))from rfl,bS,show ψ 3 (.agg (cz x))=δ (cz x)from rfl,bS,show ir 0 (cz x) [bE,(ε 0),Zg]=δ (cz x)from rfl,bS,nj,bS,show VU 0 3 (cz x)=δ (.agg (cz x))from rfl,bS,u1,bS,fT hx (by unfold aZ;omega),bS]
 ·have:i=s.bk.bf.length:=by omega
  subst this;rw[aDp]at hT;simp only[aDM]at hT;rw[hT]at K;refine .inr ⟨(.exit 0,[.lbx (cm s),.ah (s.bk.bf.length:Int)],w),?_,by simp,w,rfl,K⟩;try unfold LP
  simp only[cH,dr];rw[iQ,bS,dD]
theorem asW(n:Int)(b:ByteArray):((((Ψ (.ah n)).bind λv=>δ [v]).bind λD2=>(ir 0 D2 [(ε 0),bE]).bind λyQ=>((Ψ (.str b)).bind λv=>δ [v]).bind λD3=>(ir 1 D3 yQ).bind λsM=>δ sM).bind λcs=>δ (Φ cs))=δ (.agg (aS ⟨n,b⟩)):=rfl
theorem aut{s:i7}{u:iw}{ps:List ey}(hl:ps.length<=1000000){id bF:Nat}{cs:aq}(hc:cs[10]? =δ (.om bF))(m:List (aC×ey))(H:Hs dV aL σ (blk bF (.map (m.map kq))*(blk id (.box cs)*R))):∃W,Y7 (Ge id (sl 7 cG ps) (ε (ps.length:Int))) [.lbx (cm s),.lbx (dh u),.ah 0] σ=δ (.exit 4,[.lbx (cm s),.lbx (dh u),.ah (ps.length:Int)],W)/\Hs dV aL W (blk bF (.map ((ps.foldl (λm x=>fJ ⟨u.az,x.name⟩ x m) m).map kq))*(blk id (.box cs)*R)):=by
 suffices h:∃q,Y7 (Ge id (sl 7 cG ps) (ε (ps.length:Int))) [.lbx (cm s),.lbx (dh u),.ah 0] σ=δ q/\∃W,q=(.exit 4,[.lbx (cm s),.lbx (dh u),.ah (ps.length:Int)],W)/\Hs dV aL W (blk bF (.map ((ps.foldl (λm x=>fJ ⟨u.az,x.name⟩ x m) m).map kq))*(blk id (.box cs)*R)) by obtain⟨q,e,W,rfl,K⟩:=h;exact⟨W,e,K⟩
 obtain⟨fm,hfm⟩:∃fm,fm=ps.foldl (λm x=>fJ (⟨u.az,x.name⟩:aC) x m) m:=⟨_,rfl⟩
 rw[<-hfm];refine qt (λz v w=>∃(i:Nat)(m:List (aC×ey)),i<=ps.length/\v=[.lbx (cm s),.lbx (dh u),.ah (i:Int)]/\z=ps.length-i/\(ps.drop i).foldl (λm x=>fJ ⟨u.az,x.name⟩ x m) m=fm/\Hs dV aL w (blk bF (.map (m.map kq))*(blk id (.box cs)*R))) ?_ (n:=ps.length) ⟨0,m,kW _,rfl,rfl,hfm.symm,H⟩;rintro z v w ⟨i,m,hi,rfl,hz,hT,K⟩;by_cases h:i<ps.length
 ·obtain⟨x,eZ⟩:∃x,x=ps[i]:=⟨_,rfl⟩
  have hx:ps[i]? =δ x:=by rw[eZ];exact cC h
  rw[UG h,<-eZ]at hT;obtain⟨w',u1,u2⟩:=ahz (ek:=.s [0,2]) (eK:=λk:aC=>Φ (aS k)) (eV:=λp:ey=>Φ (cG p)) (l:=m) vq (x:=⟨u.az,x.name⟩) rfl x K;have hb:=(jO (eS (show _=blk id (.box cs)*(blk bF (.map (m.map kq))*R) by ac_rfl) K)).2;refine .inl ⟨ps.length-(i+1),_,w',by omega,?_,i+1,_,h,rfl,rfl,hT,u2⟩;try unfold Ge
  simp only[cH,dr];rw[iR hx,bS,dL,gH hx,bS,qG,bS,show VU 0 7 (cG x)=δ (.agg (cG x))from rfl,bS,show ψ 7 (.agg (cG x))=δ (cG x)from rfl,bS,show ir 0 (cG x) [bE,(ε 0),(ε 0),(ε 0),(ε 0),aR,Zg]=δ (cG x)from rfl,bS,show ZP (.op id 0)=δ (.op id 0)from rfl,bS,show WC 10 (.op id 0)=δ (.op id 10)from by simp [WC],bS,show((χ (.op id 10) w).bind λHQ=>Γ 0 HQ)=δ (.om bF)from by simp only[χ,hb,aJ,Γ,ZW,Nat.add_zero,hc];rfl,bS,kg,bS,bS,bS,show Γ 0 (dh u)=δ (.ah u.az)from rfl,bS,qp,bS,asW,bS,show VU 0 7 (cG x)=δ (.agg (cG x))from rfl,bS,u1,bS,fT hx (by unfold aZ;omega),bS]
 ·have:i=ps.length:=by omega
  subst this;rw[aDp]at hT;simp only[aDM]at hT;rw[hT]at K;refine .inr ⟨(.exit 4,[.lbx (cm s),.lbx (dh u),.ah (ps.length:Int)],w),?_,by simp,w,rfl,K⟩;try unfold Ge
  simp only[cH,dr];rw[iQ,bS,dD]
theorem aeC{f:aq->Heap->Option LS}{v:aq}{σ:Heap}{r:LS}(h:f v σ=δ r)(hr:r.1≠.normal):Y7 f v σ=δ r:=by obtain⟨n,hn⟩:=vk h hr;exact BF hn
theorem av0{vg xV BC CL β:Type}{X:Option vg}{f:vg->Option xV}{g:vg->xV->Option BC}{h:vg->xV->BC->Option CL}{v:CL}{k:vg->xV->BC->CL->Option β}{k':CL->Option β}{r:Option β}(e:(X.bind λx=>(f x).bind λy=>(g x y).bind λz=>h x y z)=δ v) (hk:k' v=r) (hkk:k=λ_ _ _=>k':=by rfl):(X.bind λx=>(f x).bind λy=>(g x y).bind λz=>(h x y z).bind (k x y z))=r:=by subst hkk;obtain⟨x,hx,e⟩:=ct.1 e;obtain⟨y,hy,e⟩:=ct.1 e;obtain⟨z,hz,e⟩:=ct.1 e;rw[hx,aJ,hy,aJ,hz,aJ,e,aJ];exact hk
theorem avG{s:i7}(hb:J9 s){id bF ql:Nat}{cs:aq}(hc:cs[10]? =δ (.om bF))(H:Hs dV aL σ (blk bF (.map (([]:List (aC×ey)).map kq))*(blk id (.box cs)*(blk ql (.map ((oc s.bk.bf).map zW))*R)))):∃W,Y7 (LQ id ql (sl 4 dh s.bk.cV) (ε (s.bk.cV.length:Int))) [.lbx (cm s),.ah 0] σ=δ (.exit 2,[.lbx (cm s),.ah (s.bk.cV.length:Int)],W)/\Hs dV aL W (blk bF (.map ((xI s.bk).map kq))*(blk id (.box cs)*(blk ql (.map ((oc s.bk.bf).map zW))*R))):=by
 suffices h:∃q,Y7 (LQ id ql (sl 4 dh s.bk.cV) (ε (s.bk.cV.length:Int))) [.lbx (cm s),.ah 0] σ=δ q/\∃W,q=(.exit 2,[.lbx (cm s),.ah (s.bk.cV.length:Int)],W)/\Hs dV aL W (blk bF (.map ((xI s.bk).map kq))*(blk id (.box cs)*(blk ql (.map ((oc s.bk.bf).map zW))*R))) by obtain⟨q,e,W,rfl,K⟩:=h;exact⟨W,e,K⟩
 have hun:=hb.un;refine qt (λz v w=>∃(i:Nat)(m:List (aC×ey)),i<=s.bk.cV.length/\v=[.lbx (cm s),.ah (i:Int)]/\z=s.bk.cV.length-i/\(s.bk.cV.drop i).foldl (Ke (oc s.bk.bf)) m=xI s.bk/\Hs dV aL w (blk bF (.map (m.map kq))*(blk id (.box cs)*(blk ql (.map ((oc s.bk.bf).map zW))*R)))) ?_ (n:=s.bk.cV.length) ⟨0,[],kW _,rfl,rfl,rfl,H⟩;rintro z v w ⟨i,m,hi,rfl,hz,hT,K⟩;by_cases h:i<s.bk.cV.length
 ·obtain⟨x,eZ⟩:∃x,x=s.bk.cV[i]:=⟨_,rfl⟩
  have hx:s.bk.cV[i]? =δ x:=by rw[eZ];exact cC h
  rw[UG h,<-eZ]at hT
  have hpl:(E7 (oc s.bk.bf) x).length<=1000000:=by
   unfold E7;cases hf:dQ x.ga (oc s.bk.bf)with
   |none=>simp
   |some p=>exact aeA (P:=λp=>p.params.length<=1000000) (λp hp=>(hb.par p hp).1) _ (Dr hf)
  obtain⟨w',l1,l2⟩:=aut (s:=s) (u:=x) hpl hc m K
  have hlk:((Yt .z (XP ql) (.str x.ga) (Φ [bE,(ε 0),Zg]) w).bind λkQ=>((ψ 3 kQ).bind λuM=>Γ 2 uM).bind λjh=>(UY jh).bind λfK=>(Y7 (Ge id jh fK) [.lbx (cm s),.lbx (dh x),.ah 0] w))=δ (.exit 4,[.lbx (cm s),.lbx (dh x),.ah ((E7 (oc s.bk.bf) x).length:Int)],w'):=by
   rw[auZ (ek:=.z) (eK:=λb:ByteArray=>Xo b) (eV:=λp:cD=>Φ (cz p)) (l:=oc s.bk.bf) afd (x:=x.ga) rfl _ (eS (show _=blk ql (.map ((oc s.bk.bf).map zW))*(blk bF (.map (m.map kq))*(blk id (.box cs)*R)) by ac_rfl) K),bS];unfold E7 at l1 ⊢;cases hf:dQ x.ga (oc s.bk.bf)with
   |none=>
    rw[hf]at l1;simp only[Zc,WO];rw[show((ψ 3 (Φ [bE,(ε 0),Zg])).bind λuM=>Γ 2 uM)=δ .aA from rfl,bS,show UY .aA=δ (.ah 0)from rfl,bS]
    have hw:w'=w:=by
     have e0:Y7 (Ge id (sl 7 cG ([]:List ey)) (ε ((([]:List ey).length:Nat):Int))) [.lbx (cm s),.lbx (dh x),.ah 0] w=δ (.exit 4,[.lbx (cm s),.lbx (dh x),.ah 0],w):=
      aeC rfl (by simp)
     have l1:=e0.symm.trans l1;injection l1 with l1
     exact(congrArg (λz:LS=>z.2.2) l1).symm
    rw[hw];exact aeC rfl (by simp)
   |some p=>rw[hf]at l1;simp only[cR,WU];rw[show((ψ 3 (Φ (cz p))).bind λuM=>Γ 2 uM)=δ (sl 7 cG p.params)from rfl,bS,fu,bS];exact l1
  refine .inl ⟨s.bk.cV.length-(i+1),_,w',by omega,?_,i+1,_,h,rfl,rfl,hT,l2⟩;try unfold LQ
  simp only[cH,dr];rw[iR hx,bS,dL,gH hx,bS,qG,bS,show VU 0 4 (dh x)=δ (.agg (dh x))from rfl,bS,show ψ 4 (.agg (dh x))=δ (dh x)from rfl,bS,show ir 0 (dh x) [(ε 0),bE,(ε 0),(ε 0)]=δ (dh x)from rfl,bS,show Γ 1 (dh x)=δ (.str x.ga)from rfl,bS];refine av0 hlk ?_;simp only[qj,cH,dr];rw[fT hx (by unfold aZ;omega),bS]
 ·have:i=s.bk.cV.length:=by omega
  subst this;rw[aDp]at hT;simp only[aDM]at hT;rw[hT]at K;refine .inr ⟨(.exit 2,[.lbx (cm s),.ah (s.bk.cV.length:Int)],w),?_,by simp,w,rfl,K⟩;try unfold LQ
  simp only[cH,dr];rw[iQ,bS,dD]
end
end
section
open HP
section
variable {aL σ : Heap} {R : HP}
theorem asV(s:i7)(p:pH):((((Ψ (.ah p.az)).bind λv=>δ [v]).bind λAY=>(ir 3 AY [(ε 0),(ε 0),aR,(ε 0),(ε 0),Zg,(ε 0),(ε 0),(ε 0),AV.nm]).bind λaAC=>((Ψ (.ah p.kD)).bind λv=>δ [v]).bind λNn=>(ir 4 Nn aAC).bind λaz0=>((Ψ (sl 11 bg (um s.dJ p.list).1.bH)).bind λv=>δ [v]).bind λNo=>(ir 5 No az0).bind λGZ=>((Ψ (ε (-1))).bind λv=>δ [v]).bind λzR=>(ir 6 zR GZ).bind λDy=>((Ψ (ε 65535)).bind λv=>δ [v]).bind λaCy=>(ir 7 aCy Dy).bind λYw=>((Ψ (ε (-1))).bind λv=>δ [v]).bind λaBW=>(ir 8 aBW Yw).bind λaA0=>δ aA0).bind λcs=>δ (Φ cs))=δ (.agg (aU (nA s p))):=rfl
theorem atp(b:bz):(((ψ 10 (.agg (aU b))).bind λNp=>(ir 0 Np [(ε 0),(ε 0),aR,(ε 0),(ε 0),Zg,(ε 0),(ε 0),(ε 0),AV.nm]).bind λYz=>δ Yz).bind λcs=>δ (Yh 10 (iP 10 1 cs)))=δ (.sl 10 [aU b]):=rfl
theorem avH{s:i7}(hs:Ka s){id bF:Nat}(H:Hs dV aL σ (blk id (.box (jD .aA bF .aA (mD s)))*R)):∃vb W,Y7 (IZ id (sl 3 dA s.bM) (ε (s.bM.length:Int))) [.lbx (cm s),.ah 0] σ=δ (.exit 6,[.lbx (cm s),.ah (s.bM.length:Int)],W)/\Hs dV aL W (blk id (.box (jD vb bF .aA (mD s)))*(Sl (fl aU) 10 vb (s.bM.map (nA s))*R)):=by
 suffices h:∃q,Y7 (IZ id (sl 3 dA s.bM) (ε (s.bM.length:Int))) [.lbx (cm s),.ah 0] σ=δ q/\∃vb W,q=(.exit 6,[.lbx (cm s),.ah (s.bM.length:Int)],W)/\Hs dV aL W (blk id (.box (jD vb bF .aA (mD s)))*(Sl (fl aU) 10 vb (s.bM.map (nA s))*R)) by obtain⟨q,e,vb,W,rfl,K⟩:=h;exact⟨vb,W,e,K⟩
 have hpl:=hs.pl;have vT:s.dJ.length<=aZ:=by have:=hs.S6;unfold aZ;omega
 refine qt (λz v w=>∃(i:Nat)(vb:AV),i<=s.bM.length/\v=[.lbx (cm s),.ah (i:Int)]/\z=s.bM.length-i/\Hs dV aL w (blk id (.box (jD vb bF .aA (mD s)))*(Sl (fl aU) 10 vb ((s.bM.take i).map (nA s))*R))) ?_ (n:=s.bM.length) ⟨0,.aA,kW _,rfl,rfl,eS (by ac_rfl) (sV (v:=.aA) (E:=fl aU) (sz:=10) H (.inl rfl))⟩;rintro z v w ⟨i,vb,hi,rfl,hz,K⟩;by_cases h:i<s.bM.length
 ·obtain⟨x,eZ⟩:∃x,x=s.bM[i]:=⟨_,rfl⟩
  have hx:s.bM[i]? =δ x:=by rw[eZ];exact cC h
  have hb:=(jO K).2
  have step:∃we w',(IZ id (sl 3 dA s.bM) (ε (s.bM.length:Int))) [.lbx (cm s),.ah (i:Int)] w=δ (.normal,[.lbx (cm s),.ah ((i+1:Nat):Int)],w')/\Hs dV aL w' (blk id (.box (jD we bF .aA (mD s)))*(Sl (fl aU) 10 we ((s.bM.take i).map (nA s)++[nA s x])*R)):=by
   have K1:=eS (show _=Sl (fl aU) 10 vb ((s.bM.take i).map (nA s))*(blk id (.box (jD vb bF .aA (mD s)))*R) by ac_rfl) K;have cvb:=Dh K1;try unfold IZ
   simp only[cH,dr];rw[iR hx,bS,dL,gH hx,bS,qG,bS,show VU 0 3 (dA x)=δ (.agg (dA x))from rfl,bS,show ψ 3 (.agg (dA x))=δ (dA x)from rfl,bS,show ir 0 (dA x) [(ε 0),(ε 0),(ε 0)]=δ (dA x)from rfl,bS,kg,bS,show VU 0 5 (cm s)=δ (.agg (cm s))from rfl,bS,show Γ 1 (dA x)=δ (.ah x.list)from rfl,bS,abH (agt s vT x.list),bS];simp only;rw[lV,bS,ext1,bS,show ψ 2 (.agg (fc (um s.dJ x.list).1))=δ (fc (um s.dJ x.list).1)from rfl,bS,show ir 0 (fc (um s.dJ x.list).1) [(ε 0),Zg]=δ (fc (um s.dJ x.list).1)from rfl,bS];simp only[show ZP (.op id 0)=δ (.op id 0)from rfl,bS,show WC 0 (.op id 0)=δ (.op id 0)from rfl];rw[show((χ (.op id 0) w).bind λGY=>Γ 0 GY)=δ vb from by simp only[χ,hb];exact cvb,bS,show Γ 0 (dA x)=δ (.ah x.az)from rfl,bS,show Γ 2 (dA x)=δ (.ah x.kD)from rfl,bS,V0,bS,asV,bS,atp,bS];obtain⟨we,w2,f1,f2⟩:=Ry (most:=140737488355328 / 96) (E:=fl aU) (l:=(s.bM.take i).map (nA s)) (v:=vb) (e:=aU (nA s x)) (x:=nA s x) (R:=blk id (.box (jD vb bF .aA (mD s)))*R) (by rw[X1,rM];omega) (eS (by rw[show fl aU (aU (nA s x)) (nA s x)=pr (aU (nA s x)=aU (nA s x))from rfl];ac_rfl) (p9.2 ⟨(rfl:aU (nA s x)=aU (nA s x)),K1⟩));rw[f1,bS];simp only;have f3:=eS (show _=blk id (.box (jD vb bF .aA (mD s)))*(Sl (fl aU) 10 we ((s.bM.take i).map (nA s)++[nA s x])*R) by ac_rfl) f2;have uR:=(jO f3).2;have f4:=AM (b':=.box (jD we bF .aA (mD s))) f3 trivial;rw[show((Ψ we).bind λv=>δ [v])=δ [we]from by rw[Dh f2];rfl,bS,show XZ (.op id 0) [we] w2=δ (w2.set id (.box (jD we bF .aA (mD s))))from by simp only[XZ,uR];rfl,bS,fT hx (by unfold aZ;omega),bS];exact⟨we,_,rfl,f4⟩
  obtain⟨we,w',s1,s2⟩:=step;refine .inl ⟨s.bM.length-(i+1),_,_,by omega,s1,i+1,we,h,rfl,rfl,?_⟩;rw[TC,hx,aDy,Z6,eP,Vl];exact s2
 ·have:i=s.bM.length:=by omega
  subst this;rw[UN]at K;refine .inr ⟨(.exit 6,[.lbx (cm s),.ah (s.bM.length:Int)],w),?_,by simp,vb,w,rfl,K⟩;try unfold IZ
  simp only[cH,dr];rw[iQ,bS,dD]
theorem afY{fN:List Sh}{r:AV->Heap->aF}{x v:AV}{σ σ':Heap}(ho:A.own x=ι)(e1:TQ fN [x]=[x])(e:r x σ=δ (v,σ')):Ω θ fN .k (YR r) [x] σ=δ (v,σ'):=by have e2:YR r [x] σ=δ (v,σ'):=e;simp only[Ω,List.any_cons,ho,List.any_nil,Bool.or_self,Wc,bQ,e1,e2,cR,jr]
theorem atO{s:i7}(hs:zw s)(h:¬Ca s=0)(σ:Heap):QG [.agg (cm s)] σ=δ (.aM [.np,.ah (Ca s)],σ):=by refine afY rfl (dO (nT rfl) rfl) ?_;unfold Mh;rw[show ψ 5 (.agg (cm s))=δ (cm s)from rfl,bS,show VU 0 5 (cm s)=δ (.agg (cm s))from rfl,bS,aaC (abb s hs),bS];simp only;rw[fV,bS,cL h,dL]
theorem au4{s:i7}(hs:zw s)(h:Ca s=0)(H:Hs dV aL σ R):∃id σ',QG [.agg (cm s)] σ=δ (.aM [.op id 0,.ah 0],σ')/\Hs dV aL σ' (wv (.op id 0) (mD s)*R):=by
 suffices hh:∃id σ',Mh (.agg (cm s)) σ=δ (.aM [.op id 0,.ah 0],σ')/\Hs dV aL σ' (wv (.op id 0) (mD s)*R) by obtain⟨id,σ',e,K⟩:=hh;exact⟨id,σ',afY rfl (dO (nT rfl) rfl) e,K⟩
 have hO:=ahs hs h;have hB:=hO.bd;unfold Mh;rw[show ψ 5 (.agg (cm s))=δ (cm s)from rfl,bS,show VU 0 5 (cm s)=δ (.agg (cm s))from rfl,bS,aaC (abb s hs),bS];simp only;rw[fV,bS,cO (λq=>q h),dD,bS,aqb hB,bS];simp only;rw[show ψ 5 (.agg (cm s))=δ (cm s)from rfl,bS,show ir 0 (cm s) (cm s)=δ (cm s)from rfl,bS,show VU 0 5 (cm s)=δ (.agg (cm s))from rfl,bS];obtain⟨bF,ahI⟩:∃bF,bF=σ.length:=⟨_,rfl⟩
 obtain⟨id,hid⟩:∃id,id=(σ++[Z0 []]).length:=⟨_,rfl⟩
 rw[<-ahI,<-hid];rw[show(((ψ 5 (.agg (cm s))).bind λeR=>(ir 4 eR [Zg,(ε 0),(ε 0),aR,Zg,Zg,Zg,Zg,Zg,Zg,AV.nm,Zg]).bind λfq=>((Ψ (XP bF)).bind λv=>δ [v]).bind λcZ=>(ir 10 cZ fq).bind λfU=>δ fU).bind λcs=>δ (Φ cs))=δ (.agg [Zg,(ε 0),(ε 0),aR,sl 3 cz s.bk.bf,sl 4 dh s.bk.cV,sl 3 dX s.bn,sl 2 fc s.dJ,sl 3 dA s.bM,Zg,.om bF,Zg])from rfl,bS];rw[show ψ 12 (.agg [Zg,(ε 0),(ε 0),aR,sl 3 cz s.bk.bf,sl 4 dh s.bk.cV,sl 3 dX s.bn,sl 2 fc s.dJ,sl 3 dA s.bM,Zg,.om bF,Zg])=δ [Zg,(ε 0),(ε 0),aR,sl 3 cz s.bk.bf,sl 4 dh s.bk.cV,sl 3 dX s.bn,sl 2 fc s.dJ,sl 3 dA s.bM,Zg,.om bF,Zg]from rfl,bS];have K0:=GJ (b:=Z0 (([]:List (aC×ey)).map kq)) H trivial;rw[<-ahI]at K0;have K1:=GJ (b:=Vs [Zg,(ε 0),(ε 0),aR,sl 3 cz s.bk.bf,sl 4 dh s.bk.cV,sl 3 dX s.bn,sl 2 fc s.dJ,sl 3 dA s.bM,Zg,.om bF,Zg]) K0 trivial;rw[show(σ++[Z0 (([]:List (aC×ey)).map kq)]).length=id from hid.symm]at K1;have vS:=(jO K1).2;have K2:=AM (b':=.box [Zg,(ε 0),(ε 65535),aR,sl 3 cz s.bk.bf,sl 4 dh s.bk.cV,sl 3 dX s.bn,sl 2 fc s.dJ,sl 3 dA s.bM,Zg,.om bF,Zg]) K1 trivial;rw[Vl]at vS K2;simp only[show ZP (.op id 0)=δ (.op id 0)from rfl,bS,show WC 0 (.op id 0)=δ (.op id 0)from rfl,show WC 2 (.op id 0)=δ (.op id 2)from by simp [WC],uu];rw[show XZ (.op id 2) [.ah 65535] ((σ++[Z0 []])++[Vs [Zg,(ε 0),(ε 0),aR,sl 3 cz s.bk.bf,sl 4 dh s.bk.cV,sl 3 dX s.bn,sl 2 fc s.dJ,sl 3 dA s.bM,Zg,.om bF,Zg]])=δ (((σ++[Z0 []])++[Vs [Zg,(ε 0),(ε 0),aR,sl 3 cz s.bk.bf,sl 4 dh s.bk.cV,sl 3 dX s.bn,sl 2 fc s.dJ,sl 3 dA s.bM,Zg,.om bF,Zg]]).set id (.box [Zg,(ε 0),(ε 65535),aR,sl 3 cz s.bk.bf,sl 4 dh s.bk.cV,sl 3 dX s.bn,sl 2 fc s.dJ,sl 3 dA s.bM,Zg,.om bF,Zg]))from by simp only[XZ,vS];rfl,bS];generalize (((σ++[Z0 []])++[Vs [Zg,(ε 0),(ε 0),aR,sl 3 cz s.bk.bf,sl 4 dh s.bk.cV,sl 3 dX s.bn,sl 2 fc s.dJ,sl 3 dA s.bM,Zg,.om bF,Zg]]).set id (.box [Zg,(ε 0),(ε 65535),aR,sl 3 cz s.bk.bf,sl 4 dh s.bk.cV,sl 3 dX s.bn,sl 2 fc s.dJ,sl 3 dA s.bM,Zg,.om bF,Zg]))=W2 at K2 ⊢;rw[show VU 0 2 (cm s)=δ (.agg (eO s.bk))from rfl,bS,aCJ s.bk hs.1,bS,aP hO.bk];simp only;rw[lV,bS,ext1,bS];have uR:=(jO K2).2;have K3:=AM (b':=.box (jD .aA bF .aA (mD s))) K2 trivial;simp only[show WC 9 (.op id 0)=δ (.op id 9)from by simp [WC],bS];rw[show((Ψ (sl 2 aS (nZ s.bk))).bind λv=>δ [v])=δ [sl 2 aS (nZ s.bk)]from rfl,bS,show XZ (.op id 9) [sl 2 aS (nZ s.bk)] W2=δ (W2.set id (.box (jD .aA bF .aA (mD s))))from by simp only[XZ,uR];rfl,bS];generalize W2.set id (.box (jD .aA bF .aA (mD s)))=W3 at K3 ⊢;rw[abQ,bS,fu,bS];obtain⟨ql,axl⟩:∃ql,ql=W3.length:=⟨_,rfl⟩
 have K4:=GJ (b:=Z0 (([]:List (ByteArray×cD)).map zW)) K3 trivial;rw[<-axl]at K4 ⊢;rw[Vl]at K4;obtain⟨W4,l1,K5⟩:=avF (s:=s) hB.jM K4;refine NJ l1 ?_;simp only[qj,cH,dr,kg,bS];rw[show Γ (0+1) (cm s)=δ (sl 4 dh s.bk.cV)from rfl,bS,fu,bS];obtain⟨W5,l2,K6⟩:=avG (s:=s) hB (id:=id) (bF:=bF) (ql:=ql) (cs:=jD .aA bF .aA (mD s)) (R:=R) rfl (eS (by ac_rfl) K5);refine NJ l2 ?_;simp only[qj,cH,dr,kg,bS];rw[show Γ 4 (cm s)=δ (sl 3 dA s.bM)from rfl,bS,fu,bS];obtain⟨vb,W6,l3,K7⟩:=avH (s:=s) hO (id:=id) (bF:=bF) (R:=blk bF (.map ((xI s.bk).map kq))*(blk ql (.map ((oc s.bk.bf).map zW))*R)) (eS (by ac_rfl) K6);refine NJ l3 ?_;simp only[qj];refine⟨id,W6,rfl,Jx (vb:=vb) (bF:=bF) (va:=.aA) rfl ?_⟩;have K8:=yp (eS (show _=blk ql (.map ((oc s.bk.bf).map zW))*(blk id (.box (jD vb bF .aA (mD s)))*(Sl (fl aU) 10 vb (s.bM.map (nA s))*(blk bF (.map ((xI s.bk).map kq))*R))) by ac_rfl) K7);have K9:=sV (v:=.aA) (E:=fl dR) (sz:=5) K8 (.inl rfl);exact eS (show _=lJ id vb bF .aA (mD s)*R by unfold lJ;show _=blk id (.box (jD vb bF .aA (mD s)))*(Sl (fl aU) 10 vb (s.bM.map (nA s))*(blk bF (.map ((xI s.bk).map kq))*Sl (fl dR) 5 .aA []))*R;ac_rfl) K9
theorem aqz(d:cr)(a:iE):(nF d a).1.setup=d.setup/\(nF d a).1.keys=d.keys/\(nF d a).1.params=d.params:=by
 unfold nF;split
 ·exact⟨rfl,rfl,rfl⟩
 split<;>exact⟨rfl,rfl,rfl⟩
theorem aqy(d:cr)(a:iE):((nF d a).2=0/\(nF d a).1.eu=d.eu++[a])\/(nF d a).1=d:=by
 unfold nF;split
 ·exact .inr rfl
 split
 ·exact .inr rfl
 ·exact .inl ⟨rfl,rfl⟩
end
end
section
def I9 (a0:(List cD)) (a1:ByteArray):Option (cD×Bool):=
 kr a0 (λ(i8:Nat)e7(s1:Unit)=>(show Option (Lr Unit Unit (cD×Bool))from
   if e7.name=a1 then
    δ (.ret (e7,θ))
   else
   δ (.go ()))) (λs1=>δ ()) () (λb2=>
  δ ((⟨(⟨#[]⟩:ByteArray),0,[]⟩:cD),ι)) (λb2=>
  δ (b2.1,b2.2))
theorem alX{a0:(List cD)}{a1:ByteArray}{σ:Heap}{r:(cD×Bool)}(h:I9 a0 a1=δ r):Gg [(sl 3 cz a0),(Xo a1)] σ=δ ((Yu [(Φ (cz r.1)),(Λ r.2)]),σ):=by
 refine rW (f:=LY) (y0:=(sl 3 cz a0)) (y1:=(Xo a1)) (enc:=λr:(cD×Bool)=>(Yu [(Φ (cz r.1)),(Λ r.2)])) (T:=I9 a0 a1) rfl rfl ?_ r h;unfold LY I9;refine an _ (fu _ _ _) ?_;refine mA (B:=Unit) (R:=(cD×Bool)) (λ(i8:Nat)(s1:Unit)v w3=>v=[(VD [(Xo (⟨#[]⟩:ByteArray)),(ε 0),Zg]),aR,(ε (i8:Int))]/\σ=w3) (λ(b2:Unit)(q:LS)=>∃u5 uX,q=((Ξ 0),([(VD [(Xo (⟨#[]⟩:ByteArray)),(ε 0),Zg]),u5,uX]:aq),σ)) (λ(b2:(cD×Bool))(q:LS)=>∃uX,q=(YP,([(VD (cz b2.1)),(Λ b2.2),uX]:aq),σ)) ?_ ?_ ⟨rfl,rfl⟩ ?_ ?_
 ·intro sF i8 e7 s1 v w3 jZ hI;obtain⟨rfl,rfl⟩:=hI;refine an _ (iR jZ)<|mC<|an _ (gH jZ)<|an _ rfl<|an _ rfl<|an _ (mu _ _ rfl)<|an _ rfl<|an _ (Yl _ _) ?_;refine jJ (p:=e7.name=a1) (λc9=>?_) (λc9=>?_)
  ·refine an _ rfl<|an _ rfl<|an _ rfl<|an _ (mu _ _ rfl) ?_;exact bK (gd (by simp) ⟨_,rfl⟩)
  refine an _ (fT jZ sF) ?_;exact bK (l7 ⟨rfl,rfl⟩)
 ·intro hl s1 v w3 hI;obtain⟨rfl,rfl⟩:=hI;refine an _ (iQ _)<|mB ?_;exact bK ⟨by simp,⟨_,_,rfl⟩⟩
 ·intro hl b2 q hq;obtain⟨u5,uX,rfl⟩:=hq;refine gO rfl<|an _ rfl<|an [(Xo (⟨#[]⟩:ByteArray)),(ε 0),Zg] rfl<|an [(Xo (⟨#[]⟩:ByteArray)),(ε 0),Zg] rfl<|an (Φ [(Xo (⟨#[]⟩:ByteArray)),(ε 0),Zg]) rfl ?_;exact dI _ (bD _ _) ⟨(Fu (dO (nT (dO rfl (dO rfl (dO (by first|rfl|exact RL _ _) oH)))) (dO rfl oH))),rfl⟩
 ·intro hl b2 q hq;obtain⟨uX,rfl⟩:=hq;refine qc rfl<|gO rfl<|an _ rfl ?_;exact dI _ (bD _ _) ⟨(Fu (dO (nT (dO rfl (dO rfl (dO (mT (λ_=>rfl) _) oH)))) (dO rfl oH))),rfl⟩
def Jg (a0:eU):Option (List aC):=
 kr a0.cV (λ(qK:Nat)e9(s3:(List aC))=>(show Option (Lr (List aC) (List aC) Unit)from
   (I9 a0.bf e9.ga).bind λdc=>
   kr dc.1.params (λ(yX:Nat)mg(mm:(List aC))=>(show Option (Lr (List aC) (List aC) Unit)from
     if mm.length+([(⟨e9.az,mg.name⟩:aC)]:(List aC)).length<=5864062014805 then
     δ (.go (mm++([(⟨e9.az,mg.name⟩:aC)]:(List aC))))
     else μ)) (λmm=>δ mm) s3 (λwK=>
    δ (.go wK)) (λwK=>
    μ))) (λs3=>δ s3) ([]:List aC) (λb4=>
  δ b4) (λb4=>
  μ)
theorem amz{a0:eU}{σ:Heap}{r:(List aC)}(h:Jg a0=δ r):Vo [(Φ (eO a0))] σ=δ ((sl 2 aS r),σ):=by
 refine yj (f:=Vx) (y0:=(Φ (eO a0))) (enc:=λr:(List aC)=>(sl 2 aS r)) (T:=Jg a0) rfl rfl ?_ r h;unfold Vx Jg;refine an _ rfl<|an (sl 4 dh a0.cV) rfl<|an _ (fu _ _ _) ?_;have hp1:Hp σ σ []:=MP σ;have hp2:Hp σ σ [(Zg,(Ct.s 2 (Y0 aS ([]:List aC))))]:=agq hp1 2;refine mA (B:=(List aC)) (R:=Unit) (λ(qK:Nat)(s3:(List aC))v w5=>∃hh0,v=[(VD (eO a0)),hh0,(ε (qK:Int))]/\Hp σ w5 [(hh0,(Ct.s 2 (Y0 aS s3)))]) (λ(b4:(List aC))(q:LS)=>∃u1 xT hh0 w6,q=((Ξ 0),([u1,hh0,xT]:aq),w6)/\Hp σ w6 [(hh0,(Ct.s 2 (Y0 aS b4)))]) (λ(b4:Unit)(q:LS)=>False) ?_ ?_ ⟨_,rfl,hp2⟩ ?_ ?_
 ·intro Hh qK e9 s3 v w5 wR hI;obtain⟨hh0,rfl,HZ⟩:=hI;refine an _ (iR wR)<|mC<|an _ (gH wR)<|an _ rfl<|an _ rfl<|an _ (mw _ _ rfl)<|an _ rfl<|an (sl 3 cz a0.bf) rfl<|an _ rfl ?_;refine jK (λdc:(cD×Bool)=>((Yu [(Φ (cz dc.1)),(Λ dc.2)]),w5)) (λdc xE=>alX xE) (λdc xE=>?_);refine an _ rfl<|an _ rfl<|an _ rfl<|an _ (mu _ _ rfl)<|an (sl 7 cG dc.1.params) rfl<|an _ (fu _ _ _) ?_;refine mA (B:=(List aC)) (R:=Unit) (λ(yX:Nat)(mm:(List aC))v BA=>∃hh0,v=[(VD (eO a0)),hh0,(VD (dh e9)),(ε (yX:Int))]/\Hp σ BA [(hh0,(Ct.s 2 (Y0 aS mm)))]) (λ(wK:(List aC))(q:LS)=>∃u5 u28 hh0 Lg,q=((Ξ 2),([(VD (eO a0)),hh0,u5,u28]:aq),Lg)/\Hp σ Lg [(hh0,(Ct.s 2 (Y0 aS wK)))]) (λ(wK:Unit)(q:LS)=>False) ?_ ?_ ⟨_,rfl,HZ⟩ ?_ ?_
  ·intro azY yX mg mm v BA Hf hI;obtain⟨hh0,rfl,Fk⟩:=hI;refine an _ (iR Hf)<|mC<|an _ (gH Hf)<|an _ rfl<|an _ rfl<|an _ (nY _ _ rfl)<|an _ rfl<|an _ rfl<|an _ rfl<|an (Φ (aS (⟨e9.az,mg.name⟩:aC))) rfl<|an (sl 2 aS ([(⟨e9.az,mg.name⟩:aC)]:(List aC))) rfl ?_;refine Yb (λhm=>?_);obtain⟨h23,Iu,vN,NN⟩:=afp (c:=aS) (ys:=([(⟨e9.az,mg.name⟩:aC)]:(List aC))) (most:=5864062014805) Fk 0 rfl hm;change Hp σ Iu [(h23,(Ct.s 2 (Y0 aS (mm++([(⟨e9.az,mg.name⟩:aC)]:(List aC))))))]at NN;refine an _ vN<|an _ (fT Hf azY) ?_;exact bK (l7 ⟨_,rfl,NN⟩)
  ·intro hl mm v BA hI;obtain⟨hh0,rfl,Fk⟩:=hI;refine an _ (iQ _)<|mB ?_;exact bK ⟨by simp,⟨_,_,_,_,rfl,Fk⟩⟩
  ·intro hl wK q hq;obtain⟨u5,u28,hh0,Lg,rfl,axx⟩:=hq;refine gO rfl<|an _ (fT wR Hh) ?_;exact bK (l7 ⟨_,rfl,axx⟩)
  ·intro hl wK q hq;exact aC6 hq
 ·intro hl s3 v w5 hI;obtain⟨hh0,rfl,HZ⟩:=hI;refine an _ (iQ _)<|mB ?_;exact bK ⟨by simp,⟨_,_,_,_,rfl,HZ⟩⟩
 ·intro hl b4 q hq;obtain⟨u1,xT,hh0,w6,rfl,rU⟩:=hq;refine gO rfl ?_;obtain⟨ra0,aBH,aAc⟩:=afk (c:=aS) (l:=b4) rU (k:=0) rfl AG;exact dI _ (JX rU aBH) ⟨(afy aAc),rfl⟩
 ·intro hl b4 q hq;exact aC6 hq
def L7 (a0:eU) (a1:(List fL)) (a2:(List bB)):Option (List gE):=
 (Jg a0).bind λr1=>
 kr r1 (λ(uT:Nat)iV(s4:(List gE))=>(show Option (Lr (List gE) (List gE) Unit)from
   (tq (rG a0) (lg a0 iV)).bind λiM=>
   (Jp a2 iV).bind λjU=>
   (show Option Int from
     if jU.2=θ then
      (pU a2 jU.1).bind λbW=>
      (EG a1 iV bW.value).bind λjd=>
      δ jd.1
     else
     δ iM.1.default).bind λEh=>
   if s4.length+([(⟨(⟨iV.unit,iV.param⟩:aC),Eh⟩:gE)]:(List gE)).length<=4398046511104 then
   δ (.go (s4++([(⟨(⟨iV.unit,iV.param⟩:aC),Eh⟩:gE)]:(List gE))))
   else μ)) (λs4=>δ s4) ([]:List gE) (λb5=>
  δ b5) (λb5=>
  μ)
theorem amA{a0:eU}{a1:(List fL)}{a2:(List bB)}{σ:Heap}{r:(List gE)}(h:L7 a0 a1 a2=δ r):Qq [(Φ (eO a0)),(sl 3 dX a1),(sl 5 bJ a2)] σ=δ ((sl 3 dW r),σ):=by
 refine My (f:=att) (y0:=(Φ (eO a0))) (y1:=(sl 3 dX a1)) (y2:=(sl 5 bJ a2)) (enc:=λr:(List gE)=>(sl 3 dW r)) (T:=L7 a0 a1 a2) (dO (nT (dO (mT (λ_=>(dO rfl (dO rfl (dO (mT (λ_=>rfl) _) oH)))) _) (dO rfl oH))) (dO (mT (λ_=>rfl) _) (dO rfl rfl))) rfl ?_ r h;unfold att L7;refine an _ rfl<|an _ rfl ?_;refine jK (λr1:(List aC)=>((sl 2 aS r1),σ)) (λr1 jE=>amz jE) (λr1 jE=>?_);refine an _ (fu _ _ _) ?_;have hp2:Hp σ σ []:=MP σ;have hp3:Hp σ σ [(Zg,(Ct.s 3 (Y0 dW ([]:List gE))))]:=agq hp2 3;refine mA (B:=(List gE)) (R:=Unit) (λ(uT:Nat)(s4:(List gE))v w6=>∃hh0,v=[(VD (eO a0)),hh0,(ε (uT:Int))]/\Hp σ w6 [(hh0,(Ct.s 3 (Y0 dW s4)))]) (λ(b5:(List gE))(q:LS)=>∃u3 O5 hh0 w7,q=((Ξ 0),([u3,hh0,O5]:aq),w7)/\Hp σ w7 [(hh0,(Ct.s 3 (Y0 dW b5)))]) (λ(b5:Unit)(q:LS)=>False) ?_ ?_ ⟨_,rfl,hp3⟩ ?_ ?_
 ·intro M1 uT iV s4 v w6 A6 hI;obtain⟨hh0,rfl,rU⟩:=hI;refine an _ (iR A6)<|mC<|an _ (gH A6)<|an _ rfl<|an _ rfl<|an _ (C4 _ _ rfl)<|an _ rfl<|an _ rfl ?_;refine jK (λiM:(ey×Bool)=>((Yu [(Φ (cG iM.1)),(Λ iM.2)]),w6)) (λiM NO=>(tJ (e:=λr:(ey×Bool)=>((Yu [(Φ (cG r.1)),(Λ r.2)]),w6)) (λhs=>Qm a0 hs iV w6)) NO) (λiM NO=>?_);refine an _ rfl<|an _ rfl<|an _ rfl<|an _ (nY _ _ rfl)<|an _ rfl<|an _ rfl ?_;refine jK (λjU:(Int×Bool)=>((Yu [(ε jU.1),(Λ jU.2)]),w6)) (λjU NP=>ack NP) (λjU NP=>?_);refine an _ rfl<|an _ rfl ?_
  refine N1 (ω:=Int) (λEh a=>∃It,a=(([(VD (eO a0)),(VD (aS iV)),(ε Eh)]:aq),It)/\Hp σ It [(hh0,(Ct.s 3 (Y0 dW s4)))]) (
    by
     refine gy (c:=jU.2) (λjY=>?_) (λjY=>?_)
     ·refine an _ rfl ?_;refine jK (λbW:bB=>(ZN (bJ bW))) (λbW ah0=>xz ah0) (λbW ah0=>?_);refine an _ rfl<|an _ rfl ?_;refine jK (λjd:(Int×Int)=>(Yu [(ε jd.1),(ε jd.2)])) (λjd ahQ=>(eH (acj ahQ))) (λjd ahQ=>?_);refine an _ rfl<|an _ rfl ?_;exact bK ⟨_,rfl,rU⟩
     exact bK ⟨_,rfl,rU⟩
    ) (λEh a ha=>?_)
  obtain⟨It,rfl,axy⟩:=ha;refine an _ rfl<|an (Φ (dW (⟨(⟨iV.unit,iV.param⟩:aC),Eh⟩:gE))) rfl<|an (sl 3 dW ([(⟨(⟨iV.unit,iV.param⟩:aC),Eh⟩:gE)]:(List gE))) rfl ?_;refine Yb (λhm=>?_);obtain⟨h23,Iu,vN,NN⟩:=afp (c:=dW) (ys:=([(⟨(⟨iV.unit,iV.param⟩:aC),Eh⟩:gE)]:(List gE))) (most:=4398046511104) axy 0 rfl hm;change Hp σ Iu [(h23,(Ct.s 3 (Y0 dW (s4++([(⟨(⟨iV.unit,iV.param⟩:aC),Eh⟩:gE)]:(List gE))))))]at NN;refine an _ vN<|an _ (fT A6 M1) ?_;exact bK (l7 ⟨_,rfl,NN⟩)
 ·intro hl s4 v w6 hI;obtain⟨hh0,rfl,rU⟩:=hI;refine an _ (iQ _)<|mB ?_;exact bK ⟨by simp,⟨_,_,_,_,rfl,rU⟩⟩
 ·intro hl b5 q hq;obtain⟨u3,O5,hh0,w7,rfl,OK⟩:=hq;refine gO rfl ?_;obtain⟨ra0,aBH,aAc⟩:=afk (c:=dW) (l:=b5) OK (k:=0) rfl aAU;exact dI _ (JX OK aBH) ⟨(afy aAc),rfl⟩
 ·intro hl b5 q hq;exact aC6 hq
end
def B0(bn:List fL)(st:aC->Option bB)(k:aC)(d:Int):Int:=match st k with
 |some e=>(xq bn k e.value).1
 |none=>d
def auo(bn:List fL)(st:aC->Option bB)(u:iw)(x:ey):gE:=⟨⟨u.az,x.name⟩,B0 bn st ⟨u.az,x.name⟩ x.default⟩
def aBM(jM:List cD)(bn:List fL)(st:aC->Option bB)(u:iw):List gE:=(iB u.ga jM).1.params.map (auo bn st u)
def MF(r:eU)(bn:List fL)(st:aC->Option bB):List gE:=r.cV.flatMap (aBM r.bf bn st)
theorem ab6(size:Int):∀(l pre:List ey),AZ size pre l=0->(∀x∈l,gZ x.name (pre.map (·.name))=ι)/\(l.map (·.name)).Nodup
 |[],pre,h=>⟨by simp,by simp⟩
 |x::l,pre,h=>by
  rw[AZ]at h;split at h
  ·simp at h
  split at h
  ·simp at h
  rename_i h2;split at h
  ·simp at h
  split at h
  ·simp at h
  split at h
  ·simp at h
  split at h;case isFalse=>rename_i h6;exact absurd h h6
  obtain⟨q1,q2⟩:=ab6 size l _ h;refine⟨λy hy=>?_,?_⟩
  ·simp only[jP]at hy;rcases hy with rfl|hy
   ·simpa using h2
   ·have:=q1 y hy;cases hc:gZ y.name (pre.map (·.name))
    ·rfl
    ·rw[Gx]at hc;have h3:gZ y.name ((pre++[x]).map (·.name))=θ:=Gx.2 (by rw[Z6];exact jQ.2 (.inl hc));rw[this]at h3;cases h3
  ·rw[eP,pN];refine⟨λhx=>?_,q2⟩;obtain⟨y,hy,e⟩:=gh.1 hx;have:=q1 y hy;have h3:gZ y.name ((pre++[x]).map (·.name))=θ:=Gx.2 (by rw[Z6];exact jQ.2 (.inr (by simp [e])));rw[this]at h3;cases h3
theorem aAP{α β:Type}[DecidableEq β](f:α->β):∀(l:List α),(l.map f).Nodup->∀x∈l,l.find? (λy=>decide (f y=f x))=δ x
 |[],_,x,hx=>by simp at hx
 |z::l,h,x,hx=>by
  rw[eP,pN]at h;rw[aDr];by_cases e:f z=f x
  ·rw[cL e];simp only[jP]at hx;rcases hx with rfl|hx
   ·rfl
   ·exact absurd (gh.2 ⟨x,hx,e.symm⟩) h.1
  ·rw[cO e];simp only[jP]at hx;rcases hx with rfl|hx
   ·exact absurd rfl e
   ·exact aAP f l h.2 x hx
theorem abS{r:eU}(h:ji r=0)(nm:ByteArray):((iB nm r.bf).1.params.map (·.name)).Nodup:=by
 rw[CM];cases hf:r.bf.find? (λx:cD=>decide (x.name=nm))with
 |none=>exact List.nodup_nil
 |some p=>
  have:=QD (Mz h) p (xD hf);unfold p5 at this
  repeat' split at this
  all_goals first|(simp at this;done)|exact(ab6 _ _ _ this).2
theorem aoc{r:eU}(h:ji r=0){u:iw}(hu:u∈r.cV){x:ey}(hx:x∈(iB u.ga r.bf).1.params):lg r ⟨u.az,x.name⟩=(x,θ):=by
 unfold lg;have hs:(r.cV.map (·.az)).Nodup:=(aCg h).imp λq=>by omega
 have h1:r.cV.find? (λv=>decide (v.az=(⟨u.az,x.name⟩:aC).unit))=δ u:=aAP (·.az) r.cV hs u hu;rw[h1,aDn];unfold zB;have h2:(iB u.ga r.bf).1.params.find? (λy=>decide (y.name=(⟨u.az,x.name⟩:aC).param))=δ x:=aAP (·.name) _ (abS h _) x hx;rw[h2,aDn]
theorem abK{r:eU}(h:ji r=0)(bn:List fL)(st:aC->Option bB):(nZ r).map (λk=>(⟨k,B0 bn st k (lg r k).1.default⟩:gE))=MF r bn st:=by
 unfold nZ MF;rw[List.map_flatMap]
 have key:∀(l:List iw),(∀u∈l,u∈r.cV)->(l.flatMap λa=>(rX r.bf a).map λk=>(⟨k,B0 bn st k (lg r k).1.default⟩:gE))=l.flatMap (aBM r.bf bn st):=by
  intro l;induction l with
  |nil=>intro _;rfl
  |cons u l ih=>
   intro hl;rw[Xm,Xm,ih λv hv=>hl v (by simp [hv])];congr 1;unfold rX aBM;rw[YG];refine Yq λx hx=>?_
   show(⟨⟨u.az,x.name⟩,_⟩:gE)=_;rw[aoc h (hl u (by simp)) hx];rfl
 exact key r.cV λu hu=>hu
theorem foldl_push{α β:Type}(f:α->β):∀(l:List α)(s:List β),l.foldl (λs x=>s++[f x]) s=s++l.map f
 |[],s=>by simp
 |x::l,s=>by rw[V4,foldl_push f l];simp
theorem acd{α β:Type}(f:α->List β):∀(l:List α)(s:List β),l.foldl (λs x=>s++f x) s=s++l.flatMap f
 |[],s=>by simp
 |x::l,s=>by rw[V4,acd f l];simp
theorem anu{l:List cD}(hl:l.length<=aZ)(nm:ByteArray):I9 l nm=δ (iB nm l):=by unfold I9;rw[Mj (p:=λp=>decide (p.name=nm)) (r:=λp=>(p,θ)) hl (by intro i x _;simp only[decide_eq_true_eq,Gw]),CM];cases l.find? λp=>decide (p.name=nm)<;>rfl
theorem aoP{r:eU}(hr:rG r)(h:ji r=0):Jg r=δ (nZ r):=by
 unfold Jg;have hu:=aBg h;rw[Gm (g:=λs u=>s++rX r.bf u) (P:=λi s=>s.length<=i*40) hr.2.1 (by simp) ?_ ?_]
 ·show δ (List.foldl _ [] r.cV)=_;rw[acd];rfl
 ·intro i u s hi hs;have:=QJ h u.ga;rw[ZY,Nat.succ_mul];unfold rX;rw[X1];omega
 ·intro i u s hi hs;have hil:=(bG.1 hi).1;have hpl:=QJ h u.ga;rw[anu hr.1.1,aJ];have hs':i*40<=16000:=by omega
  rw[Gm (g:=λs x=>s++[(⟨u.az,x.name⟩:aC)]) (P:=λj s=>s.length<=16000+j) (by unfold aZ;omega) (by omega) (λj x s _ hq=>by rw[ZY,Wa];omega) ?_]
  ·rw[aJ,foldl_push (λx:ey=>(⟨u.az,x.name⟩:aC))];rfl
  intro j x s hj hq;have hjl:=(bG.1 hj).1;rw[aP (by simp;omega)]
theorem apt{r:eU}(hr:rG r)(h:ji r=0){bn:List fL}(hp:fZ xk bn){st:List bB}(hs:nB st)(hl:st.length<4611686018427387904):L7 r bn st=δ (MF r bn (jo st)):=by
 unfold L7;have wS:=Rj h;rw[aoP hr h,aJ];rw[Gm (g:=λs k=>s++[(⟨k,B0 bn (jo st) k (lg r k).1.default⟩:gE)]) (P:=λj s=>s.length<=j) (by unfold aZ;omega) (by simp) (λj x s _ hq=>by rw[ZY,Wa];omega) ?_]
 ·show δ (List.foldl _ [] (nZ r))=_;rw[foldl_push (λk=>(⟨k,B0 bn (jo st) k (lg r k).1.default⟩:gE)),<-abK h];rfl
 intro j k s hj hq;have hjl:=(bG.1 hj).1;rw[tF hr,aJ,aeK hs hl,aJ]
 have e1:(if wD st k=θ then(pU st (kS st k:Int)).bind λbW=>(EG bn k bW.value).bind λjd=>δ jd.1 else δ (lg r k).1.default)=δ (B0 bn (jo st) k (lg r k).1.default):=by
  unfold B0;cases hh:wD st k
  ·rw[aO (by decide),asY hh]
  ·obtain⟨e,g1,g2⟩:=aq1 hs hh;rw[aP rfl,MK (x:=e) (by omega) (by simpa using g1),aJ,ad0 bn hp,g2];rfl
 show((if wD st k=θ then _ else _):Option Int).bind _=_;rw[e1,aJ,aP (by simp;omega)]
theorem aAE{α κ ν:Type}[DecidableEq κ]{f:α->κ}{g:α->ν}{k:κ}:∀(l:List α)(m:List (κ×ν)),(l.map f).Nodup->dQ k (l.foldl (λm x=>fJ (f x) (g x) m) m)=((l.find? (λx=>decide (f x=k))).map g).or (dQ k m)
 |[],m,_=>by simp
 |x::l,m,h=>by
  rw[eP,pN]at h;rw[V4,aAE l _ h.2,Wd,aDr];by_cases e:f x=k
  ·have hn:l.find? (λx=>decide (f x=k))=μ:=by rw[T0];intro y hy q;exact h.1 (gh.2 ⟨y,hy,by rw[e];simpa using q⟩)
   rw[hn,aP e.symm,cL e];rfl
  ·rw[aO (λq=>e q.symm),cO e]
theorem ab3:∀(l pre:List cD),zS pre l=0->(∀x∈l,gZ x.name (pre.map (·.name))=ι)/\(l.map (·.name)).Nodup
 |[],pre,h=>⟨by simp,by simp⟩
 |x::l,pre,h=>by
  rw[zS]at h;split at h;case isFalse=>rename_i h6;exact absurd h h6
  split at h
  ·cases h
  rename_i h2;obtain⟨q1,q2⟩:=ab3 l _ h;refine⟨λy hy=>?_,?_⟩
  ·simp only[jP]at hy;rcases hy with rfl|hy
   ·simpa using h2
   ·have:=q1 y hy;rw[Jm]at this ⊢;intro q;exact this (by rw[Z6];exact Vu _ q)
  ·rw[eP,pN];refine⟨λq=>?_,q2⟩;obtain⟨y,hy,e⟩:=gh.1 q;have:=q1 y hy;rw[Jm]at this;exact this (by rw[Z6,e];simp)
theorem aoJ{r:eU}(h:ji r=0)(u:iw):E7 (oc r.bf) u=(iB u.ga r.bf).1.params:=by
 have hl:=Mz h
 have hn:(r.bf.map (·.name)).Nodup:=by
  unfold wE at hl;split at hl
  ·cases hl
  ·exact(ab3 _ _ hl).2
 unfold E7
 have:dQ u.ga (oc r.bf)=r.bf.find? (λx:cD=>decide (x.name=u.ga)):=by unfold oc;rw[aAE (f:=λp:cD=>p.name) (g:=λp:cD=>p) r.bf [] hn];cases r.bf.find? (λx:cD=>decide (x.name=u.ga))<;>rfl
 rw[this,CM];cases r.bf.find? (λx:cD=>decide (x.name=u.ga))<;>rfl
theorem aoI{r:eU}(h:ji r=0)(u:iw)(m:List (aC×ey))(k:aC):dQ k (Ke (oc r.bf) m u)=(if u.az=k.unit then(iB u.ga r.bf).1.params.find? (λx=>decide (x.name=k.param))else μ).or (dQ k m):=by
 unfold Ke;rw[aoJ h]
 have hn:((iB u.ga r.bf).1.params.map (λx=>(⟨u.az,x.name⟩:aC))).Nodup:=by have:=abS h u.ga;exact TO.2 ((TO.1 this).imp λ{a b}q e=>q (by injection e))
 rw[aAE (f:=λx:ey=>(⟨u.az,x.name⟩:aC)) (g:=λx:ey=>x) _ m hn];congr 1;by_cases e:u.az=k.unit
 ·rw[aP e,Option.map_id'];congr 1;funext x;refine decide_eq_decide.2 ⟨λq=>by rw[<-q],λq=>?_⟩;obtain⟨a,b⟩:=k;simp only at e q;rw[e,q]
 ·rw[aO e]
  have:(iB u.ga r.bf).1.params.find? (λx=>decide ((⟨u.az,x.name⟩:aC)=k))=μ:=by
   rw[T0];intro x _ q;have q:(⟨u.az,x.name⟩:aC)=k:=by simpa using q
   exact e (by rw[<-q])
  rw[this];rfl
theorem adF{r:eU}(h:ji r=0)(k:aC):∀(l:List iw)(m:List (aC×ey)),(l.map (·.az)).Nodup->dQ k (l.foldl (Ke (oc r.bf)) m)=((l.find? (λu=>decide (u.az=k.unit))).bind λu=>(iB u.ga r.bf).1.params.find? (λx=>decide (x.name=k.param))).or (dQ k m)
 |[],m,_=>by simp
 |u::l,m,hn=>by
  rw[eP,pN]at hn;rw[V4,adF h k l _ hn.2,aoI h,aDr];by_cases e:u.az=k.unit
  ·have hf:l.find? (λu=>decide (u.az=k.unit))=μ:=by rw[T0];intro y hy q;exact hn.1 (gh.2 ⟨y,hy,by rw[e];simpa using q⟩)
   rw[hf,aP e,cL e];rfl
  ·rw[aO e,cO e];rfl
theorem apJ{r:eU}(h:ji r=0)(k:aC):dQ k (xI r)=if(lg r k).2=θ then δ (lg r k).1 else μ:=by
 have hs:(r.cV.map (·.az)).Nodup:=(aCg h).imp λq=>by omega
 unfold xI;rw[adF h k _ _ hs]
 have key:∀(o:Option iw)(q:iw->Option ey),((o.bind q).or (dQ k ([]:List (aC×ey))))=if(o.elim (De,ι) λu=>(q u).elim (De,ι) λx=>(x,θ)).2=θ then δ (o.elim (De,ι) λu=>(q u).elim (De,ι) λx=>(x,θ)).1 else μ:=by
  intro o q;cases o with
  |none=>rfl
  |some u=>
   show((q u).or μ)=if((q u).elim (De,ι) λx=>(x,θ)).2=θ then δ ((q u).elim (De,ι) λx=>(x,θ)).1 else μ
   cases q u<;>rfl
 exact key _ _
theorem arc{d:cr}{r:eU}(h:ji r=0)(hp:d.params=δ (xI r))(k:aC):gr d k=if(lg r k).2=θ then((lg r k).1.group,(lg r k).1.default,(lg r k).1.snap)else(0,0,ι):=by
 unfold gr;rw[hp,WU,apJ h];by_cases e:(lg r k).2=θ
 ·rw[aP e,aP e]
 ·rw[aO e,aO e]
section
open HP
section
variable {aL σ : Heap} {R R2 : HP}
end
theorem aBb(b:Bool){aL σ:Heap}{R:HP}(H:Hs dV aL σ R):wh aL (.bool b) σ=δ (.bool b,aL):=MN H (by simp [X4]) (λ_=>rfl)
end
section
open HP
theorem amm(b:bz)(p:Int)(σ:Heap):IC [.agg (aU b),.rp [.ah p]] σ=δ (.bool (decide (b.az=p)),σ):=by
 refine GA (z:=.aA) (by unfold aU;cases b.runs<;>rfl) (dO (nT (by unfold aU;cases b.runs<;>rfl)) rfl) (jr _) ?_;unfold aam;rw[QT,bS,abO,bS]
 first
  |rw[qG,bS,show Γ 0 [Wz ξ p]=δ (.int ξ p)from rfl,bS,jL,bS]
  |rw[show((χ (.rp [Wz ξ p]) σ).bind λc=>Γ 0 c)=δ (.int ξ p)from rfl,bS,jL,bS]
 exact bD _ _
def EZ:bz:=⟨⟨0,0,ι⟩,0,0,[],0,0,0,μ⟩
def DJ(pb:Int):bz->Bool:=λb=>decide (b.az=pb)
def oa (d:cr) (pb t:Int):bz×Int:=
 if ¬(ux d.eu t=0)then(EZ,ux d.eu t)else if iT (DJ pb) d.state.aH<0 then(EZ,8)else((kM d d.state t).aH.getD (iT (DJ pb) d.state.aH).toNat EZ,0)
theorem afe{v:AV}(h:Fz v)(σ ex:Heap):wh σ v (σ++ex)=δ (v,σ):=by
 unfold wh;split
 ·rfl
 ·rw[aP (by simp),h,cR]
abbrev tL:aq:=[(ε 0),(ε 0),aR,(ε 0),(ε 0),Zg,(ε 0),(ε 0),(ε 0),AV.nm]
abbrev M7:List Sh:=[.k,.k,.k,.k,.k,(.e 11 nC),.k,.k,.k,.k]
theorem auv(b:bz)(e:Int):Y9 (.t [(.a M7),.k]) (.aM [.agg (aU b),.ah e])=.aM [.agg (aU b),.ah e]:=by
 have h:Y9 (.e 11 nC) (sl 11 bg b.bH)=sl 11 bg b.bH:=by unfold sl;simp only[Y9,YG];congr 1
 have e1:TQ M7 (aU b)=aU b:=by unfold aU;simp only[TQ,jr,h]
 have e2:Y9 (.a M7) (.agg (aU b))=.agg (aU b):=congrArg Φ e1;show Yu [Y9 (.a M7) (.agg (aU b)),.ah e]=_;rw[e2]
section
variable {aL σ : Heap} {R : HP} {pd : AV} {d : cr}
abbrev af5 : Nat -> aq -> Heap -> aF := Zw (fun _ _ => μ) [(358, IC)]
theorem asM{vb:AV}{l:List bz}(hl:l.length<=aZ)(pb:Int)(H:Hs dV aL σ (Sl (fl aU) 10 vb l*R)):Ev af5 [vb,.fn 358 [.rp [.ah pb]]] σ=δ (.ah (iT (DJ pb) l),σ):=
 Bb (eD:=[vb,.fn 358 [.rp [.ah pb]]]) (ts:=[sl 10 aU l,.fn 358 [.rp [.ah pb]]]) ⟨XM BP H,E5 (ahd (cE (ahe (cE (eE _ _) pJ)) pJ)) rfl,trivial⟩ (λσ=>aaa af5 l hl _ _ _ σ (λb _=>amm b pb σ)) rfl
theorem arR(hK:zP d)(t pb:Int)(H:Hs dV aL σ (wv pd d*R)):PX [pd,.ah pb,.ah t] σ=δ (.aM [.agg (aU (oa d pb t).1),.ah (oa d pb t).2],σ):=by
 suffices h:∃v,Y9 (.t [(.a M7),.k]) v=.aM [.agg (aU (oa d pb t).1),.ah (oa d pb t).2]/\P0 pd (.ah pb) (.ah t) σ=δ (v,σ) by obtain⟨v,h1,h2⟩:=h;exact MU h1 h2
 obtain⟨id,vb,bF,va,rfl,hp,H⟩:=aCb H;have Ea:d.eu.length<=aZ:=by have:=hK.len;unfold aZ;omega
 have lC:=RY H;have FT:=eS (show _=Sl (fl aU) 10 vb d.state.aH*(blk id (.box (jD vb bF va d))*(blk bF (.map ((d.params.getD []).map kq))*Sl (fl dR) 5 va d.eu)*R) by unfold lJ;ac_rfl) H;have SU:d.state.aH.length<=aZ:=by have:=hK.si.len;unfold aZ;omega
 unfold P0 oa;rw[show(((Ψ (ε pb)).bind λv=>δ [v]).bind λcs=>δ (ZN cs))=δ (.rp [.ah pb])from rfl,bS,show ZP (.op id 0)=δ (.op id 0)from rfl,bS,show WC 0 (.op id 0)=δ (.op id 0)from by simp [WC],bS,show WC 0 (.op id 0)=δ (.op id 0)from by simp [WC],bS,show((χ (.op id 0) σ).bind λc=>Γ 0 c)=δ vb from by simp only[χ,lC];exact GF FT,bS,asM SU pb FT,bS];simp only;rw[agN hp Ea H,bS];simp only;rw[nw,bS,yl,bS];simp only;rw[ah5,bS,EL _ (by show 2<=aZ;decide),bS];simp only;obtain⟨ix,Ec⟩:∃ix,ix=iT (DJ pb) d.state.aH:=⟨_,rfl⟩
 rw[<-Ec];by_cases h0:ux d.eu t=0
 case neg=>
  rw[aP h0];rw[show(([ux d.eu t,if(decide (ix<0))=θ then 8 else 0]:List Int).find? λn=>decide (¬n=0)).getD 0=ux d.eu t from by simp [Xx,h0],fV,bS,cL h0,dL];simp only[show ψ 10 (.agg tL)=δ tL from rfl,show ir 0 tL tL=δ tL from rfl,show VU 0 10 tL=δ (.agg tL)from rfl,bS];exact⟨_,rfl,bD _ _⟩
 rw[aO (λq=>q h0),h0];by_cases h1:ix<0
 ·rw[aP h1,cL h1,show(([0,if θ=θ then 8 else 0]:List Int).find? λn=>decide (¬n=0)).getD 0=8 from rfl,fV,bS,cL (show ¬(8:Int)=0 by decide),dL];simp only[show ψ 10 (.agg tL)=δ tL from rfl,show ir 0 tL tL=δ tL from rfl,show VU 0 10 tL=δ (.agg tL)from rfl,bS];exact⟨_,rfl,bD _ _⟩
 rw[aO h1,cO h1,show(([0,if ι=θ then 8 else 0]:List Int).find? λn=>decide (¬n=0)).getD 0=0 from rfl,fV,bS,cO (show ¬¬(0:Int)=0 by decide),dD];obtain⟨t1,t2⟩:=aAz h0;have hrd:=aAx hp H;obtain⟨v,W,e1,e2⟩:=W7 hK.di hrd t1.2 hK.si t2 ⟨.op id 0,by simp [WC],by simp only[χ,lC];rfl⟩ (XA FT)
 obtain⟨k,x,hk,hx⟩:∃(k:Nat)(x:bz),ix=(k:Int)/\(kM d d.state t).aH[k]? =δ x:=by
  rcases td (DJ pb) d.state.aH with⟨q,_⟩|⟨k,y,hy,_,hk,_⟩
  ·rw[<-Ec]at q;omega
  ·have hl:=congrArg WD (Ma d d.state t);rw[X1,X1]at hl;have hk':=(bG.1 hy).1;exact⟨k,_,by rw[Ec];exact hk,cC (by omega)⟩
 obtain⟨s1,hs1⟩:∃s1,s1=kM d d.state t:=⟨_,rfl⟩
 rw[<-hs1]at e1 e2 hx ⊢;rw[e1,bS];simp only;rw[show ψ 4 (.agg (bU v s1))=δ (bU v s1)from rfl,bS];rw[hk,TS,show s1.aH.getD k EZ=x from by rw[aC3,hx];rfl];rcases e2 with⟨z1,z2,z3⟩|⟨g,z1,z2⟩
 ·rw[z1]at hx;simp at hx
 ·have hW:∃ex,W=σ++ex:=⟨_,z2⟩
  have hgt:W[σ.length+1]? =δ (.arr g 10 (s1.aH.map aU)):=by rw[z2];exact MX σ g s1
  have hl:=(bG.1 hx).1;rw[z1,show Γ 0 (bU (.os (σ.length+1) g 10 0 s1.aH.length) s1)=δ (.os (σ.length+1) g 10 0 s1.aH.length)from rfl,bS]
  rw[show Zo 10 (.os (σ.length+1) g 10 0 s1.aH.length) (.ah (k:Int))=δ (.oe (σ.length+1) g k 0)from by
   simp only[Zo,A.idx];rw[aP ⟨by omega,by omega⟩]
   simp,bS]
  rw[show((χ (.oe (σ.length+1) g k 0) W).bind λc=>VU 0 10 c)=δ (.agg (aU x))from by
   simp only[χ,hgt,if_true,uz,hx,cR,Zz]
   exact aA2 x,bS]
  rw[QT,bS,ap0 _ _ rfl,bS,aA2,bS];obtain⟨ex,rfl⟩:=hW;exact⟨_,auv x 0,afe (agj (cE (wq (BP x)) (cE (eE _ _) pJ))) σ ex⟩
end
end
section
open HP
theorem apr{l:List bA}(h:pL l=0):(Dl l).length<=600000:=by
 have hf:=MC h
 have key:∀(l:List bA),(∀c∈l,c.dF.length<=2000)->(Dl l).length<=l.length*2000:=by
  intro l;induction l with
  |nil=>intro _;simp [Dl]
  |cons c l ih=>intro h;have h1:=ih (λc' sO=>h c' (tN _ sO));have h2:=h c (by simp);unfold Dl at h1 ⊢;rw[Xm,ZY,X1,YZ];omega
 have:=key l (λc hc=>(hf.mv c hc).1);have:=hf.len;omega
def Ep(l:List (aC×dU)):List jt:=l.filterMap λp=>if h:0<=p.1.unit/\p.1.unit<=1000000 then δ ⟨p.1,h⟩else μ
def Kx (l:List (aC×dU)):List aC:=(qx (λa b:jt=>nM a.1 b.1) (Ep l)).map (·.1)
theorem RR{l:List (aC×dU)}(h:∀p∈l,0<=p.1.unit/\p.1.unit<=1000000):(Ep l).map (·.1)=l.map (·.1):=by
 unfold Ep;induction l with
 |nil=>rfl
 |cons p l ih=>have hp:=h p (by simp);rw[V5];rw[dif_pos hp];simp only[eP];rw[ih (λq hq=>h q (by simp [hq]))]
theorem val_inj:∀{a b:List jt},a.map (·.1)=b.map (·.1)->a=b
 |[],[],_=>rfl
 |[],_::_,h=>by simp at h
 |_::_,[],h=>by simp at h
 |x::a,y::b,h=>by simp only[eP,aCW]at h;rw[Subtype.ext h.1,val_inj h.2]
theorem ac1:∀{a b:List aC},a.map (λk=>Φ (aS k))=b.map (λk=>Φ (aS k))->a=b
 |[],[],_=>rfl
 |[],_::_,h=>by simp at h
 |_::_,[],h=>by simp at h
 |x::a,y::b,h=>by simp only[eP,aCW]at h;rw[ad7 h.1,ac1 h.2]
theorem ap2{l:List (aC×dU)}(h:∀p∈l,0<=p.1.unit/\p.1.unit<=1000000):(Kx l).Perm (l.map (·.1)):=by unfold Kx;have:=(EJ (AH λk:jt=>k.1) (Ep l)).1.map (·.1);rwa[RR h]at this
abbrev FA(o:Option (List (aC×dU))):AV:=qI (λx=>Φ (aS x)) (λx=>Φ (gI x)) o
theorem aqn(o:Option (List (aC×dU))):Ψ (FA o)=δ (FA o):=by cases o<;>rfl
theorem aum(o:Option (List (aC×dU)))(W:Heap):PG [FA o] W=δ (.fn 359 [.rp [FA o]],W):=by refine Gz (by cases o<;>rfl) rfl (jr _) ?_;unfold aap;rw[aqn,bS,bS,bS];exact bD _ _
theorem arv{o:Option (List (aC×dU))}(hn:((o.getD []).map (·.1)).Nodup)(hu:∀p∈o.getD [],0<=p.1.unit/\p.1.unit<=1000000)(hl:(o.getD []).length<=1000000)(W:Heap):Lp [.fn 359 [.rp [FA o]],.fn 372 []] W=δ (sl 2 aS (Kx (o.getD [])),W):=by
 have hr:A.zC (FA o)=δ ((o.getD []).map fG):=by cases o<;>rfl
 have hk:KeysOf ((o.getD []).map fG) (Ep (o.getD [])):=by
  refine⟨?_,?_,?_⟩
  ·rw[YG];have:(Ep (o.getD [])).map (λk=>Φ (aS k.1))=((Ep (o.getD [])).map (·.1)).map (λk=>Φ (aS k)):=by rw[YG];rfl
   rw[this,RR hu,YG];rfl
  ·have:((Ep (o.getD [])).map (·.1)).Nodup:=by rw[RR hu];exact hn
   exact(TO.1 this).imp λq e=>q (by rw[e])
  ·have:=congrArg WD (RR hu);rw[X1,X1]at this;omega
 show(A.zC (FA o)).bind _=_;rw[hr,bS];have hex:∃l,KeysOf ((o.getD []).map fG) l:=⟨_,hk⟩
 rw[dif_pos hex];have hch:=Vm hex
 have e:To hex=Ep (o.getD []):=by refine val_inj (ac1 ?_);rw[YG,YG];exact hch.1.symm.trans hk.1
 rw[e];unfold Kx sl;rw[YG];rfl
def E6(b:bz)(c:Int)(k:aC):Option Dv:=if(eF b k c).2=θ then δ ⟨k,(eF b k c).1.gJ,(eF b k c).1.nN,(eF b k c).1.ending⟩else μ
def Le (pb:Int) (b:bz) (t:Int):CQ:=⟨pb,if 0<=b.cK then((b.bH[b.cK.toNat]?).map (·.az)).getD 0 else 0,b.jc,b.aK.jV,iC b,(Kx (b.runs.getD [])).filterMap (E6 b (eT b.aK t))⟩
def au0:CQ:=⟨0,0,0,ι,0,[]⟩
def Er (d:cr) (pb t:Int):CQ×Int:=if ¬((oa d pb t).2=0)then(au0,(oa d pb t).2)else(Le pb (oa d pb t).1 t,0)
theorem auq{W:Heap}{id:Nat}{b:bz}(h:W[id]? =δ (.box (aU b)))(sh:Sh):Lt W sh (.op id 0) (.rp (aU b)):=by refine⟨⟨.rp (aU b),?_,rfl,rfl⟩,rfl,λh=>by cases h⟩;have q:=BP b W 0 7;simp only[X4,aCX,if_false,h,Zz,MB,q,cR]
theorem ash{W:Heap}{id:Nat}{b:bz}(h:W[id]? =δ (.box (aU b))):Ez [.op id 0] W=δ (.ah (iC b),W):=
 Bb (eD:=[.op id 0]) (ts:=[.rp (aU b)]) ⟨auq h _,trivial⟩ (λσ=>ahb b σ) rfl
theorem anJ{W:Heap}{id:Nat}{b:bz}(h:W[id]? =δ (.box (aU b)))(k:aC)(c:Int):wj [.op id 0,.agg (aS k),.ah c] W=δ (.aM [.agg (gI (eF b k c).1),.bool (eF b k c).2],W):=by refine aAN (q:=.op id 9) b k c W rfl (by simp [WC]) ?_;simp only[χ,h];exact Jb b (σ:=[])
abbrev M8:List Sh:=[.k,.k,.k,.k,.k,.k,.k,.k,(.s 2),.k,.k]
theorem auz(x:Dv):TQ M8 (mR x)=mR x:=rfl
theorem atb{v:AV}{l:List Dv}(h:Y9 (.s 11) v=sl 11 mR l):Y9 (.e 11 M8) v=sl 11 mR l:=by
 have key:∀es:List aq,es=l.map mR->es.map (TQ M8)=l.map mR:=by rintro _ rfl;rw[YG];exact Yq λx _=>auz x
 cases v<;>first|exact h|(unfold sl at h ⊢;simp only[Y9]at h ⊢;injection h with h1 h2;rw[h1,key _ h2])
theorem aqs(f:jI)(hf:f.fM.br.length<=1000000)(W:Heap):A.nS (.s 2) F5 [sl 2 iF f.fM.br] W=δ (sl 2 iF f.fM.br,W):=
 Gk (most:=140737488355328 / 16) (m:=F5) (r0:=PD) Mm rfl (λ_ _=>rfl) (by omega) W
section
variable {σ : Heap} {R : HP}
abbrev nU(pb:Int)(b:bz)(vo:AV):aq:=[.ah pb,.ah (if 0<=b.cK then((b.bH[b.cK.toNat]?).map (·.az)).getD 0 else 0),.ah b.jc,.bool b.aK.jV,.ah (iC b),vo]
theorem atz{w:Heap}{b:bz}{t pb:Int}{ks:List aC}(hks:ks.length<=1000000){i:Nat}{k:aC}(hi:ks[i]? =δ k)(z:AV){vo:AV}{out:List Dv}(ho:out.length<=1000000)(hp:((eF b k (eT b.aK t)).1.gJ.fM.br.length<=1000000)){id:Nat}(H:Hs dV σ w (blk id (.box (aU b))*(Sl (fl mR) 11 vo out*R))):
  ∃iq w',(Ln (δ (Yy id 0)) (ε t) id (sl 2 aS ks) (ε (ks.length:Int))) [z,.lbx (nU pb b vo),.ah (i:Int)] w=δ (.normal,[z,.lbx (nU pb b iq),.ah ((i+1:Nat):Int)],w')/\Hs dV σ w' (blk id (.box (aU b))*(Sl (fl mR) 11 iq (out++(E6 b (eT b.aK t) k).toList)*R)):=by
 have lC:=(jO H).2;try unfold Ln
 simp only[cH,dr];rw[iR hi,bS,dL,gH hi,bS,qG,bS,rB,bS,BV,bS,C4 _ _ rfl,bS,rB,bS,bS,show((χ (.op id 0) w).bind λc=>VU 0 3 c)=δ (.agg (yq b.aK))from by simp only[χ,lC];rfl,bS,eH (MY b.aK t w),bS,eH (anJ lC k (eT b.aK t)),bS,lV,bS,ext1,bS];rw[Ax,bS,CW _ _ rfl,bS,zY,bS];obtain⟨r,hr⟩:∃r,r=(eF b k (eT b.aK t)).1:=⟨_,rfl⟩
 rw[<-hr]at hp ⊢;cases hd:(eF b k (eT b.aK t)).2
 ·rw[show(!ι)=θ from rfl,dL,fT hi (by unfold aZ;omega),bS];refine⟨vo,w,rfl,?_⟩;unfold E6;rw[hd,aO (by decide)];simp only[Option.toList_none,VT];exact H
 ·rw[show(!θ)=ι from rfl,dD,aoa,bS,aqs r.gJ hp w,bS];have hcv:Γ 5 (nU pb b vo)=δ vo:=GF (eS (show _=Sl (fl mR) 11 vo out*(blk id (.box (aU b))*R) by ac_rfl) H);obtain⟨x,hx⟩:∃x:Dv,x=⟨k,r.gJ,r.nN,r.ending⟩:=⟨_,rfl⟩
  have K2:=eS (show _=Sl (fl mR) 11 vo out*(els (fl mR) [mR x] [x]*(blk id (.box (aU b))*R)) by
   rw[show els (fl mR) [mR x] [x]=pr (mR x=mR x)*emp from rfl];ac_rfl) (p9.2 ⟨(rfl:mR x=mR x),eS (CT _).symm H⟩)
  obtain⟨iq,σ',f1,f2⟩:=J6 (most:=140737488355328 / 112) K2 (by simp;omega) (λ_ _ _ _=>trivial);have f2':=eS (show _=Sl (fl mR) 11 iq (out++[x])*(blk id (.box (aU b))*R) by rfl) f2;have axg:Ψ iq=δ iq:=GF f2';rw[show((Ψ (sl 2 iF r.gJ.fM.br)).bind λv=>δ [v])=δ [sl 2 iF r.gJ.fM.br]from rfl,bS,show ir 6 [sl 2 iF r.gJ.fM.br] (gI r)=δ (gI r)from rfl,bS];simp only[kg,bS,hcv,rB,aa4,Jn,Mf];rw[show(((ψ 2 (.agg (aS k))).bind λsM=>(ir 0 sM [(ε 0),bE,(ε 0),(ε 0),(ε 0),(ε 0),(ε 0),(ε 0),Zg,(ε 0),aR]).bind λBj=>(ψ 7 (.agg (iK r.gJ))).bind λBk=>(ir 2 Bk Bj).bind λuN=>((Ψ (.ah r.nN)).bind λv=>δ [v]).bind λuO=>(ir 9 uO uN).bind λqE=>((Ψ (.bool r.ending)).bind λv=>δ [v]).bind λyR=>(ir 10 yR qE).bind λHS=>δ HS).bind λcs=>δ (Φ cs))=δ (.agg (mR x))from by rw[hx];rfl,bS];rw[show(((ψ 11 (.agg (mR x))).bind λAh=>(ir 0 Ah [(ε 0),bE,(ε 0),(ε 0),(ε 0),(ε 0),(ε 0),(ε 0),Zg,(ε 0),aR]).bind λwN=>δ wN).bind λcs=>δ (Yh 11 (iP 11 1 cs)))=δ (.sl 11 [mR x])from rfl,bS,f1,bS];simp only[axg,bS];rw[show ir 5 [iq] (nU pb b vo)=δ (nU pb b iq)from rfl,bS,fT hi (by unfold aZ;omega),bS];refine⟨iq,σ',rfl,?_⟩;unfold E6;rw[hd,aP rfl,<-hr,<-hx,aDy];exact eS (by ac_rfl) f2'
theorem ag8{α β:Type}{X:Option α}{v:α}{f:α->Option β}{r:Option β}(e:X=δ v)(k:f v=r):X.bind f=r:=by rw[e];exact k
theorem akS{α β:Type}(f:α->Option β)(l:List α){i:Nat}{x:α}(h:l[i]? =δ x):(l.take (i+1)).filterMap f=(l.take i).filterMap f++(f x).toList:=by rw[TC,h,aDy,XY,V5,UJ];cases f x<;>rfl
theorem abW{aL:Heap}{pd:AV}{d:cr}(hK:zP d)(t pb:Int)(H:Hs dV aL σ (wv pd d*R))(hB:(oa d pb t).2=0->uA t (oa d pb t).1)(hl:((oa d pb t).1.runs.getD []).length<=1000000)(hp:∀p∈(oa d pb t).1.runs.getD [],p.2.gJ.fM.br.length<=1000000):
  PI [pd,.ah pb,.ah t] σ=δ (.aM [.agg (zg (Er d pb t).1),.ah (Er d pb t).2],σ):=by
 suffices h:∃v,Y9 (.t [(.a [.k,.k,.k,.k,.k,(.e 11 M8)]),.k]) v=.aM [.agg (zg (Er d pb t).1),.ah (Er d pb t).2]/\PJ pd (.ah pb) (.ah t) σ=δ (v,σ) by obtain⟨v,h1,h2⟩:=h;exact MU h1 h2
 unfold PJ Er;rw[arR hK t pb H,bS];simp only;obtain⟨b,hb⟩:∃b,b=(oa d pb t).1:=⟨_,rfl⟩
 obtain⟨e,he⟩:∃e,e=(oa d pb t).2:=⟨_,rfl⟩
 rw[<-hb,<-he]at hB ⊢;rw[<-hb]at hl hp;rw[lV,bS,ext1,bS,QT,bS];have G0:(σ++[Vs tL])[σ.length]? =δ (.box tL):=by rw[jq (bN _),Yp];rfl
 have hst:XZ (.op σ.length 0) (aU b) (σ++[Vs tL])=δ (σ++[Vs (aU b)]):=by simp only[XZ,G0];rw[show ir 0 (aU b) tL=δ (aU b)from rfl,cR,sy _ _ (bN _),Yp];rfl
 rw[hst,bS,fV,bS];by_cases h0:e=0
 case neg=>
  rw[cL h0,dL,aP h0];simp only[show ψ 6 (Φ [(ε 0),(ε 0),(ε 0),aR,(ε 0),Zg])=δ [(ε 0),(ε 0),(ε 0),aR,(ε 0),Zg]from rfl,bS,show ir 0 [(ε 0),(ε 0),(ε 0),aR,(ε 0),Zg] [(ε 0),(ε 0),(ε 0),aR,(ε 0),Zg]=δ [(ε 0),(ε 0),(ε 0),aR,(ε 0),Zg]from rfl,show VU 0 6 [(ε 0),(ε 0),(ε 0),aR,(ε 0),Zg]=δ (.agg [(ε 0),(ε 0),(ε 0),aR,(ε 0),Zg])from rfl];exact⟨_,rfl,afe (agj (cE (wq (cE (eE _ _) (cE (eE _ _) (cE (eE _ _) (cE (BY _) (cE (eE _ _) (cE agi pJ))))))) (cE (eE _ _) pJ))) σ _⟩
 rw[cO (λq=>q h0),dD,aO (λq=>q h0)];have hI:=hB h0;obtain⟨id,hid⟩:∃id,id=σ.length:=⟨_,rfl⟩
 obtain⟨W0,vQ⟩:∃W0,W0=σ++[Vs (aU b)]:=⟨_,rfl⟩
 rw[<-vQ,<-hid];have K0:Hs dV σ W0 (blk id (.box (aU b))*emp):=by rw[vQ,hid];exact GJ (C7 σ) trivial
 have lC:=(jO K0).2;have fo:∀o,WC o (.op id 0)=δ (.op id o):=λo=>by simp [WC]
 rw[fo 7,bS,show((χ (.op id 7) W0).bind λc=>Γ 0 c)=δ (.ah b.jc)from by simp only[χ,lC];rfl,bS,fo 0,bS,show WC 2 (.op id 0)=δ (.op id 2)from fo 2,bS,show((χ (.op id 2) W0).bind λc=>Γ 0 c)=δ (.bool b.aK.jV)from by simp only[χ,lC];rfl,bS,eH (ash lC),bS];rw[show((((Ψ (ε pb)).bind λv=>δ [v]).bind λig=>(ir 0 ig [(ε 0),(ε 0),(ε 0),aR,(ε 0),Zg]).bind λiz=>((Ψ (ε b.jc)).bind λv=>δ [v]).bind λiH=>(ir 2 iH iz).bind λij=>((Ψ (Λ b.aK.jV)).bind λv=>δ [v]).bind λiL=>(ir 3 iL ij).bind λgj=>((Ψ (ε (iC b))).bind λv=>δ [v]).bind λfW=>(ir 4 fW gj).bind λiA=>δ iA).bind λcs=>δ (Φ cs))=δ (.agg [.ah pb,.ah 0,.ah b.jc,.bool b.aK.jV,.ah (iC b),.aA])from rfl,bS];rw[show ψ 6 (.agg [.ah pb,.ah 0,.ah b.jc,.bool b.aK.jV,.ah (iC b),.aA])=δ [.ah pb,.ah 0,.ah b.jc,.bool b.aK.jV,.ah (iC b),.aA]from rfl,bS];rw[show ir 0 [.ah pb,.ah 0,.ah b.jc,.bool b.aK.jV,.ah (iC b),.aA] [(ε 0),(ε 0),(ε 0),aR,(ε 0),Zg]=δ [.ah pb,.ah 0,.ah b.jc,.bool b.aK.jV,.ah (iC b),.aA]from rfl,bS];rw[fo 6,bS,show((χ (.op id 6) W0).bind λc=>Γ 0 c)=δ (.ah b.cK)from by simp only[χ,lC];rfl,bS,vD,bS]
 have E1:(φ (Λ (decide (0<=b.cK))) (
   (WC 5 (Yy id 0)).bind λx34=>
   ((χ x34 W0).bind λkX=>Γ 0 kX).bind λiD=>
   (δ (Yy id 6)).bind λfI=>
   ((χ fI W0).bind λmU=>Γ 0 mU).bind λiu=>
   (Zo 11 iD iu).bind λgn=>
   (WC 0 gn).bind λfD=>
   ((χ fD W0).bind λoh=>Γ 0 oh).bind λgL=>
   ((Ψ gL).bind λv=>δ [v]).bind λDV=>
   (ir 1 DV [.ah pb,.ah 0,.ah b.jc,.bool b.aK.jV,.ah (iC b),.aA]).bind λBg=>
   δ ([VD [(ε 0),(ε 0),(ε 0),aR,(ε 0),Zg],VD Bg],W0)) (
   δ ([VD [(ε 0),(ε 0),(ε 0),aR,(ε 0),Zg],VD [.ah pb,.ah 0,.ah b.jc,.bool b.aK.jV,.ah (iC b),.aA]],W0)))=δ ([VD [(ε 0),(ε 0),(ε 0),aR,(ε 0),Zg],VD (nU pb b .aA)],W0):=by
  by_cases hc:0<=b.cK
  ·rw[cL hc,dL];obtain⟨j,hj⟩:∃j:Nat,b.cK=(j:Int):=⟨b.cK.toNat,by omega⟩
   have hjl:j<b.bH.length:=by have:=hI.cK.2;omega
   have hx:b.bH[j]? =δ b.bH[j]:=cC hjl;rw[fo 5,bS,show((χ (.op id 5) W0).bind λc=>Γ 0 c)=δ (sl 11 bg b.bH)from by simp only[χ,lC];rfl,bS,bS,show((χ (.op id 6) W0).bind λc=>Γ 0 c)=δ (.ah b.cK)from by simp only[χ,lC];rfl,bS,hj,gH hx,bS,mS,bS,show((χ (.rp ((bg b.bH[j]).drop 0)) W0).bind λc=>Γ 0 c)=δ (.ah b.bH[j].az)from rfl,bS]
   have e1:(if 0<=b.cK then((b.bH[b.cK.toNat]?).map (·.az)).getD 0 else 0)=b.bH[j].az:=by rw[aP hc,hj,TS,hx];rfl
   unfold nU;rw[e1];rfl
  ·rw[cO hc,dD];unfold nU;rw[aO hc]
 rw[E1,bS];simp only;rw[fo 9,bS,show((χ (.op id 9) W0).bind λc=>Γ 0 c)=δ (FA b.runs)from by simp only[χ,lC];exact Jb b (σ:=[]),bS,aum,bS];simp only;rw[arv (Mb hI) (λp hp=>acn hI.fC (hI.runs p.1 p.2 hp).2) hl W0,bS];simp only;rw[fu,bS];obtain⟨ks,hks⟩:∃ks,ks=Kx (b.runs.getD []):=⟨_,rfl⟩
 have wS:ks.length<=1000000:=by rw[hks,(ap2 (λp hp=>acn hI.fC (hI.runs p.1 p.2 hp).2)).length_eq,X1];exact hl
 rw[<-hks];obtain⟨z,hz⟩:∃z,z=VD [(ε 0),(ε 0),(ε 0),aR,(ε 0),Zg]:=⟨_,rfl⟩
 have hL:∃q,Y7 (Ln (δ (Yy id 0)) (ε t) id (sl 2 aS ks) (ε (ks.length:Int))) [z,.lbx (nU pb b .aA),.ah 0] W0=δ q/\∃vo u W',q=(.exit 0,[z,.lbx (nU pb b vo),u],W')/\Hs dV σ W' (blk id (.box (aU b))*(Sl (fl mR) 11 vo (ks.filterMap (E6 b (eT b.aK t)))*emp)):=by
  refine qt (λn u w=>∃(i:Nat)(vo:AV),i<=ks.length/\u=[z,.lbx (nU pb b vo),.ah (i:Int)]/\n=ks.length-i/\Hs dV σ w (blk id (.box (aU b))*(Sl (fl mR) 11 vo ((ks.take i).filterMap (E6 b (eT b.aK t)))*emp))) ?_ (n:=ks.length) ⟨0,.aA,kW _,rfl,rfl,eS (by ac_rfl) (sV (v:=.aA) (E:=fl mR) (sz:=11) K0 (.inl rfl))⟩;rintro n u w ⟨i,vo,hi,rfl,hn,K⟩;by_cases h:i<ks.length
  ·have hx:ks[i]? =δ ks[i]:=cC h
   obtain⟨iq,w',f1,f2⟩:=atz (t:=t) (pb:=pb) wS hx z (by have:=List.length_filterMap_le (E6 b (eT b.aK t)) (ks.take i);rw[rM]at this;omega) (by
    unfold eF;split
    ·show(0:Nat)<=_;omega
    ·rename_i r hr;exact hp _ (Dr hr)) K
   refine .inl ⟨ks.length-(i+1),_,w',by omega,f1,i+1,iq,h,rfl,rfl,?_⟩;rw[akS _ _ hx];exact f2
  ·have:i=ks.length:=by omega
   subst this;rw[UN]at K;refine .inr ⟨(.exit 0,[z,.lbx (nU pb b vo),.ah (ks.length:Int)],w),?_,by simp,vo,_,w,rfl,K⟩;try unfold Ln
   simp only[cH,dr];rw[iQ,bS,dD]
 obtain⟨q,l1,vo,u,W',rfl,K'⟩:=hL;have K2:=eS (show _=Sl (fl mR) 11 vo (ks.filterMap (E6 b (eT b.aK t)))*(blk id (.box (aU b))*emp) by ac_rfl) K';obtain⟨v',g1,g2,g3⟩:=GO K2 asy (bN _) 7;have hcv:Γ 5 (nU pb b vo)=δ vo:=GF K2;refine⟨.aM [.agg (nU pb b v'),.ah 0],?_,?_⟩
 ·have:TQ [.k,.k,.k,.k,.k,(.e 11 M8)] (nU pb b v')=zg (Le pb b t):=by unfold nU Le zg;simp only[TQ,jr,atb g3,<-hks]
  show Yu [.agg (TQ _ (nU pb b v')),.ah 0]=_;rw[this]
 ·simp only[cH,dr];rw[hz]at l1;refine ag8 l1 ?_;simp only[qj,cH,dr,kg,bS];rw[show VU 0 6 (nU pb b vo)=δ (.agg (nU pb b vo))from rfl,bS,show ψ 6 (.agg (nU pb b vo))=δ (nU pb b vo)from rfl,bS,show ir 0 (nU pb b vo) [(ε 0),(ε 0),(ε 0),aR,(ε 0),Zg]=δ (nU pb b vo)from rfl,bS,show VU 0 6 (nU pb b vo)=δ (.agg (nU pb b vo))from rfl,bS];refine MN K' ?_ (λe=>?_)
  ·simp only[X4,A.gP,nU,g1,aJ,cR]
  ·have h1:=(bG.1 (jO K').2).1;rw[e]at h1;omega
end
end
section
open HP
theorem agG{d:cr}{a:iE}(h1:d.state.aH.length=1)(hk:a.kind=4)(h:(nF d a).2=0):∃b,(nF d a).1.state.aH=[b]/\b.aK.jV=θ/\(nF d a).1.eu=d.eu++[a]:=by
 unfold nF at h ⊢;by_cases h0:FI d a=0;case neg=>rw[aP h0]at h;exact absurd h h0
 rw[aO (λq=>q h0)]at h ⊢;by_cases hr:(lu d (kM d d.state a.time) a).2=0;case neg=>rw[aP hr]at h;exact absurd h hr
 rw[aO (λq=>q hr)];obtain⟨s,hs⟩:∃s,s=kM d d.state a.time:=⟨_,rfl⟩
 have hl:s.aH.length=1:=by have:=congrArg WD (Ma d d.state a.time);rw[X1,X1,<-hs]at this;omega
 rw[<-hs]at hr ⊢
 obtain⟨b,hb⟩:∃b,s.aH=[b]:=by
  cases hq:s.aH with
  |nil=>rw[hq]at hl;cases hl
  |cons b r=>
   cases r with
   |nil=>exact⟨b,rfl⟩
   |cons c r=>rw[hq]at hl;simp at hl
 have hi:(iT (λb:bz=>decide (b.az=a.kZ)) s.aH).toNat=0:=by
  rcases td (λb:bz=>decide (b.az=a.kZ)) s.aH with⟨q,_,_⟩|⟨k,x,q1,_,q2,_,_⟩
  ·rw[q];rfl
  ·have:=(bG.1 q1).1;rw[q2];omega
 have hA:lu d s a=Dw d s a 0 b:=by unfold lu;rw[aO (by omega),aO (by omega),hi,hb];rfl
 rw[hA]at hr ⊢;unfold Dw at hr ⊢;rw[aO (by omega),aO (by omega),aO (by omega),aP hk]at hr ⊢;by_cases hq:b.aK.jV=θ\/b.cK<0
 ·rw[aP hq]at hr;exact absurd hr (by show ¬(10:Int)=0;decide)
 ·rw[aO hq];exact⟨_,by show s.aH.set 0 _=_;rw[hb];rfl,rfl,rfl⟩
theorem arz{l:List iE}{t:Int}(h1:0<=t/\t<=36000000)(h2:tI l<=t):ux l t=0:=by unfold ux;rw[aP (F4 h1.1 h1.2),cO (by omega)];rfl
theorem auA{s:i7}(h:zw s):zw {s with bM:=s.bM.take 1}:=by obtain⟨h1,h2,h3,h4⟩:=h;refine⟨h1,h2,h3,?_,λx hx=>h4.2 x (sA hx)⟩;show(s.bM.take 1).length<=aZ;rw[rM];unfold aZ;omega
end
section
open HP
theorem aeH{α:Type}[DecidableEq α]:∀{l m:List α},l.Nodup->(∀x∈l,x∈m)->l.length<=m.length
 |[],m,_,_=>kW _
 |x::l,m,hn,hs=>by
  have hx:=hs x (by simp);have hn':=pN.1 hn
  have:l.length<=(m.erase x).length:=aeH hn'.2 λy hy=>by
   have hne:y≠x:=λe=>hn'.1 (e▸hy)
   exact(List.mem_erase_of_ne hne).2 (hs y (by simp [hy]))
  rw[List.length_erase_of_mem hx]at this;have:0<m.length:=List.length_pos_of_mem hx;simp only[YZ];omega
theorem af6{d:cr}(hK:zP d){pb t:Int}(h:(oa d pb t).2=0):uA t (oa d pb t).1/\(oa d pb t).1∈(kM d d.state t).aH:=by
 unfold oa at h ⊢;by_cases h0:ux d.eu t=0;case neg=>rw[aP h0]at h;exact absurd h h0
 rw[aO (λq=>q h0)]at h ⊢;obtain⟨t1,t2⟩:=aAz h0;have hA:=QS hK.di hK.si t2 t1.2;rcases td (DJ pb) d.state.aH with⟨q,_⟩|⟨k,y,hy,_,hk,_⟩
 ·rw[q]at h;rw[aP (by decide)]at h;exact absurd h (by decide)
 ·rw[hk]at h ⊢;rw[aO (by omega)]at h ⊢;have hl:=congrArg WD (Ma d d.state t);rw[X1,X1]at hl;have hk':=(bG.1 hy).1
  have hx:(kM d d.state t).aH[k]? =δ ((kM d d.state t).aH[k]'(by omega)):=cC _
  have e:(kM d d.state t).aH.getD (k:Int).toNat EZ=(kM d d.state t).aH[k]'(by omega):=by
   rw[TS,aC3,hx];rfl
  simp only[e];exact⟨hA.bs _ (aDo _),aDo _⟩
theorem au7{d:cr}{pb t:Int}(h:¬(oa d pb t).2=0):(oa d pb t).1=EZ:=by
 unfold oa at h ⊢;split
 ·rfl
 ·rename_i q;rw[aO q]at h;split
  ·rfl
  ·rename_i q2;rw[aO q2]at h;exact absurd rfl h
section
variable {aL σ : Heap} {R : HP} {pd : AV}
theorem alL{d:cr}(hK:zP d)(t pb:Int)(H:Hs dV aL σ (wv pd d*R)):PI [pd,.ah pb,.ah t] σ=δ (.aM [.agg (zg (Er d pb t).1),.ah (Er d pb t).2],σ):=by
 by_cases h:(oa d pb t).2=0
 ·have hB:=(af6 hK h).1;refine abW hK t pb H (λ_=>hB) ?_ (λp hp=>?_)
  ·have h1:=aeH (Mb hB) (m:=Dl (oa d pb t).1.bH) (λx hx=>by
    obtain⟨p,hp,rfl⟩:=gh.1 hx
    exact(hB.runs p.1 p.2 hp).2)
   rw[X1]at h1;have:=apr hB.fC;omega
  ·have hc:=(hB.runs p.1 p.2 hp).1.c;unfold pK at hc;split at hc
   ·cases hc
   ·split at hc
    ·split at hc
     ·cases hc
     ·split at hc
      ·cases hc
      ·omega
    ·split at hc
     ·cases hc
     ·omega
 ·have hz:=au7 h;exact abW hK t pb H (λq=>absurd q h) (by rw[hz];simp [EZ]) (by rw[hz];simp [EZ])
end
end
section
open HP
theorem at7{b:bz}(h:b.eM<0):iC b=-1:=by unfold iC;rw[aP (.inl h)]
theorem aqe{d:cr}{s:dH}{b:bz}(hb:s.aH=[b])(h:b.eM<0)(t:Int):kM d s t=s:=by
 have hn:zL d t s=μ:=by
  unfold zL;rw[hb]
  have:vF t [b] 0 (-1,0)=(-1,0):=by show CX t 0 b (-1,0)=_;unfold CX;rw[at7 h,aO (by omega)]
  rw[this];exact aP (by decide)
 unfold kM;cases zK s.aH with
 |zero=>rfl
 |succ n=>unfold tv;rw[hn]
theorem aeW{a:Int}(h:0<=a/\a<=65535):As a 65535=a:=by unfold As;omega
end
section
abbrev JT(s s':dH):Prop:=s'.oG=s.oG/\s'.black=s.black
theorem as7{d:cr}{t:Int}{s s':dH}(h:zL d t s=δ s'):JT s s':=by
 unfold zL at h;split at h
 ·cases h
 obtain⟨b,_,h⟩:=ct.1 h;obtain⟨x,_,rfl⟩:=fF.1 h;exact⟨rfl,rfl⟩
theorem acV{d:cr}{t:Int}:∀(n:Nat)(s:dH),JT s (tv d t n s)
 |0,s=>⟨rfl,rfl⟩
 |n+1,s=>by
  unfold tv;split
  ·exact⟨rfl,rfl⟩
  ·rename_i s' h;have h1:=as7 h;have h2:=acV (d:=d) (t:=t) n s';exact⟨h2.1.trans h1.1,h2.2.trans h1.2⟩
theorem ad2(d:cr)(s:dH)(t:Int):JT s (kM d s t):=acV _ s
theorem XI(d:cr)(s:dH)(i:Nat)(b:bz)(to t:Int):JT s (vP d s i b to t).1:=by unfold vP;split<;>exact⟨rfl,rfl⟩
theorem atU(d:cr)(s:dH){a:iE}(h8:¬a.kind=8)(h9:¬a.kind=9):JT s (lu d s a).1:=by
 unfold lu;rw[aO h8,aO h9];split
 ·exact⟨rfl,rfl⟩
 unfold Dw;split
 ·split
  ·exact⟨rfl,rfl⟩
  ·exact XI _ _ _ _ _ _
 split
 ·split
  ·exact⟨rfl,rfl⟩
  ·exact XI _ _ _ _ _ _
 split
 ·split
  ·exact⟨rfl,rfl⟩
  ·exact XI _ _ _ _ _ _
 split
 ·split<;>exact⟨rfl,rfl⟩
 split
 ·split<;>exact⟨rfl,rfl⟩
 split
 ·split<;>exact⟨rfl,rfl⟩
 exact⟨rfl,rfl⟩
theorem avd(d:cr){a:iE}(h8:¬a.kind=8)(h9:¬a.kind=9):JT d.state (nF d a).1.state:=by
 unfold nF;split
 ·exact⟨rfl,rfl⟩
 split
 ·exact⟨rfl,rfl⟩
 ·have h1:=ad2 d d.state a.time;have h2:=atU d (kM d d.state a.time) h8 h9;exact⟨h2.1.trans h1.1,h2.2.trans h1.2⟩
end
section
open HP Go.Sort
section
variable {aL σ : Heap} {R : HP}
theorem aqV{α:Type}{c:α->aq}{sz:Nat}{fN:List Sh}{r:aq->Heap->aF}{FE ts:aq}{l:List α}(hc:∀x,kF (c x))(h:KC σ fN FE ts)(e:KS (Ω θ fN .k r) ts c sz l):A.nS (.s sz) (Ω θ fN .k r) FE σ=δ (sl sz c l,σ):=by obtain⟨v,σ',e1,K⟩:=ahn (B:=dV) (λ_ _=>trivial) h e (C7 σ);obtain⟨v',e2,e3⟩:=afg hc K;unfold A.nS;rw[e1,aJ];simp only;rw[e2,cR];simp only;rw[e3]
end
end
section
open HP
def GL(r:eU)(bn:List fL)(l:List bA)(n:Int):List gE×Int:=
 if ¬(yz r bn l=0)then([],yz r bn l)else if sE l n=ι then([],8)else(MF r bn (jo (pI (l.take (mE l n+1)))),0)
theorem amG{r:eU}{bn:List fL}{l:List bA}(h:yz r bn l=0):ji r=0/\pL l=0:=by
 unfold yz at h;by_cases h0:ru r bn=0;case neg=>rw[aP h0]at h;exact absurd h h0
 rw[aO (by simp [h0])]at h;by_cases h1:pL l=0;case neg=>rw[aP h1]at h;exact absurd h h1
 exact⟨Qi h0,h1⟩
theorem auy(r:eU)(bn:List fL)(l:List bA)(eD:aq):TQ [(.a [(.e 3 [.k,.k,(.e 7 qz)]),(.s 4)]),Du,(.e 11 nC)] (.agg (eO r)::sl 3 dX bn::sl 11 bg l::eD)=.agg (eO r)::sl 3 dX bn::sl 11 bg l::eD:=
 dO (nT (dO (mT (λ_=>(dO rfl (dO rfl (dO (mT (λ_=>rfl) _) oH)))) _) (dO rfl oH))) (dO (mT (λ_=>rfl) _) (dO (mT (λ_=>rfl) _) rfl))
theorem ata(l:List gE)(e:Int):Y9 (.t [(.s 3),.k]) (.aM [sl 3 dW l,.ah e])=.aM [sl 3 dW l,.ah e]:=by show Yu (TQ [.s 3,.k] [sl 3 dW l,.ah e])=_;rw[dO (show Y9 (.s 3) (sl 3 dW l)=sl 3 dW l by unfold sl;simp [Y9]) (dO (jr _) oH)]
theorem aeG(e:Int):Y9 (.t [(.s 3),.k]) (.aM [.aA,.ah e])=.aM [sl 3 dW [],.ah e]:=rfl
theorem aoQ{r:eU}{bn:List fL}{l:List bA}(hr:rG r)(hp:fZ xk bn)(hl:fZ zN l)(n:Int)(σ:Heap):aBX [.agg (eO r),sl 3 dX bn,sl 11 bg l,.ah n] σ=δ (.aM [sl 3 dW (GL r bn l n).1,.ah (GL r bn l n).2],σ):=by
 have run:∃b,aBE (.agg (eO r)) (sl 3 dX bn) (sl 11 bg l) (.ah n) σ=δ (b,σ)/\Y9 (.t [(.s 3),.k]) b=.aM [sl 3 dW (GL r bn l n).1,.ah (GL r bn l n).2]:=by
  unfold aBE GL;rw[show ψ 2 (.agg (eO r))=δ (eO r)from rfl,aJ,show VU 0 2 (eO r)=δ (.agg (eO r))from rfl,aJ,akU (alJ r bn l hr hp hl),aJ,Ym,aJ];by_cases hf:yz r bn l=0
  case neg=>
   rw[cL hf,dL,aP hf];exact⟨_,bD _ _,aeG _⟩
  obtain⟨NR,hform⟩:=amG hf;have hff:¬¬(yz r bn l=0):=by simp [hf]
  have hg:=MC hform;have hlen:=hg.len;rw[cO hff,dD,aO hff];rw[asG (avO l (by unfold aZ;omega) n),arI hg,aJ,aAH,aJ];cases hh:sE l n
  ·rw[aO (by decide),cL (by decide),dL,aP rfl];exact⟨_,bD _ _,aeG _⟩
  rw[aP rfl,cO (by omega),dD,aO (by decide)];obtain⟨x,hx,hxn⟩:=afo hg hh;generalize mE l n=a at hx ⊢;have Ea:=(bG.1 hx).1;have hb:A.nS (.s 5) Qp [sl 11 bg l,.ah ((a+1:Nat):Int)] σ=δ (sl 5 bJ (pI (l.take (a+1))),σ):=aqV (σ:=σ) Ml (fN:=[.e 11 Cg]) (FE:=[sl 11 bg l,.ah ((a+1:Nat):Int)]) (ts:=[sl 11 bg l,.ah ((a+1:Nat):Int)]) ⟨E5 (sk JP _) rfl,R5 _,trivial⟩ (aqa (l:=l) (n:=a+1) (by omega) (by omega) (λc hc=>by have:=(hg.mv c hc).1;omega));obtain⟨b1,b2⟩:=aa2 (l:=l.take (a+1)) (by simp;omega) (λc hc=>(hg.mv c (sA hc)).1)
  have hlv:Qq [.agg (eO r),sl 3 dX bn,sl 5 bJ (pI (l.take (a+1)))] σ=δ (sl 3 dW (MF r bn (jo (pI (l.take (a+1))))),σ):=
   amA (apt hr NR hp b1 (by omega))
  simp only;rw[Kc (by omega)];simp only[aJ];rw[eH hb,aJ,eH hlv,aJ];exact⟨_,bD _ _,ata _ _⟩
 obtain⟨b,h1,h2⟩:=run;refine wrap_eq rfl ?_ h2;rw[auy];exact h1
end
section
open HP
structure Ck (b : bz) : Prop where
 ck:b.aK.shown=b.aK.since/\b.aK.jV=ι/\0<=b.aK.since/\b.aK.since<=36000000
 fd:b.jc=65535
 pr:-1<b.kD
structure Gd (d : cr) (b : bz) : Prop where
 c:Ck b
 cK:∃(to:Nat)(x:bA),b.cK=(to:Int)/\b.bH[to]? =δ x/\(∀k e,jo (rI b x) k=δ e->∃r,dQ k (b.runs.getD [])=δ r/\r.ending=ι/\r.gJ.to=xG d e/\e.key=k)/\(∀k,jo (rI b x) k=μ->∀r,dQ k (b.runs.getD [])=δ r->r.ending=θ)
theorem ag9{b:bz}(h:Ck b){t:Int}(h0:0<=t)(h1:t<=36000000):eT b.aK t=t:=by obtain⟨⟨a,s,c,e⟩,_,_⟩:=h;unfold eT;rw[s,aO (by decide),a,show ξ.wrap (b.aK.since+t)=b.aK.since+t from cq (by unfold aY;omega),cq (by unfold aY;omega)];omega
theorem aud{d:cr}{s:dH}{b:bz}{x:bA}{to t:Int}(h:Ck b)(h0:0<=t)(h1:t<=36000000):Ck (lB d s b x to t):=
 ⟨⟨ag9 h h0 h1,rfl,h0,h1⟩,h.fd,h.pr⟩
theorem aq0{st:List bB}{k:aC}{e:bB}(h:jo st k=δ e):e∈st/\e.key=k:=by unfold jo at h;exact⟨xD h,by simpa using aEg h⟩
theorem agl{t0:Int}{d:cr}{s:dH}{b:bz}(hB:uA t0 b){x:bA}{to:Nat}{t:Int}(h:Ck b)(h0:0<=t)(h1:t<=36000000)(hx:b.bH[to]? =δ x):Gd d (lB d s b x (to:Int) t):=by
 have hnd:((zA d s b x t).map (·.1)).Nodup:=go_nodup (Ro b x).1 (Mb hB);have hcan:((DA (zA d s b x t)).map (·.1)).Nodup:=((Js (zA d s b x t)).map (·.1)).nodup_iff.2 hnd;refine⟨aud h h0 h1,to,x,rfl,hx,λk e he=>?_,λk hk r hr=>?_⟩
 ·obtain⟨hm,rfl⟩:=aq0 (st:=rI b x) he;refine⟨yx d s b x t (eT b.aK t) e,ahy hcan ((Js _).mem_iff.2 (Vu _ (gh.2 ⟨e,hm,rfl⟩))),?_,?_,rfl⟩
  ·unfold yx;split
   ·rename_i q;exact q.2.1
   ·rfl
  ·unfold yx;split
   ·rename_i q;exact q.2.2
   ·show(Ce d x e.key _ (xG d e) _).to=_;unfold Ce wC GI MM JW;simp only;split<;>split<;>(try split)<;>rfl
 ·have hm:(k,r)∈zA d s b x t:=(Js _).mem_iff.1 (Dr hr);have hk:jo (rI b x) k=μ:=hk;unfold zA at hm;rcases jQ.1 hm with hm|hm
  ·obtain⟨e,he,q⟩:=gh.1 hm;injection q with q1 q2
   unfold jo at hk;have:=T0.1 hk e he;simp [q1]at this
  ·obtain⟨p,hp,q⟩:=ZJ.1 hm;obtain⟨r',hr',q⟩:=fF.1 q;injection q with q1 q2
   subst q2;unfold wm at hr';split at hr'
   ·cases hr'
   ·injection hr' with hr'
    subst hr';split
    ·assumption
    ·rfl
theorem acW{d:cr}(hd:vC d){t:Int}(h2:t<=36000000):∀(n:Nat){s:dH}{N:Int}{b:bz},lq N s->N<=t->s.aH=[b]->Gd d b->∃b',(tv d t n s).aH=[b']/\Gd d b'/\b'.bH=b.bH
 |0,s,N,b,_,_,hb,hg=>⟨b,hb,hg,rfl⟩
 |n+1,s,N,b,hs,h1,hb,hg=>by
  rcases RJ hd hs h1 h2 with⟨_,e,h⟩|⟨f,b1,x,to,tm,q1,q2,q3,q4,q5,q6,q7,q8,q9,FV,q11⟩
  ·have:tv d t (n+1) s=s:=by unfold tv;rw[e]
   rw[this];exact⟨b,hb,hg,rfl⟩
  ·have hf:f=0/\b1=b:=by
    rw[hb]at q2;have:=(bG.1 q2).1;simp only[Wa]at this;have hf:f=0:=by omega
    subst hf;simp at q2;exact⟨rfl,q2.symm⟩
   obtain⟨rfl,rfl⟩:=hf;have hn:=hs.n;have hB:=q7 b1 (by rw[hb];exact TV.2 rfl);have hg2:Gd d (lB d {s with az:=ξ.wrap (s.az+1)} b1 x (to:Int) tm):=agl hB hg.c (by omega) (by omega) q4;have uR:s.aH.set 0 (lB d {s with az:=ξ.wrap (s.az+1)} b1 x (to:Int) tm)=[lB d {s with az:=ξ.wrap (s.az+1)} b1 x (to:Int) tm]:=by rw[hb];rfl
   have:tv d t (n+1) s=tv d t n {s with az:=ξ.wrap (s.az+1),aH:=s.aH.set 0 (lB d {s with az:=ξ.wrap (s.az+1)} b1 x (to:Int) tm)}:=by
    conv=>lhs;unfold tv
    rw[q9]
   rw[this];obtain⟨b',k1,k2,k3⟩:=acW hd h2 n FV q6 uR hg2;exact⟨b',k1,k2,k3⟩
theorem asR{d:cr}(hK:zP d){b0:bz}(hb:d.state.aH=[b0])(hc:Ck b0)(hf:b0.eM<0){a:iE}(hk:a.kind=3)(h0:a.time=0)(h:(nF d a).2=0):∃b,(nF d a).1.state.aH=[b]/\Gd d b/\b.bH=b0.bH:=by
 unfold nF at h ⊢;by_cases e0:FI d a=0;case neg=>rw[aP e0]at h;exact absurd h e0
 rw[aO (λq=>q e0)]at h ⊢;by_cases hr:(lu d (kM d d.state a.time) a).2=0;case neg=>rw[aP hr]at h;exact absurd h hr
 rw[aO (λq=>q hr)];have hah:kM d d.state a.time=d.state:=aqe hb hf _;rw[hah]at hr ⊢
 have hi:(iT (λb:bz=>decide (b.az=a.kZ)) d.state.aH).toNat=0:=by
  rcases td (λb:bz=>decide (b.az=a.kZ)) d.state.aH with⟨q,_,_⟩|⟨k,x,q1,_,q2,_,_⟩
  ·rw[q];rfl
  ·have:=(bG.1 q1).1;rw[hb]at this;simp only[Wa]at this;rw[q2];omega
 have hA:lu d d.state a=Dw d d.state a 0 b0:=by unfold lu;rw[aO (by omega),aO (by omega),hi,hb];rfl
 rw[hA]at hr ⊢;unfold Dw at hr ⊢;rw[aO (by omega),aO (by omega),aP hk]at hr ⊢;rcases td (λc:bA=>decide (c.az=a.cK)) b0.bH with⟨q,_⟩|⟨k,x,q1,_,q2,_⟩
 ·rw[q,aP (by decide)]at hr;exact absurd hr (by show ¬(8:Int)=0;decide)
 ·rw[q2,aO (by omega)]
  have e:vP d d.state 0 b0 (k:Int) a.time=({d.state with az:=ξ.wrap (d.state.az+1),aH:=d.state.aH.set 0 (lB d {d.state with az:=ξ.wrap (d.state.az+1)} b0 x (k:Int) a.time)},0):=by unfold vP;rw[TS,q1]
  rw[e,h0];refine⟨lB d {d.state with az:=ξ.wrap (d.state.az+1)} b0 x (k:Int) 0,by show d.state.aH.set 0 _=_;rw[hb];rfl,?_,rfl⟩;have:=agl (d:=d) (s:={d.state with az:=ξ.wrap (d.state.az+1)}) (hK.si.bs b0 (by rw[hb];exact TV.2 rfl)) hc (ZC 0) (by decide) q1;exact⟨this.c,this.cK⟩
theorem aqS{d:cr}(hI:vC d){b:bz}(hB:uA 36000000 b)(hg:Gd d b){s:dH}(hb:s.aH=[b])(Bp:s.oG=65535)(hbk:s.black=ι)(k:aC):∃(to:Nat)(x:bA),b.cK=(to:Int)/\b.bH[to]? =δ x/\sC d s k 36000000=B0 d.setup.bn (jo (rI b x)) k (gr d k).2.1:=by
 obtain⟨hc,to,x,h1,h2,h3,h4⟩:=hg;refine⟨to,x,h1,h2,?_⟩;have Cx:=ag9 hc (t:=36000000) (by decide) (by decide);have hpar:=hI.par k;unfold sC;simp only[Bp,hbk,YQ,if_false]
 have hout:(sR d s.aH k 36000000).out=B0 d.setup.bn (jo (rI b x)) k (gr d k).2.1/\0<=(sR d s.aH k 36000000).out/\(sR d s.aH k 36000000).out<=65535:=by
  unfold sR;rw[hb];simp only[V4,aDM];unfold uo B0;rw[Cx];cases he:jo (rI b x) k with
  |some e=>
   obtain⟨r,r1,r2,r3,r4⟩:=h3 k e he
   have nG:eF b k 36000000=(r,θ):=by unfold eF;rw[r1];simp only[r2,U7,Yx]
   have hfo:uj r.gJ:=(hB.runs k r (Dr r1)).1
   have hlv:wX r 36000000=xG d e:=by unfold wX FU;rw[show(if(36000000:Int)<36000000 then(36000000:Int)else 36000000)=36000000 from rfl,aP hfo.e,r3]
   have hlb:=hI.lev e.key e.value
   have hmg:Ft (gr d k).1 b r 36000000=xG d e:=by
    unfold Ft;rw[hlv,hc.fd];split
    ·exact aeW hlb
    ·rfl
   rw[nG];simp only;rw[aO (by have:=hc.pr;simp;omega),aP (.inl hc.pr),hmg];refine⟨?_,hlb⟩;unfold xG;rw[r4]
  |none=>
   have nG:(eF b k 36000000).2=ι:=by
    unfold eF;cases hf:dQ k (b.runs.getD [])with
    |none=>rfl
    |some r=>
     have hfo:uj r.gJ:=(hB.runs k r (Dr hf)).1;have he:=h4 k he r hf
     have hend:N0 r<=36000000:=by obtain⟨_,_,a1,a2,a3,a4,_⟩:=hfo;unfold N0;rw[show ξ.wrap (r.gJ.start+r.gJ.cB)=r.gJ.start+r.gJ.cB from cq (by unfold aY;omega),cq (by unfold aY;omega)];exact a4
     simp [he,hend]
   rw[nG,aP (.inl rfl)];exact⟨rfl,hpar⟩
 split
 ·exact hout.1
 ·rw[aeW hout.2];exact hout.1
theorem amO{d:cr}{r:eU}(h:ji r=0)(hp:d.params=δ (xI r))(k:aC):(lg r k).1.default=(gr d k).2.1:=by
 rw[arc h hp];by_cases e:(lg r k).2=θ
 ·rw[aP e]
 ·rw[aO e]
  have:(lg r k).1=De:=by
   unfold lg at e ⊢;cases q:r.cV.find? (λu=>decide (u.az=k.unit))with
   |none=>rfl
   |some u=>
    rw[q]at e;simp only[aDn]at e ⊢;unfold zB at e ⊢;cases q2:(iB u.ga r.bf).1.params.find? (λx=>decide (x.name=k.param))with
    |none=>rfl
    |some x=>rw[q2]at e;exact absurd rfl e
  rw[this];rfl
theorem aoy{s:i7}(h:Ca s=0):(∀l∈s.dJ,yz s.bk s.bn l.bH=0)/\∀p∈s.bM,0<=p.kD:=by
 unfold Ca at h;by_cases h1:ru s.bk s.bn=0;case neg=>rw[aP h1]at h;exact absurd h h1
 rw[aO (λq=>q h1)]at h;split at h
 ·cases h
 by_cases h3:jR (C8 s) s.dJ 0=0;case neg=>rw[aP h3]at h;exact absurd h h3
 rw[aO (λq=>q h3)]at h;split at h
 ·cases h
 refine⟨λl hl=>?_,λp hp=>?_⟩
 ·obtain⟨i,hi,e⟩:=Vb hl;have:=(zi s.dJ 0).1 h3 i l (by rw[<-e];exact cC hi);unfold C8 at this;split at this
  ·cases this
  split at this
  ·cases this
  exact this
 ·obtain⟨i,hi,e⟩:=Vb hp;have:=(zi s.bM 0).1 h i p (by rw[<-e];exact cC hi);unfold M5 at this;split at this
  ·cases this
  split at this
  ·cases this
  split at this
  ·cases this
  split at this
  ·cases this
  rename_i q;simp only[UK,aDb]at q;exact(tK q).1
theorem apj{W:Heap}{v st:AV}{keys:List aC}{f:aC->Int}{s:i7}(hk:keys.length<=aZ)(h1:E9 dW 3 W v (keys.map λk=>⟨k,f k⟩)) (hr:rG s.bk):
  ∃u,Y7 (Lm (sl 3 dW (keys.map λk=>(⟨k,f k⟩:gE))) v (ε ((keys.map λk=>(⟨k,f k⟩:gE)).length:Int))) [.lbx (cm s),.bool ι,st,.ah 0] W=δ (.exit 0,u,W):=by
 suffices h:∃q,Y7 (Lm (sl 3 dW (keys.map λk=>(⟨k,f k⟩:gE))) v (ε ((keys.map λk=>(⟨k,f k⟩:gE)).length:Int))) [.lbx (cm s),.bool ι,st,.ah 0] W=δ q/\∃u,q=(.exit 0,u,W) by obtain⟨q,e,u,rfl⟩:=h;exact⟨u,e⟩
 obtain⟨l,hl⟩:∃l,l=keys.map λk=>(⟨k,f k⟩:gE):=⟨_,rfl⟩
 have vT:l.length<=aZ:=by rw[hl,X1];exact hk
 rw[<-hl]at h1 ⊢;refine qt (λz u w=>∃i:Nat,i<=l.length/\u=[.lbx (cm s),.bool ι,st,.ah (i:Int)]/\z=l.length-i/\w=W) ?_ (n:=l.length) ⟨0,kW _,rfl,rfl,rfl⟩;rintro z u w ⟨i,hi,rfl,hz,rfl⟩;by_cases h:i<l.length
 ·have hx:l[i]? =δ l[i]:=cC h;generalize l[i]=x at hx;obtain⟨id,g,a1,a2,_⟩:=h1.at hx;try unfold Lm
  simp only[cH,dr];rw[iR hx,bS,dL,gH hx,bS,qG,bS,show VU 0 3 (dW x)=δ (.agg (dW x))from rfl,bS,show ψ 3 (.agg (dW x))=δ (dW x)from rfl,bS,show ir 0 (dW x) [(ε 0),bE,(ε 0)]=δ (dW x)from rfl,bS];simp only[kg,bS];rw[show VU 0 2 (cm s)=δ (.agg (eO s.bk))from rfl,bS,show VU 0 2 (dW x)=δ (.agg (aS x.key))from rfl,bS,Qm s.bk hr x.key w,bS];simp only;rw[lV,bS,ext1,bS,show ψ 7 (.agg (cG (lg s.bk x.key).1))=δ (cG (lg s.bk x.key).1)from rfl,bS,show ir 0 (cG (lg s.bk x.key).1) [bE,(ε 0),(ε 0),(ε 0),(ε 0),aR,Zg]=δ (cG (lg s.bk x.key).1)from rfl,bS,a1,bS,a2 0,bS];rw[show VU 0 3 ((dW x).drop 0)=δ (.agg (dW x))from rfl,bS,show VU 0 3 (dW x)=δ (.agg (dW x))from rfl,bS,show UP (.s [0,2,0]) (.agg (dW x)) (.agg (dW x))=δ (.bool ι)from by rw[UP,amw,cL rfl];rfl,bS];simp only[xP,gU,bS,qM,cF];rw[fT hx vT,bS];exact .inl ⟨l.length-(i+1),_,w,by omega,rfl,i+1,h,rfl,rfl,rfl⟩
 ·have:i=l.length:=by omega
  subst this;refine .inr ⟨(.exit 0,[.lbx (cm s),.bool ι,st,.ah (l.length:Int)],w),?_,by simp,_,rfl⟩;try unfold Lm
  simp only[cH,dr];rw[iQ,bS,dD]
theorem auY{s:List Sh}{r:AV->AV->Heap->aF}{x y v:AV}{σ:Heap}(h:[x,y].any A.own=ι)(e1:TQ s [x,y]=[x,y])(e:r x y σ=δ (v,σ)):Ω θ s .k (Xw r) [x,y] σ=δ (v,σ):=by refine wrap_eq h ?_ (jr _);rw[e1];exact e
theorem ajB{s:i7}{n:Int}{σ:Heap}(h:zw s/\aY n):aak [.agg (cm s),.ah n] σ=δ (.bool θ,σ):=by
 obtain⟨hs0,hn⟩:=h;refine auY rfl (dO (nT rfl) rfl) ?_;unfold aal;rw[show ψ 5 (.agg (cm s))=δ (cm s)from rfl,bS,show Γ 4 (cm s)=δ (sl 3 dA s.bM)from rfl,bS,fu,bS,jL,bS];by_cases he:(s.bM.length:Int)=0
 ·rw[cL he,dL];exact bD _ _
 rw[cO he,dD,bS];have hlen:1<=s.bM.length:=by omega
 rw[show Wf 3 (sl 3 dA s.bM) μ (δ (.ah 1)) σ=δ (sl 3 dA (s.bM.take 1))from Gj 3 dA s.bM (k:=1) hlen,bS];obtain⟨s1,hs1⟩:∃s1:i7,s1={s with bM:=s.bM.take 1}:=⟨_,rfl⟩
 have hs:zw s1:=by rw[hs1];exact auA hs0
 have hp1:s1.bM.length=1:=by rw[hs1];simp;omega
 rw[show((Ψ (sl 3 dA (s.bM.take 1))).bind λv=>δ [v])=δ [sl 3 dA (s.bM.take 1)]from rfl,bS,show ir 4 [sl 3 dA (s.bM.take 1)] (cm s)=δ (cm s1)from by rw[hs1];rfl,bS,show VU 0 5 (cm s1)=δ (.agg (cm s1))from rfl,bS];by_cases h0:Ca s1=0
 case neg=>
  rw[atO hs h0,bS];simp only;rw[lV,bS,ext1,bS,fV,bS,cL h0,dL,show ZA .p .np .np=δ (.bool θ)from rfl,bS];exact aBb θ (C7 (B:=dV) σ)
 obtain⟨id,W1,n1,K1⟩:=au4 hs h0 (C7 (B:=dV) σ);have hO:=ahs hs h0;obtain⟨hM1,hM2⟩:=aoy h0;have aBy:=aq9 hO;rw[n1,bS];simp only;rw[lV,bS,ext1,bS,fV,bS,cO (λq=>q rfl),dD]
 have vV:s1.bM[0]? =δ (s1.bM[0]'(by omega)):=cC _
 obtain⟨p,hp⟩:∃p,p=s1.bM[0]'(by omega):=⟨_,rfl⟩
 rw[<-hp]at vV;have FR:p∈s1.bM:=dm vV
 have hpl:s1.bM=[p]:=by
  cases hq:s1.bM with
  |nil=>rw[hq]at hp1;simp at hp1
  |cons a r=>
   cases r with
   |nil=>rw[hq]at vV;simp at vV;rw[vV]
   |cons b r=>rw[hq]at hp1;simp at hp1
 have rdP:∀W:Heap,((χ (.rp ((dA p).drop 0)) W).bind λc=>Γ 0 c)=δ (.ah p.az):=λ_=>rfl
 rw[show Γ 4 (cm s1)=δ (sl 3 dA s1.bM)from rfl,bS,show Zo 3 (sl 3 dA s1.bM) (.ah 0)=δ (.rp (dA p))from gH (i:=0) vV,bS,mS,bS,rdP,bS];obtain⟨a,ha⟩:∃a:iE,a=⟨0,3,p.az,n,0⟩:=⟨_,rfl⟩
 rw[show((((Ψ (ε 3)).bind λv=>δ [v]).bind λiH=>(ir 1 iH [(ε 0),(ε 0),(ε 0),(ε 0),(ε 0)]).bind λij=>((Ψ (.ah p.az)).bind λv=>δ [v]).bind λiL=>(ir 2 iL ij).bind λgj=>((Ψ (.ah n)).bind λv=>δ [v]).bind λfW=>(ir 3 fW gj).bind λiA=>δ iA).bind λcs=>δ (Φ cs))=δ (.agg (dR a))from by rw[ha];rfl,bS];obtain⟨W2,d1,K2⟩:=avP aBy a K1;rw[d1,bS];simp only;rw[fV,bS];by_cases hf:(nF (mD s1) a).2=0
 case neg=>
  rw[cL hf,dL];exact aBb θ K2
 rw[cO (λq=>q hf),dD,bS]
 have oU:(mD s1).state.aH=[nA s1 p]:=by show s1.bM.map (nA s1)=_;rw[hpl];rfl
 obtain⟨b1,vS,hg1,hc1⟩:=asR aBy oU ⟨⟨rfl,rfl,by show(0:Int)<=0;decide,by show(0:Int)<=36000000;decide⟩,rfl,by show -1<p.kD;have:=hM2 p FR;omega⟩ (by show(-1:Int)<0;decide) (a:=a) (by rw[ha]) (by rw[ha]) hf;have hK:=at6 aBy a
 have hT:tI (nF (mD s1) a).1.eu=0:=by
  rcases aqy (mD s1) a with⟨_,q⟩|q
  ·rw[q];show tI ([]++[a])=0;rw[ha];rfl
  ·rw[q];rfl
 obtain⟨dS,dK,dP⟩:=aqz (mD s1) a;obtain⟨dG,dB⟩:=avd (mD s1) (a:=a) (by rw[ha];show ¬(3:Int)=8;decide) (by rw[ha];show ¬(3:Int)=9;decide);obtain⟨d,hd⟩:∃d,d=(nF (mD s1) a).1:=⟨_,rfl⟩
 rw[<-hd]at vS hK hT dS dK dP dG dB K2
 have hg1:Gd d b1:=⟨hg1.c,by
  obtain⟨to,x,h1,h2,h3,h4⟩:=hg1.cK;refine⟨to,x,h1,h2,λk e he=>?_,h4⟩;obtain⟨r,r1,r2,r3,r4⟩:=h3 k e he;refine⟨r,r1,r2,?_,r4⟩;rw[r3];unfold xG
  rw[dS]⟩
 have dS':d.setup=s1:=dS;have dK':d.keys=nZ s1.bk:=dK;have dP':d.params=δ (xI s1.bk):=dP;have zT:ux d.eu 36000000=0:=arz ⟨by decide,by decide⟩ (by rw[hT];decide);have hdk:d.keys.length<=1000000:=by rw[dK'];exact apz hO
 have hsi:=hK.si;rw[hT]at hsi;obtain⟨b,hb,hg,hc⟩:=acW hK.di (t:=36000000) (by decide) (zK d.state.aH) hsi (by decide) vS hg1;obtain⟨s2,hs2⟩:∃s2,s2=kM d d.state 36000000:=⟨_,rfl⟩
 have hb:s2.aH=[b]:=by rw[hs2];exact hb
 obtain⟨gG,gB⟩:=ad2 d d.state 36000000;rw[<-hs2]at gG gB
 have ahM:b1.az=p.az:=by have:=hK.SF;rw[vS,dS',hpl]at this;simpa using this
 have Ec:iT (DJ p.az) d.state.aH=0:=by
  rcases td (DJ p.az) d.state.aH with⟨_,q,_⟩|⟨k,x,q1,_,q2,_⟩
  ·have:=q b1 (by rw[vS];exact TV.2 rfl);unfold DJ at this;rw[cL ahM]at this;cases this
  ·have:=(bG.1 q1).1;rw[vS]at this;simp only[Wa]at this;rw[q2];omega
 have YU:oa d p.az 36000000=(b,0):=by unfold oa;rw[aO (λq=>q zT),Ec,aO (by decide),<-hs2,hb];rfl
 have hBv:uA 36000000 b:=by have:=(af6 hK (pb:=p.az) (t:=36000000) (by rw[YU])).1;rw[YU]at this;exact this
 have hst:Er d p.az 36000000=(Le p.az b 36000000,0):=by unfold Er;rw[YU,aO (λq=>q rfl)]
 have S:=alL hK 36000000 p.az K2;rw[hst]at S;rw[show Zo 3 (sl 3 dA s1.bM) (.ah 0)=δ (.rp (dA p))from gH (i:=0) vV,bS,mS,bS,rdP,bS,S,bS];simp only;rw[lV,bS,ext1,bS,alR,bS,amj _ _ rfl,bS,fV,bS,cO (λq=>q rfl),dD];obtain⟨v1,W3,e1,K3⟩:=aoR hK hdk 36000000 K2
 have KJ:Hl d 36000000=(d.keys.map (λk=>⟨k,sC d s2 k 36000000⟩),0):=by unfold Hl;rw[aO (λq=>q zT),<-hs2]
 rw[KJ]at e1 K3;rw[e1,bS];simp only;rw[lV,bS,ext1,bS,show Γ 3 (cm s1)=δ (sl 2 fc s1.dJ)from rfl,bS,bS,show Zo 3 (sl 3 dA s1.bM) (.ah 0)=δ (.rp (dA p))from gH (i:=0) vV,bS,mS,bS,show((χ (.rp ((dA p).drop 1)) W3).bind λc=>Γ 0 c)=δ (.ah p.list)from rfl,bS];obtain⟨L,hL⟩:∃L,L=(um s1.dJ p.list).1:=⟨_,rfl⟩
 have Z8:L∈s1.dJ:=by rw[hL];exact acp (hO.fnd p FR)
 have hLo:fZ zN L.bH:=(hs.2.2.1.2 L Z8).2;have FO:b.bH=L.bH:=by rw[hc,hc1,hL];rfl
 rw[eH (amB (σ:=W3) (aoS s1.dJ hs.2.2.1.1 p.list)),bS,lV,bS,ext1,bS,<-hL,show ψ 2 (.agg (fc L))=δ (fc L)from rfl,bS,show ir 0 (fc L) [(ε 0),Zg]=δ (fc L)from rfl,bS,show VU 0 2 (cm s1)=δ (.agg (eO s1.bk))from rfl,bS,show Γ 2 (cm s1)=δ (sl 3 dX s1.bn)from rfl,bS,show Γ 1 (fc L)=δ (sl 11 bg L.bH)from rfl,bS,ak0,bS];obtain⟨to,x,g1,g2,g3,g4⟩:=hg.cK
 have hnx:(Le p.az b 36000000).cK=x.az:=by show(if 0<=b.cK then((b.bH[b.cK.toNat]?).map (·.az)).getD 0 else 0)=_;rw[aP (by omega),g1,TS,g2];rfl
 have hform:pL L.bH=0:=hO.lok L Z8;rw[FO]at g2
 have ahH:sE L.bH x.az=θ:=by unfold sE;rw[VK];exact⟨x,dm g2,by simp⟩
 have Dk:rI b x=pI (L.bH.take (mE L.bH x.az+1)):=by unfold rI AE;rw[FO,aO (by simp [hform]),ahH,aO (by decide)]
 have hres:GL s1.bk s1.bn L.bH x.az=(d.keys.map (λk=>⟨k,sC d s2 k 36000000⟩),0):=by
  unfold GL;rw[aO (by simp [hM1 L Z8]),ahH,aO (by decide),<-abK hO.bk,dK'];congr 1;refine Yq λk _=>?_
  obtain⟨to',x',k1,k2,k3⟩:=aqS hK.di hBv hg hb (by rw[gG,dG];rfl) (by rw[gB,dB];rfl) k;have hto:to'=to:=by rw[g1]at k1;omega
  subst hto;rw[FO,g2]at k2;injection k2 with k2
  subst k2;rw[k3,Dk,amO hO.bk dP',dS']
 rw[hnx,aoQ hs.1 hs.2.1 hLo x.az W3,hres,bS];simp only;rw[lV,bS,ext1,bS,fV,bS,cO (λq=>q rfl)];have S1:=az9 K3;simp only[gF,xP,gU,bS,fV,cO (λq:¬(0:Int)=0=>q rfl),qM,S1.len,fu,not_true_eq_false,decide_false,cF];obtain⟨u,l1⟩:=apj (W:=W3) (v:=v1) (st:=.lbx (zg (Le p.az b 36000000))) (keys:=d.keys) (f:=λk=>sC d s2 k 36000000) (s:=s1) (by unfold aZ;omega) S1 hs.1;refine ag8 l1 ?_;simp only[qj];exact aBb θ K3
theorem ajD(s:i7)(n:Int)(hs:zw s)(hn:aY n):zw s/\aY n:=⟨hs,hn⟩
end
section
open Go.ChangeShapes Go.WideShapes Go.ChangeAt Go.RowKit
theorem own:ownKnob Tryz.prog.godebug=μ:=by kernel_rfl
theorem laidOut:laidOutB Tryz.prog=θ:=by kernel_rfl
theorem aba{H:Type}{enc:TypeId×Value->H}{P:Program}(hl:laidOutB P=θ){W W':World}(hb:Below W.heap.size W W'):
  ∀{ts:List TypeId}{vs:List Value}{ds:List (DataW H)}{ps:List MemPlace},(ts.all λt=>P.readableRec t&&decide (t<P.types.size))=θ->
   DataW.TrodAll enc P W 0 (λ_=>θ) θ ts vs ds ps->(∀x∈ps,x.block<W.heap.size)->DataW.TrodAll enc P W' 0 (λb=>decide (b<W.heap.size)) θ ts vs ds ps
 |[],[],[],_,_,h,_=>h
 |t::ts,v::vs,d::ds,ps,hts,h,hlt=>by
  obtain⟨p,q,h1,h2,rfl⟩:=h;simp only[aDz,jW,decide_eq_true_eq]at hts
  exact⟨p,q,Below.trod hl hts.1.1 hts.1.2 h1 hb (λx hx=>hlt x (Vu _ hx)),
   aba hl hb (by simpa using hts.2) h2 (λx hx=>hlt x (List.mem_append_right _ hx)),rfl⟩
 |[],_::_,_,_,_,h,_=>h.elim
 |[],[],_::_,_,_,h,_=>h.elim
 |_::_,[],_,_,_,h,_=>h.elim
 |_::_,_::_,[],_,_,h,_=>h.elim
theorem aqU{H:Type}{enc:TypeId×Value->H}{f:Func}{s:ChangeSpec}{W W':World}{args:Array Value}{ds gs:List (DataW H)}{before:List MemPlace}{t:TypeId}
  (hts:(f.params.toList.all λt=>Tryz.prog.readableRec t&&decide (t<Tryz.prog.types.size))=θ) (Ef:f.resultTypes=#[t]) (ht:Tryz.prog.underlying t=δ .bool) (hvs:s.vars=[])
  (hW:DataW.Whole enc Tryz.prog f.params.toList s.vars ι W args.toList ds gs before) (hb:Below W.heap.size W W')
  (aB8:s.fn H (ds++gs)={results:=[.lit (.bool θ)],args:=ds}):
  s.post enc Tryz.prog f ι θ ι ι W args (.bool θ) W':=by
 have SR:=hW;obtain⟨p,q,hA,hV,rfl,hfz,hnd⟩:=hW;have hlt:∀x∈p++q,x.block<W.heap.size:=λx hx=>SR.lt x hx
 refine⟨ds,gs,p++q,[],p,[],SR,?_,?_,?_,hb.frame _,λh=>by cases h⟩
 ·rw[aB8,Ef];exact trodAll_cons_mk (shut_bool ht _) trodAll_mk0
 ·rw[aB8];exact aba laidOut hb hts hA (λx hx=>hlt x (Vu _ hx))
 ·rw[aB8,hvs];exact rfl
end
section
open Go.RowKit
def Gr(w w':World):Prop:=Below w.heap.size w w'
theorem Gr.cell{a b:World}(h:Gr a b){p:Addr}{v:Value}(hc:a.cell? p=δ v):b.cell? p=δ v:=by
 by_cases hp:p.block<a.heap.size
 ·rw[Below.cell h hp];exact hc
 ·have:a.heap[p.block]? =μ:=Array.getElem?_eq_none (by omega);simp [Xd,this]at hc
abbrev azv(w:World)(b:Nat)(v0:Value):Prop:=(w.cell? ⟨b,0,μ⟩=δ v0)/\(w.frozen? ⟨b,0,μ⟩=ι)/\b<w.heap.size
abbrev azw(w:World)(b:Nat)(v0 v1:Value):Prop:=(w.cell? ⟨b,0,μ⟩=δ v0/\w.cell? ⟨b,1,μ⟩=δ v1)/\(w.frozen? ⟨b,0,μ⟩=ι/\w.frozen? ⟨b,1,μ⟩=ι)/\b<w.heap.size
abbrev azx(w:World)(b:Nat)(v0 v1 v2:Value):Prop:=(w.cell? ⟨b,0,μ⟩=δ v0/\w.cell? ⟨b,1,μ⟩=δ v1/\w.cell? ⟨b,2,μ⟩=δ v2)/\(w.frozen? ⟨b,0,μ⟩=ι/\w.frozen? ⟨b,1,μ⟩=ι/\w.frozen? ⟨b,2,μ⟩=ι)/\b<w.heap.size
abbrev azy(w:World)(b:Nat)(v0 v1 v2 v3:Value):Prop:=(w.cell? ⟨b,0,μ⟩=δ v0/\w.cell? ⟨b,1,μ⟩=δ v1/\w.cell? ⟨b,2,μ⟩=δ v2/\w.cell? ⟨b,3,μ⟩=δ v3)/\(w.frozen? ⟨b,0,μ⟩=ι/\w.frozen? ⟨b,1,μ⟩=ι/\w.frozen? ⟨b,2,μ⟩=ι/\w.frozen? ⟨b,3,μ⟩=ι)/\b<w.heap.size
abbrev azz(w:World)(b:Nat)(v0 v1 v2 v3 v4:Value):Prop:=(w.cell? ⟨b,0,μ⟩=δ v0/\w.cell? ⟨b,1,μ⟩=δ v1/\w.cell? ⟨b,2,μ⟩=δ v2/\w.cell? ⟨b,3,μ⟩=δ v3/\w.cell? ⟨b,4,μ⟩=δ v4)/\(w.frozen? ⟨b,0,μ⟩=ι/\w.frozen? ⟨b,1,μ⟩=ι/\w.frozen? ⟨b,2,μ⟩=ι/\w.frozen? ⟨b,3,μ⟩=ι/\w.frozen? ⟨b,4,μ⟩=ι)/\b<w.heap.size
abbrev azA(w:World)(b:Nat)(v0 v1 v2 v3 v4 v5:Value):Prop:=(w.cell? ⟨b,0,μ⟩=δ v0/\w.cell? ⟨b,1,μ⟩=δ v1/\w.cell? ⟨b,2,μ⟩=δ v2/\w.cell? ⟨b,3,μ⟩=δ v3/\w.cell? ⟨b,4,μ⟩=δ v4/\w.cell? ⟨b,5,μ⟩=δ v5)/\(w.frozen? ⟨b,0,μ⟩=ι/\w.frozen? ⟨b,1,μ⟩=ι/\w.frozen? ⟨b,2,μ⟩=ι/\w.frozen? ⟨b,3,μ⟩=ι/\w.frozen? ⟨b,4,μ⟩=ι/\w.frozen? ⟨b,5,μ⟩=ι)/\b<w.heap.size
abbrev azB(w:World)(b:Nat)(v0 v1 v2 v3 v4 v5 v6:Value):Prop:=(w.cell? ⟨b,0,μ⟩=δ v0/\w.cell? ⟨b,1,μ⟩=δ v1/\w.cell? ⟨b,2,μ⟩=δ v2/\w.cell? ⟨b,3,μ⟩=δ v3/\w.cell? ⟨b,4,μ⟩=δ v4/\w.cell? ⟨b,5,μ⟩=δ v5/\w.cell? ⟨b,6,μ⟩=δ v6)/\(w.frozen? ⟨b,0,μ⟩=ι/\w.frozen? ⟨b,1,μ⟩=ι/\w.frozen? ⟨b,2,μ⟩=ι/\w.frozen? ⟨b,3,μ⟩=ι/\w.frozen? ⟨b,4,μ⟩=ι/\w.frozen? ⟨b,5,μ⟩=ι/\w.frozen? ⟨b,6,μ⟩=ι)/\b<w.heap.size
abbrev azC(w:World)(b:Nat)(v0 v1 v2 v3 v4 v5 v6 v7:Value):Prop:=(w.cell? ⟨b,0,μ⟩=δ v0/\w.cell? ⟨b,1,μ⟩=δ v1/\w.cell? ⟨b,2,μ⟩=δ v2/\w.cell? ⟨b,3,μ⟩=δ v3/\w.cell? ⟨b,4,μ⟩=δ v4/\w.cell? ⟨b,5,μ⟩=δ v5/\w.cell? ⟨b,6,μ⟩=δ v6/\w.cell? ⟨b,7,μ⟩=δ v7)/\(w.frozen? ⟨b,0,μ⟩=ι/\w.frozen? ⟨b,1,μ⟩=ι/\w.frozen? ⟨b,2,μ⟩=ι/\w.frozen? ⟨b,3,μ⟩=ι/\w.frozen? ⟨b,4,μ⟩=ι/\w.frozen? ⟨b,5,μ⟩=ι/\w.frozen? ⟨b,6,μ⟩=ι/\w.frozen? ⟨b,7,μ⟩=ι)/\b<w.heap.size
abbrev azD(w:World)(b:Nat)(v0 v1 v2 v3 v4 v5 v6 v7 v8:Value):Prop:=(w.cell? ⟨b,0,μ⟩=δ v0/\w.cell? ⟨b,1,μ⟩=δ v1/\w.cell? ⟨b,2,μ⟩=δ v2/\w.cell? ⟨b,3,μ⟩=δ v3/\w.cell? ⟨b,4,μ⟩=δ v4/\w.cell? ⟨b,5,μ⟩=δ v5/\w.cell? ⟨b,6,μ⟩=δ v6/\w.cell? ⟨b,7,μ⟩=δ v7/\w.cell? ⟨b,8,μ⟩=δ v8)/\(w.frozen? ⟨b,0,μ⟩=ι/\w.frozen? ⟨b,1,μ⟩=ι/\w.frozen? ⟨b,2,μ⟩=ι/\w.frozen? ⟨b,3,μ⟩=ι/\w.frozen? ⟨b,4,μ⟩=ι/\w.frozen? ⟨b,5,μ⟩=ι/\w.frozen? ⟨b,6,μ⟩=ι/\w.frozen? ⟨b,7,μ⟩=ι/\w.frozen? ⟨b,8,μ⟩=ι)/\b<w.heap.size
abbrev azg(w:World)(b:Nat)(v0 v1 v2 v3 v4 v5 v6 v7 v8 v9:Value):Prop:=(w.cell? ⟨b,0,μ⟩=δ v0/\w.cell? ⟨b,1,μ⟩=δ v1/\w.cell? ⟨b,2,μ⟩=δ v2/\w.cell? ⟨b,3,μ⟩=δ v3/\w.cell? ⟨b,4,μ⟩=δ v4/\w.cell? ⟨b,5,μ⟩=δ v5/\w.cell? ⟨b,6,μ⟩=δ v6/\w.cell? ⟨b,7,μ⟩=δ v7/\w.cell? ⟨b,8,μ⟩=δ v8/\w.cell? ⟨b,9,μ⟩=δ v9)/\(w.frozen? ⟨b,0,μ⟩=ι/\w.frozen? ⟨b,1,μ⟩=ι/\w.frozen? ⟨b,2,μ⟩=ι/\w.frozen? ⟨b,3,μ⟩=ι/\w.frozen? ⟨b,4,μ⟩=ι/\w.frozen? ⟨b,5,μ⟩=ι/\w.frozen? ⟨b,6,μ⟩=ι/\w.frozen? ⟨b,7,μ⟩=ι/\w.frozen? ⟨b,8,μ⟩=ι/\w.frozen? ⟨b,9,μ⟩=ι)/\b<w.heap.size
abbrev azh(w:World)(b:Nat)(v0 v1 v2 v3 v4 v5 v6 v7 v8 v9 v10:Value):Prop:=(w.cell? ⟨b,0,μ⟩=δ v0/\w.cell? ⟨b,1,μ⟩=δ v1/\w.cell? ⟨b,2,μ⟩=δ v2/\w.cell? ⟨b,3,μ⟩=δ v3/\w.cell? ⟨b,4,μ⟩=δ v4/\w.cell? ⟨b,5,μ⟩=δ v5/\w.cell? ⟨b,6,μ⟩=δ v6/\w.cell? ⟨b,7,μ⟩=δ v7/\w.cell? ⟨b,8,μ⟩=δ v8/\w.cell? ⟨b,9,μ⟩=δ v9/\w.cell? ⟨b,10,μ⟩=δ v10)/\(w.frozen? ⟨b,0,μ⟩=ι/\w.frozen? ⟨b,1,μ⟩=ι/\w.frozen? ⟨b,2,μ⟩=ι/\w.frozen? ⟨b,3,μ⟩=ι/\w.frozen? ⟨b,4,μ⟩=ι/\w.frozen? ⟨b,5,μ⟩=ι/\w.frozen? ⟨b,6,μ⟩=ι/\w.frozen? ⟨b,7,μ⟩=ι/\w.frozen? ⟨b,8,μ⟩=ι/\w.frozen? ⟨b,9,μ⟩=ι/\w.frozen? ⟨b,10,μ⟩=ι)/\b<w.heap.size
abbrev azi(w:World)(b:Nat)(v0 v1 v2 v3 v4 v5 v6 v7 v8 v9 v10 v11:Value):Prop:=(w.cell? ⟨b,0,μ⟩=δ v0/\w.cell? ⟨b,1,μ⟩=δ v1/\w.cell? ⟨b,2,μ⟩=δ v2/\w.cell? ⟨b,3,μ⟩=δ v3/\w.cell? ⟨b,4,μ⟩=δ v4/\w.cell? ⟨b,5,μ⟩=δ v5/\w.cell? ⟨b,6,μ⟩=δ v6/\w.cell? ⟨b,7,μ⟩=δ v7/\w.cell? ⟨b,8,μ⟩=δ v8/\w.cell? ⟨b,9,μ⟩=δ v9/\w.cell? ⟨b,10,μ⟩=δ v10/\w.cell? ⟨b,11,μ⟩=δ v11)/\(w.frozen? ⟨b,0,μ⟩=ι/\w.frozen? ⟨b,1,μ⟩=ι/\w.frozen? ⟨b,2,μ⟩=ι/\w.frozen? ⟨b,3,μ⟩=ι/\w.frozen? ⟨b,4,μ⟩=ι/\w.frozen? ⟨b,5,μ⟩=ι/\w.frozen? ⟨b,6,μ⟩=ι/\w.frozen? ⟨b,7,μ⟩=ι/\w.frozen? ⟨b,8,μ⟩=ι/\w.frozen? ⟨b,9,μ⟩=ι/\w.frozen? ⟨b,10,μ⟩=ι/\w.frozen? ⟨b,11,μ⟩=ι)/\b<w.heap.size
abbrev azj(w:World)(b:Nat)(v0 v1 v2 v3 v4 v5 v6 v7 v8 v9 v10 v11 v12:Value):Prop:=(w.cell? ⟨b,0,μ⟩=δ v0/\w.cell? ⟨b,1,μ⟩=δ v1/\w.cell? ⟨b,2,μ⟩=δ v2/\w.cell? ⟨b,3,μ⟩=δ v3/\w.cell? ⟨b,4,μ⟩=δ v4/\w.cell? ⟨b,5,μ⟩=δ v5/\w.cell? ⟨b,6,μ⟩=δ v6/\w.cell? ⟨b,7,μ⟩=δ v7/\w.cell? ⟨b,8,μ⟩=δ v8/\w.cell? ⟨b,9,μ⟩=δ v9/\w.cell? ⟨b,10,μ⟩=δ v10/\w.cell? ⟨b,11,μ⟩=δ v11/\w.cell? ⟨b,12,μ⟩=δ v12)/\(w.frozen? ⟨b,0,μ⟩=ι/\w.frozen? ⟨b,1,μ⟩=ι/\w.frozen? ⟨b,2,μ⟩=ι/\w.frozen? ⟨b,3,μ⟩=ι/\w.frozen? ⟨b,4,μ⟩=ι/\w.frozen? ⟨b,5,μ⟩=ι/\w.frozen? ⟨b,6,μ⟩=ι/\w.frozen? ⟨b,7,μ⟩=ι/\w.frozen? ⟨b,8,μ⟩=ι/\w.frozen? ⟨b,9,μ⟩=ι/\w.frozen? ⟨b,10,μ⟩=ι/\w.frozen? ⟨b,11,μ⟩=ι/\w.frozen? ⟨b,12,μ⟩=ι)/\b<w.heap.size
abbrev azk(w:World)(b:Nat)(v0 v1 v2 v3 v4 v5 v6 v7 v8 v9 v10 v11 v12 uY:Value):Prop:=(w.cell? ⟨b,0,μ⟩=δ v0/\w.cell? ⟨b,1,μ⟩=δ v1/\w.cell? ⟨b,2,μ⟩=δ v2/\w.cell? ⟨b,3,μ⟩=δ v3/\w.cell? ⟨b,4,μ⟩=δ v4/\w.cell? ⟨b,5,μ⟩=δ v5/\w.cell? ⟨b,6,μ⟩=δ v6/\w.cell? ⟨b,7,μ⟩=δ v7/\w.cell? ⟨b,8,μ⟩=δ v8/\w.cell? ⟨b,9,μ⟩=δ v9/\w.cell? ⟨b,10,μ⟩=δ v10/\w.cell? ⟨b,11,μ⟩=δ v11/\w.cell? ⟨b,12,μ⟩=δ v12/\w.cell? ⟨b,13,μ⟩=δ uY)/\(w.frozen? ⟨b,0,μ⟩=ι/\w.frozen? ⟨b,1,μ⟩=ι/\w.frozen? ⟨b,2,μ⟩=ι/\w.frozen? ⟨b,3,μ⟩=ι/\w.frozen? ⟨b,4,μ⟩=ι/\w.frozen? ⟨b,5,μ⟩=ι/\w.frozen? ⟨b,6,μ⟩=ι/\w.frozen? ⟨b,7,μ⟩=ι/\w.frozen? ⟨b,8,μ⟩=ι/\w.frozen? ⟨b,9,μ⟩=ι/\w.frozen? ⟨b,10,μ⟩=ι/\w.frozen? ⟨b,11,μ⟩=ι/\w.frozen? ⟨b,12,μ⟩=ι/\w.frozen? ⟨b,13,μ⟩=ι)/\b<w.heap.size
end
section
open Go.RowKit Go.Deep
structure eX (α : Type) where
 size:Nat
 is:World->List Value->α->Prop
 len:∀{w cs a},is w cs a->cs.length=size
 mono:∀{w w' cs a},is w cs a->Gr w w'->is w' cs a
 dM:α->Nat
def fR:eX Int where
 size:=1
 is:=λ_ cs n=>cs=[.int ξ n]/\-9223372036854775808<=n/\n<=9223372036854775807
 len:=λh=>by rw[h.1];rfl
 mono:=λh _=>h
 dM:=λ_=>1
def yu:eX Bool where
 size:=1
 is:=λ_ cs b=>cs=[.bool b]
 len:=λh=>by rw[h];rfl
 mono:=λh _=>h
 dM:=λ_=>1
def vK:eX ByteArray where
 size:=1
 is:=λ_ cs s=>cs=[.string s]/\s.size<=maxLen
 len:=λh=>by rw[h.1];rfl
 mono:=λh _=>h
 dM:=λs=>s.size+1
def eX.pair{α β:Type}(c:eX α)(d:eX β):eX (α×β) where
 size:=c.size+d.size
 is:=λw cs x=>c.is w (cs.take c.size) x.1/\d.is w (cs.drop c.size) x.2
 len:=λ{w cs a}h=>by have h1:=c.len h.1;have h2:=d.len h.2;simp at h1 h2;omega
 mono:=λh g=>⟨c.mono h.1 g,d.mono h.2 g⟩
 dM:=λx=>c.dM x.1+d.dM x.2
def eC{α:Type}(c:eX α):eX (List α) where
 size:=1
 is:=λw cs l=>(cs=[.slice μ 0 0]/\l=[])\/∃(b off:Nat)(sp:Option Nat)(cap:Nat),cs=[.slice (δ ⟨b,off,sp⟩) l.length cap]/\l.length<=cap/\cap<=maxLen/\
  ∀i(h:i<l.length),sp=μ/\∃cs',(∀j,j<c.size->w.cell? ⟨b,off+(i*c.size+j),μ⟩=cs'[j]?)/\c.is w cs' l[i]
 len:=λh=>by rcases h with⟨rfl,_⟩|⟨b,off,sp,cap,rfl,_⟩<;>rfl
 mono:=λ{w w' cs l}h g=>by
  rcases h with h|⟨b,off,sp,cap,h1,h2,h3,h4⟩
  ·exact .inl h
  ·refine .inr ⟨b,off,sp,cap,h1,h2,h3,λi hi=>?_⟩;obtain⟨e,cs',h5,h6⟩:=h4 i hi;refine⟨e,cs',λj hj=>?_,c.mono h6 g⟩;have h7:=h5 j hj;have hl:=c.len h6;rw[cC (by omega)]at h7 ⊢;exact g.cell h7
 dM:=λl=>(l.map c.dM).sum+1
def iJ{α:Type}(F:Nat->Prop)(P:Program)(c:eX α)(t:TypeId):Prop:=∀⦃H:Type⦄ ⦃enc:TypeId×Value->H⦄ ⦃w:World⦄ ⦃base:Nat⦄ ⦃spare:Nat->Bool⦄ ⦃held:Bool⦄ ⦃fuel:Nat⦄ ⦃cs:List Value⦄ ⦃x:DataW H×List MemPlace⦄,F fuel->DataW.trod enc P w base spare held fuel t cs=δ x->∃a,c.is w cs a/\c.dM a<=Rows.uptoBulk x.1
abbrev Reads{α:Type}(P:Program)(c:eX α)(t:TypeId):Prop:=iJ (λ_=>True) P c t
theorem Gi{H:Type}(l:List (DataW H)):Rows.uptoBulkAll l=(l.map Rows.uptoBulk).sum:=by
 induction l with
 |nil=>rfl
 |cons x r ih=>simp only[Rows.uptoBulkAll,eP,List.sum_cons,ih]
theorem abt{α:Type}(f:α->Nat)(D:Nat->Nat):∀(l:List α)(o:Nat),(∀i(h:i<l.length),f l[i]<=D (o+i))->(l.map f).sum<=((YO o l.length).map D).sum
 |[],_,_=>by simp
 |x::r,o,h=>by simp only[YZ,aDW,eP,List.sum_cons];have h0:=h 0 (by simp);have:=abt f D r (o+1) (λi hi=>by have:=h (i+1) (by simp;omega);simp only[List.getElem_cons_succ]at this;rw[show o+1+i=o+(i+1) by omega];exact this);simp at h0;omega
theorem wf_i64{n:Int}(h:(Lit.int ξ n).wf=θ):-9223372036854775808<=n/\n<=9223372036854775807:=by simpa [Lit.wf,IntKind.min,IntKind.max,IntKind.signed,IntKind.bits]using h
theorem ad6{H:Type}(d:DataW H):1<=Rows.uptoBulk d:=by
 cases d with
 |lit l=>cases l<;>simp [Rows.uptoBulk]
 |_=>simp [Rows.uptoBulk]
theorem l6{F:Nat->Prop}{P:Program}{t:TypeId}(ht:P.underlying t=δ (.int ξ)):iJ F P fR t:=by intro H enc w base spare held fuel cs x _ h;obtain⟨n,rfl,_,hw⟩:=DataW.trod_int ht h;exact⟨n,⟨rfl,wf_i64 hw⟩,ad6 _⟩
theorem QM{F:Nat->Prop}{P:Program}{t:TypeId}(ht:P.underlying t=δ .bool):iJ F P yu t:=by intro H enc w base spare held fuel cs x _ h;obtain⟨n,rfl,_⟩:=DataW.trod_bool ht h;exact⟨n,rfl,ad6 _⟩
theorem Gs{F:Nat->Prop}{P:Program}{t:TypeId}(ht:P.underlying t=δ .string):iJ F P vK t:=by intro H enc w base spare held fuel cs x _ h;obtain⟨n,rfl,hx,hw⟩:=DataW.trod_string ht h;refine⟨n,⟨rfl,hw⟩,?_⟩;subst hx;simp only[Rows.uptoBulk,vK];first|(simp;done)|omega
theorem Aw{F:Nat->Prop}{P:Program}{α:Type}{c:eX α}{t e:TypeId}(ht:P.underlying t=δ (.slice e))(hz:P.cellsOf e=c.size)(hp:0<c.size)(hr:iJ (λm=>F (m+1)) P c e):iJ F P (eC c) t:=by
 intro H enc w base spare held fuel cs x hF h;rcases DataW.trod_slice ht h with⟨rfl,rfl⟩|⟨a,len,cap,elems,rest,n,j0,rfl,OQ,hb,hl,hm,hlen,hel,h8,h9⟩
 ·exact⟨[],.inl ⟨rfl,rfl⟩,by simp [eC,Rows.uptoBulk]⟩
 ·obtain⟨D,hD⟩:∃D:Nat->DataW H,D=λi=>(elems.getD i (.nil,[])).1:=⟨_,rfl⟩
  have key:∀i,i<len->∃(y:α)(cs':List Value),(∀j,j<c.size->w.cell? (a.add (i*c.size+j))=cs'[j]?)/\c.is w cs' y/\c.dM y<=Rows.uptoBulk (D i):=by
   intro i hi;have hk:=hel i hi;rw[cC (by omega)]at hk;obtain⟨cs',h1,h2⟩:=ct.1 hk;obtain⟨y,hy,OS⟩:=hr (by subst j0;exact hF) h2
   have OS:c.dM y<=Rows.uptoBulk (D i):=by rw[hD];simpa [U1,cC (show i<elems.length by omega)]using OS
   obtain⟨_,h3,h4⟩:=World.cells?_some h1;refine⟨y,cs',λj hj=>?_,hy,OS⟩;have:=h4 j (by rw[hz];exact hj);rw[hz]at this;rw[<-this,add_add]
  obtain⟨ys,hys⟩:∃ys:List α,ys.length=len/\∀i(h:i<ys.length),c.dM ys[i]<=Rows.uptoBulk (D i)/\∃cs',(∀j,j<c.size->w.cell? (a.add (i*c.size+j))=cs'[j]?)/\c.is w cs' ys[i]:=by
   clear hel hlen h hl OQ h8 h9;induction len with
   |zero=>exact⟨[],rfl,λi h=>by simp at h⟩
   |succ k ih=>
    obtain⟨ys,h1,h2⟩:=ih (λi hi=>key i (by omega));obtain⟨y,cs',h3,h4,h4b⟩:=key k (by omega);refine⟨ys++[y],by simp [h1],λi hi=>?_⟩;by_cases hk:i<ys.length
    ·rw[List.getElem_append_left hk];exact h2 i hk
    ·have:i=k:=by simp at hi;omega
     subst this;rw[List.getElem_append_right (by omega)];simp only[h1,Yp,List.getElem_cons_zero];exact⟨h4b,cs',h3,h4⟩
  obtain⟨h1,h2⟩:=hys;obtain⟨b,off,sp⟩:=a;refine⟨ys,.inr ⟨b,off,sp,cap,by rw[h1],by omega,hm,λi hi=>?_⟩,?_⟩
  ·have hs:sp=μ:=by
    cases sp with
    |none=>rfl
    |some q=>exfalso;obtain⟨_,cs',h3,h4⟩:=h2 0 (by omega);have h5:=h3 0 hp;have hl:=c.len h4;rw[cC (by omega)]at h5;simp only[Nat.zero_mul,YW,Xd,Addr.add]at h5;split at h5<;>simp at h5
   obtain⟨_,cs',h3,h4⟩:=h2 i hi;subst hs;refine⟨rfl,cs',λj hj=>?_,h4⟩;have h6:=h3 j hj;rw[<-h6];congr 1;simp only[Addr.add];split
   ·rename_i h7;simp only[h7,Nat.add_zero]
   ·rfl
  ·subst OQ;simp only[eC,Rows.uptoBulk,Gi,YG];have:=abt c.dM (λi=>Rows.uptoBulk (D i)) ys 0 (λi hi=>by simpa using(h2 i hi).1);rw[h1,<-Un]at this
   have e:Y0 (Rows.uptoBulk∘λx=>x.1) elems=Y0 (λi=>Rows.uptoBulk (D i)) (List.range len):=by rw[<-hlen,hD];apply List.ext_getElem (by simp);intro i h3 h4;simp at h3;simp [U1,cC h3]
   rw[e];omega
theorem I4{α:Type}(l:List α)(o n:Nat)(h:l.length=o+n):(l.drop o).take n=l.drop o:=n9 (by simp;omega)
theorem al0{α:Type}(l:List α)(h:l.length=2):∃x0 x1,l=[x0,x1]:=by
 match l,h with
 |[x0,x1],_=>exact⟨x0,x1,rfl⟩
theorem Gf{F:Nat->Prop}{P:Program}{BB vg:Type}{t:TypeId}{f0 f1:Field}{c0:eX BB}{c1:eX vg}(ht:P.underlying t=δ (.struct #[f0,f1]))(hz:P.cellsOf t=c0.size+c1.size)(o0:f0.offset=0)(o1:f1.offset=c0.size)(z0:P.cellsOf f0.type=c0.size)(z1:P.cellsOf f1.type=c1.size)(r0:iJ (λm=>F (m+1)) P c0 f0.type) (r1:iJ (λm=>F (m+1)) P c1 f1.type):iJ F P (c0.pair c1) t:=by
 intro H enc w base spare held fuel cs x hF h;obtain⟨xs,m,j0,eZ,hlen,hxl,hf⟩:=ZZ ht h;rw[hz]at hlen;have hxl:xs.length=2:=hxl;have h0:=hf 0 f0 rfl;rw[o0,z0,cC (show 0<xs.length by omega)]at h0;obtain⟨a0,k0,b0⟩:=r0 (by subst j0;exact hF) h0;have h1:=hf 1 f1 rfl;rw[o1,z1,cC (show 1<xs.length by omega)]at h1;obtain⟨a1,k1,b1⟩:=r1 (by subst j0;exact hF) h1;rw[I4 cs (c0.size) c1.size (by omega)]at k1;refine⟨(a0,a1),?_,?_⟩
 ·exact⟨by simpa using k0,(by simpa [mQ,lT]using k1)⟩
 ·subst eZ;simp only[Rows.uptoBulk,Gi,eX.pair]
  have hs:(Y0 Rows.uptoBulk (xs.map (·.1))).sum=Rows.uptoBulk xs[0].1+(Rows.uptoBulk xs[1].1):=by obtain⟨x0,x1,rfl⟩:=al0 xs hxl;simp
  rw[hs];exact Uj (nP b0 b1)
theorem al1{α:Type}(l:List α)(h:l.length=3):∃x0 x1 x2,l=[x0,x1,x2]:=by
 match l,h with
 |[x0,x1,x2],_=>exact⟨x0,x1,x2,rfl⟩
theorem Qd{F:Nat->Prop}{P:Program}{BB vg xV:Type}{t:TypeId}{f0 f1 f2:Field}{c0:eX BB}{c1:eX vg}{c2:eX xV}(ht:P.underlying t=δ (.struct #[f0,f1,f2]))(hz:P.cellsOf t=c0.size+c1.size+c2.size)(o0:f0.offset=0)(o1:f1.offset=c0.size)(o2:f2.offset=c0.size+c1.size)(z0:P.cellsOf f0.type=c0.size)(z1:P.cellsOf f1.type=c1.size)(z2:P.cellsOf f2.type=c2.size)(r0:iJ (λm=>F (m+1)) P c0 f0.type) (r1:iJ (λm=>F (m+1)) P c1 f1.type) (r2:iJ (λm=>F (m+1)) P c2 f2.type):iJ F P (c0.pair (c1.pair c2)) t:=by
 intro H enc w base spare held fuel cs x hF h;obtain⟨xs,m,j0,eZ,hlen,hxl,hf⟩:=ZZ ht h;rw[hz]at hlen;have hxl:xs.length=3:=hxl;have h0:=hf 0 f0 rfl;rw[o0,z0,cC (show 0<xs.length by omega)]at h0;obtain⟨a0,k0,b0⟩:=r0 (by subst j0;exact hF) h0;have h1:=hf 1 f1 rfl;rw[o1,z1,cC (show 1<xs.length by omega)]at h1;obtain⟨a1,k1,b1⟩:=r1 (by subst j0;exact hF) h1;have h2:=hf 2 f2 rfl;rw[o2,z2,cC (show 2<xs.length by omega)]at h2;obtain⟨a2,k2,b2⟩:=r2 (by subst j0;exact hF) h2;rw[I4 cs (c0.size+c1.size) c2.size (by omega)]at k2;refine⟨(a0,(a1,a2)),?_,?_⟩
 ·exact⟨by simpa using k0,⟨by simpa [mQ,lT]using k1,(by simpa [mQ,lT]using k2)⟩⟩
 ·subst eZ;simp only[Rows.uptoBulk,Gi,eX.pair]
  have hs:(Y0 Rows.uptoBulk (xs.map (·.1))).sum=Rows.uptoBulk xs[0].1+(Rows.uptoBulk xs[1].1+(Rows.uptoBulk xs[2].1)):=by obtain⟨x0,x1,x2,rfl⟩:=al1 xs hxl;simp
  rw[hs];exact Uj (nP b0 (nP b1 b2))
theorem al2{α:Type}(l:List α)(h:l.length=4):∃x0 x1 x2 x3,l=[x0,x1,x2,x3]:=by
 match l,h with
 |[x0,x1,x2,x3],_=>exact⟨x0,x1,x2,x3,rfl⟩
theorem aa6{F:Nat->Prop}{P:Program}{BB vg xV BC:Type}{t:TypeId}{f0 f1 f2 f3:Field}{c0:eX BB}{c1:eX vg}{c2:eX xV}{c3:eX BC}(ht:P.underlying t=δ (.struct #[f0,f1,f2,f3]))(hz:P.cellsOf t=c0.size+c1.size+c2.size+c3.size)(o0:f0.offset=0)(o1:f1.offset=c0.size)(o2:f2.offset=c0.size+c1.size)(o3:f3.offset=c0.size+c1.size+c2.size)(z0:P.cellsOf f0.type=c0.size)(z1:P.cellsOf f1.type=c1.size)(z2:P.cellsOf f2.type=c2.size)(z3:P.cellsOf f3.type=c3.size)(r0:iJ (λm=>F (m+1)) P c0 f0.type) (r1:iJ (λm=>F (m+1)) P c1 f1.type) (r2:iJ (λm=>F (m+1)) P c2 f2.type) (r3:iJ (λm=>F (m+1)) P c3 f3.type):iJ F P (c0.pair (c1.pair (c2.pair c3))) t:=by
 intro H enc w base spare held fuel cs x hF h;obtain⟨xs,m,j0,eZ,hlen,hxl,hf⟩:=ZZ ht h;rw[hz]at hlen;have hxl:xs.length=4:=hxl;have h0:=hf 0 f0 rfl;rw[o0,z0,cC (show 0<xs.length by omega)]at h0;obtain⟨a0,k0,b0⟩:=r0 (by subst j0;exact hF) h0;have h1:=hf 1 f1 rfl;rw[o1,z1,cC (show 1<xs.length by omega)]at h1;obtain⟨a1,k1,b1⟩:=r1 (by subst j0;exact hF) h1;have h2:=hf 2 f2 rfl;rw[o2,z2,cC (show 2<xs.length by omega)]at h2;obtain⟨a2,k2,b2⟩:=r2 (by subst j0;exact hF) h2;have h3:=hf 3 f3 rfl;rw[o3,z3,cC (show 3<xs.length by omega)]at h3;obtain⟨a3,k3,b3⟩:=r3 (by subst j0;exact hF) h3;rw[I4 cs (c0.size+c1.size+c2.size) c3.size (by omega)]at k3;refine⟨(a0,(a1,(a2,a3))),?_,?_⟩
 ·exact⟨by simpa using k0,⟨by simpa [mQ,lT]using k1,⟨by simpa [mQ,lT]using k2,(by simpa [mQ,lT]using k3)⟩⟩⟩
 ·subst eZ;simp only[Rows.uptoBulk,Gi,eX.pair]
  have hs:(Y0 Rows.uptoBulk (xs.map (·.1))).sum=Rows.uptoBulk xs[0].1+(Rows.uptoBulk xs[1].1+(Rows.uptoBulk xs[2].1+(Rows.uptoBulk xs[3].1))):=by obtain⟨x0,x1,x2,x3,rfl⟩:=al2 xs hxl;simp
  rw[hs];exact Uj (nP b0 (nP b1 (nP b2 b3)))
theorem al3{α:Type}(l:List α)(h:l.length=6):∃x0 x1 x2 x3 x4 x5,l=[x0,x1,x2,x3,x4,x5]:=by
 match l,h with
 |[x0,x1,x2,x3,x4,x5],_=>exact⟨x0,x1,x2,x3,x4,x5,rfl⟩
theorem alA{F:Nat->Prop}{P:Program}{BB vg xV BC CL Pk:Type}{t:TypeId}{f0 f1 f2 f3 f4 f5:Field}{c0:eX BB}{c1:eX vg}{c2:eX xV}{c3:eX BC}{c4:eX CL}{c5:eX Pk}(ht:P.underlying t=δ (.struct #[f0,f1,f2,f3,f4,f5]))(hz:P.cellsOf t=c0.size+c1.size+c2.size+c3.size+c4.size+c5.size)(o0:f0.offset=0)(o1:f1.offset=c0.size)(o2:f2.offset=c0.size+c1.size)(o3:f3.offset=c0.size+c1.size+c2.size)(o4:f4.offset=c0.size+c1.size+c2.size+c3.size)(o5:f5.offset=c0.size+c1.size+c2.size+c3.size+c4.size)(z0:P.cellsOf f0.type=c0.size)(z1:P.cellsOf f1.type=c1.size)(z2:P.cellsOf f2.type=c2.size)(z3:P.cellsOf f3.type=c3.size)(z4:P.cellsOf f4.type=c4.size)(z5:P.cellsOf f5.type=c5.size)(r0:iJ (λm=>F (m+1)) P c0 f0.type) (r1:iJ (λm=>F (m+1)) P c1 f1.type) (r2:iJ (λm=>F (m+1)) P c2 f2.type) (r3:iJ (λm=>F (m+1)) P c3 f3.type) (r4:iJ (λm=>F (m+1)) P c4 f4.type) (r5:iJ (λm=>F (m+1)) P c5 f5.type):iJ F P (c0.pair (c1.pair (c2.pair (c3.pair (c4.pair c5))))) t:=by
 intro H enc w base spare held fuel cs x hF h;obtain⟨xs,m,j0,eZ,hlen,hxl,hf⟩:=ZZ ht h;rw[hz]at hlen;have hxl:xs.length=6:=hxl;have h0:=hf 0 f0 rfl;rw[o0,z0,cC (show 0<xs.length by omega)]at h0;obtain⟨a0,k0,b0⟩:=r0 (by subst j0;exact hF) h0;have h1:=hf 1 f1 rfl;rw[o1,z1,cC (show 1<xs.length by omega)]at h1;obtain⟨a1,k1,b1⟩:=r1 (by subst j0;exact hF) h1;have h2:=hf 2 f2 rfl;rw[o2,z2,cC (show 2<xs.length by omega)]at h2;obtain⟨a2,k2,b2⟩:=r2 (by subst j0;exact hF) h2;have h3:=hf 3 f3 rfl;rw[o3,z3,cC (show 3<xs.length by omega)]at h3;obtain⟨a3,k3,b3⟩:=r3 (by subst j0;exact hF) h3;have h4:=hf 4 f4 rfl;rw[o4,z4,cC (show 4<xs.length by omega)]at h4;obtain⟨a4,k4,b4⟩:=r4 (by subst j0;exact hF) h4;have h5:=hf 5 f5 rfl;rw[o5,z5,cC (show 5<xs.length by omega)]at h5;obtain⟨a5,k5,b5⟩:=r5 (by subst j0;exact hF) h5;rw[I4 cs (c0.size+c1.size+c2.size+c3.size+c4.size) c5.size (by omega)]at k5;refine⟨(a0,(a1,(a2,(a3,(a4,a5))))),?_,?_⟩
 ·exact⟨by simpa using k0,⟨by simpa [mQ,lT]using k1,⟨by simpa [mQ,lT]using k2,⟨by simpa [mQ,lT]using k3,⟨by simpa [mQ,lT]using k4,(by simpa [mQ,lT]using k5)⟩⟩⟩⟩⟩
 ·subst eZ;simp only[Rows.uptoBulk,Gi,eX.pair]
  have hs:(Y0 Rows.uptoBulk (xs.map (·.1))).sum=Rows.uptoBulk xs[0].1+(Rows.uptoBulk xs[1].1+(Rows.uptoBulk xs[2].1+(Rows.uptoBulk xs[3].1+(Rows.uptoBulk xs[4].1+(Rows.uptoBulk xs[5].1))))):=by obtain⟨x0,x1,x2,x3,x4,x5,rfl⟩:=al3 xs hxl;simp
  rw[hs];exact Uj (nP b0 (nP b1 (nP b2 (nP b3 (nP b4 b5)))))
theorem al4{α:Type}(l:List α)(h:l.length=7):∃x0 x1 x2 x3 x4 x5 x6,l=[x0,x1,x2,x3,x4,x5,x6]:=by
 match l,h with
 |[x0,x1,x2,x3,x4,x5,x6],_=>exact⟨x0,x1,x2,x3,x4,x5,x6,rfl⟩
theorem alB{F:Nat->Prop}{P:Program}{BB vg xV BC CL Pk α6:Type}{t:TypeId}{f0 f1 f2 f3 f4 f5 f6:Field}{c0:eX BB}{c1:eX vg}{c2:eX xV}{c3:eX BC}{c4:eX CL}{c5:eX Pk}{c6:eX α6}(ht:P.underlying t=δ (.struct #[f0,f1,f2,f3,f4,f5,f6]))(hz:P.cellsOf t=c0.size+c1.size+c2.size+c3.size+c4.size+c5.size+c6.size)(o0:f0.offset=0)(o1:f1.offset=c0.size)(o2:f2.offset=c0.size+c1.size)(o3:f3.offset=c0.size+c1.size+c2.size)(o4:f4.offset=c0.size+c1.size+c2.size+c3.size)(o5:f5.offset=c0.size+c1.size+c2.size+c3.size+c4.size)(o6:f6.offset=c0.size+c1.size+c2.size+c3.size+c4.size+c5.size)(z0:P.cellsOf f0.type=c0.size)(z1:P.cellsOf f1.type=c1.size)(z2:P.cellsOf f2.type=c2.size)(z3:P.cellsOf f3.type=c3.size)(z4:P.cellsOf f4.type=c4.size)(z5:P.cellsOf f5.type=c5.size)(z6:P.cellsOf f6.type=c6.size)(r0:iJ (λm=>F (m+1)) P c0 f0.type) (r1:iJ (λm=>F (m+1)) P c1 f1.type) (r2:iJ (λm=>F (m+1)) P c2 f2.type) (r3:iJ (λm=>F (m+1)) P c3 f3.type) (r4:iJ (λm=>F (m+1)) P c4 f4.type) (r5:iJ (λm=>F (m+1)) P c5 f5.type) (r6:iJ (λm=>F (m+1)) P c6 f6.type):iJ F P (c0.pair (c1.pair (c2.pair (c3.pair (c4.pair (c5.pair c6)))))) t:=by
 intro H enc w base spare held fuel cs x hF h;obtain⟨xs,m,j0,eZ,hlen,hxl,hf⟩:=ZZ ht h;rw[hz]at hlen;have hxl:xs.length=7:=hxl;have h0:=hf 0 f0 rfl;rw[o0,z0,cC (show 0<xs.length by omega)]at h0;obtain⟨a0,k0,b0⟩:=r0 (by subst j0;exact hF) h0;have h1:=hf 1 f1 rfl;rw[o1,z1,cC (show 1<xs.length by omega)]at h1;obtain⟨a1,k1,b1⟩:=r1 (by subst j0;exact hF) h1;have h2:=hf 2 f2 rfl;rw[o2,z2,cC (show 2<xs.length by omega)]at h2;obtain⟨a2,k2,b2⟩:=r2 (by subst j0;exact hF) h2;have h3:=hf 3 f3 rfl;rw[o3,z3,cC (show 3<xs.length by omega)]at h3;obtain⟨a3,k3,b3⟩:=r3 (by subst j0;exact hF) h3;have h4:=hf 4 f4 rfl;rw[o4,z4,cC (show 4<xs.length by omega)]at h4;obtain⟨a4,k4,b4⟩:=r4 (by subst j0;exact hF) h4;have h5:=hf 5 f5 rfl;rw[o5,z5,cC (show 5<xs.length by omega)]at h5;obtain⟨a5,k5,b5⟩:=r5 (by subst j0;exact hF) h5;have h6:=hf 6 f6 rfl;rw[o6,z6,cC (show 6<xs.length by omega)]at h6;obtain⟨a6,k6,b6⟩:=r6 (by subst j0;exact hF) h6;rw[I4 cs (c0.size+c1.size+c2.size+c3.size+c4.size+c5.size) c6.size (by omega)]at k6;refine⟨(a0,(a1,(a2,(a3,(a4,(a5,a6)))))),?_,?_⟩
 ·exact⟨by simpa using k0,⟨by simpa [mQ,lT]using k1,⟨by simpa [mQ,lT]using k2,⟨by simpa [mQ,lT]using k3,⟨by simpa [mQ,lT]using k4,⟨by simpa [mQ,lT]using k5,(by simpa [mQ,lT]using k6)⟩⟩⟩⟩⟩⟩
 ·subst eZ;simp only[Rows.uptoBulk,Gi,eX.pair]
  have hs:(Y0 Rows.uptoBulk (xs.map (·.1))).sum=Rows.uptoBulk xs[0].1+(Rows.uptoBulk xs[1].1+(Rows.uptoBulk xs[2].1+(Rows.uptoBulk xs[3].1+(Rows.uptoBulk xs[4].1+(Rows.uptoBulk xs[5].1+(Rows.uptoBulk xs[6].1)))))):=by obtain⟨x0,x1,x2,x3,x4,x5,x6,rfl⟩:=al4 xs hxl;simp
  rw[hs];exact Uj (nP b0 (nP b1 (nP b2 (nP b3 (nP b4 (nP b5 b6))))))
theorem alv{α:Type}(l:List α)(h:l.length=10):∃x0 x1 x2 x3 x4 x5 x6 x7 x8 x9,l=[x0,x1,x2,x3,x4,x5,x6,x7,x8,x9]:=by
 match l,h with
 |[x0,x1,x2,x3,x4,x5,x6,x7,x8,x9],_=>exact⟨x0,x1,x2,x3,x4,x5,x6,x7,x8,x9,rfl⟩
theorem ak7{F:Nat->Prop}{P:Program}{BB vg xV BC CL Pk α6 α7 α8 α9:Type}{t:TypeId}{f0 f1 f2 f3 f4 f5 f6 f7 f8 f9:Field}{c0:eX BB}{c1:eX vg}{c2:eX xV}{c3:eX BC}{c4:eX CL}{c5:eX Pk}{c6:eX α6}{c7:eX α7}{c8:eX α8}{c9:eX α9}(ht:P.underlying t=δ (.struct #[f0,f1,f2,f3,f4,f5,f6,f7,f8,f9]))(hz:P.cellsOf t=c0.size+c1.size+c2.size+c3.size+c4.size+c5.size+c6.size+c7.size+c8.size+c9.size)(o0:f0.offset=0)(o1:f1.offset=c0.size)(o2:f2.offset=c0.size+c1.size)(o3:f3.offset=c0.size+c1.size+c2.size)(o4:f4.offset=c0.size+c1.size+c2.size+c3.size)(o5:f5.offset=c0.size+c1.size+c2.size+c3.size+c4.size)(o6:f6.offset=c0.size+c1.size+c2.size+c3.size+c4.size+c5.size)(o7:f7.offset=c0.size+c1.size+c2.size+c3.size+c4.size+c5.size+c6.size)(o8:f8.offset=c0.size+c1.size+c2.size+c3.size+c4.size+c5.size+c6.size+c7.size)(o9:f9.offset=c0.size+c1.size+c2.size+c3.size+c4.size+c5.size+c6.size+c7.size+c8.size)(z0:P.cellsOf f0.type=c0.size)(z1:P.cellsOf f1.type=c1.size)(z2:P.cellsOf f2.type=c2.size)(z3:P.cellsOf f3.type=c3.size)(z4:P.cellsOf f4.type=c4.size)(z5:P.cellsOf f5.type=c5.size)(z6:P.cellsOf f6.type=c6.size)(z7:P.cellsOf f7.type=c7.size)(z8:P.cellsOf f8.type=c8.size)(z9:P.cellsOf f9.type=c9.size)(r0:iJ (λm=>F (m+1)) P c0 f0.type) (r1:iJ (λm=>F (m+1)) P c1 f1.type) (r2:iJ (λm=>F (m+1)) P c2 f2.type) (r3:iJ (λm=>F (m+1)) P c3 f3.type) (r4:iJ (λm=>F (m+1)) P c4 f4.type) (r5:iJ (λm=>F (m+1)) P c5 f5.type) (r6:iJ (λm=>F (m+1)) P c6 f6.type) (r7:iJ (λm=>F (m+1)) P c7 f7.type) (r8:iJ (λm=>F (m+1)) P c8 f8.type) (r9:iJ (λm=>F (m+1)) P c9 f9.type):iJ F P (c0.pair (c1.pair (c2.pair (c3.pair (c4.pair (c5.pair (c6.pair (c7.pair (c8.pair c9))))))))) t:=by
 intro H enc w base spare held fuel cs x hF h;obtain⟨xs,m,j0,eZ,hlen,hxl,hf⟩:=ZZ ht h;rw[hz]at hlen;have hxl:xs.length=10:=hxl;have h0:=hf 0 f0 rfl;rw[o0,z0,cC (show 0<xs.length by omega)]at h0;obtain⟨a0,k0,b0⟩:=r0 (by subst j0;exact hF) h0;have h1:=hf 1 f1 rfl;rw[o1,z1,cC (show 1<xs.length by omega)]at h1;obtain⟨a1,k1,b1⟩:=r1 (by subst j0;exact hF) h1;have h2:=hf 2 f2 rfl;rw[o2,z2,cC (show 2<xs.length by omega)]at h2;obtain⟨a2,k2,b2⟩:=r2 (by subst j0;exact hF) h2;have h3:=hf 3 f3 rfl;rw[o3,z3,cC (show 3<xs.length by omega)]at h3;obtain⟨a3,k3,b3⟩:=r3 (by subst j0;exact hF) h3;have h4:=hf 4 f4 rfl;rw[o4,z4,cC (show 4<xs.length by omega)]at h4;obtain⟨a4,k4,b4⟩:=r4 (by subst j0;exact hF) h4;have h5:=hf 5 f5 rfl;rw[o5,z5,cC (show 5<xs.length by omega)]at h5;obtain⟨a5,k5,b5⟩:=r5 (by subst j0;exact hF) h5;have h6:=hf 6 f6 rfl;rw[o6,z6,cC (show 6<xs.length by omega)]at h6;obtain⟨a6,k6,b6⟩:=r6 (by subst j0;exact hF) h6;have h7:=hf 7 f7 rfl;rw[o7,z7,cC (show 7<xs.length by omega)]at h7;obtain⟨a7,k7,b7⟩:=r7 (by subst j0;exact hF) h7;have h8:=hf 8 f8 rfl;rw[o8,z8,cC (show 8<xs.length by omega)]at h8;obtain⟨a8,k8,b8⟩:=r8 (by subst j0;exact hF) h8;have h9:=hf 9 f9 rfl;rw[o9,z9,cC (show 9<xs.length by omega)]at h9;obtain⟨a9,k9,b9⟩:=r9 (by subst j0;exact hF) h9;rw[I4 cs (c0.size+c1.size+c2.size+c3.size+c4.size+c5.size+c6.size+c7.size+c8.size) c9.size (by omega)]at k9;refine⟨(a0,(a1,(a2,(a3,(a4,(a5,(a6,(a7,(a8,a9))))))))),?_,?_⟩
 ·exact⟨by simpa using k0,⟨by simpa [mQ,lT]using k1,⟨by simpa [mQ,lT]using k2,⟨by simpa [mQ,lT]using k3,⟨by simpa [mQ,lT]using k4,⟨by simpa [mQ,lT]using k5,⟨by simpa [mQ,lT]using k6,⟨by simpa [mQ,lT]using k7,⟨by simpa [mQ,lT]using k8,(by simpa [mQ,lT]using k9)⟩⟩⟩⟩⟩⟩⟩⟩⟩
 ·subst eZ;simp only[Rows.uptoBulk,Gi,eX.pair]
  have hs:(Y0 Rows.uptoBulk (xs.map (·.1))).sum=Rows.uptoBulk xs[0].1+(Rows.uptoBulk xs[1].1+(Rows.uptoBulk xs[2].1+(Rows.uptoBulk xs[3].1+(Rows.uptoBulk xs[4].1+(Rows.uptoBulk xs[5].1+(Rows.uptoBulk xs[6].1+(Rows.uptoBulk xs[7].1+(Rows.uptoBulk xs[8].1+(Rows.uptoBulk xs[9].1))))))))):=by obtain⟨x0,x1,x2,x3,x4,x5,x6,x7,x8,x9,rfl⟩:=alv xs hxl;simp
  rw[hs];exact Uj (nP b0 (nP b1 (nP b2 (nP b3 (nP b4 (nP b5 (nP b6 (nP b7 (nP b8 b9)))))))))
end
section
open Go.RowKit Go.Deep
theorem iJ.imp{F:Nat->Prop}{P:Program}{α β:Type}{c:eX α}{d:eX β}{t:TypeId}(h:iJ F P c t)(k:∀w cs a,c.is w cs a->∃b,d.is w cs b/\d.dM b<=c.dM a):iJ F P d t:=by intro H enc w base spare held fuel cs x hF h1;obtain⟨a,ha,hb⟩:=h hF h1;obtain⟨b,h2,h3⟩:=k _ _ _ ha;exact⟨b,h2,UT h3 hb⟩
theorem jH{α:Type}{cs a b:List α}{n:Nat}(h1:cs.take n=a)(h2:cs.drop n=b):cs=a++b:=by rw[<-h1,<-h2,YN]
def AN:eX oF where
 size:=2
 is:=λw cs x=>cs=[.int ξ x.time,.int ξ x.way]/\aY x.time/\aY x.way
 len:=λh=>by obtain⟨rfl,_⟩:=h;rfl
 mono:=λh _=>h
 dM:=λx=>fR.dM x.time+(fR.dM x.way)
theorem amU:Reads Tryz.prog AN 151:=
 (Gf (F:=λ_=>True) Tryz.underlying151 (c0:=fR) (c1:=fR) (by kernel_rfl) rfl rfl (by kernel_rfl) (by kernel_rfl) (l6 Tryz.underlying3) (l6 Tryz.underlying3)).imp λw cs a h=>by obtain⟨a0,a1⟩:=a;obtain⟨h0,h1⟩:=h;obtain⟨e0,b0⟩:=h0;obtain⟨e1,b1⟩:=h1;have lU:=jH e0 e1;exact⟨⟨a0,a1⟩,⟨by rw[lU];rfl,b0,b1⟩,bN _⟩
theorem ama:Reads Tryz.prog (eC AN) 130:=Aw Tryz.underlying130 (c:=AN) (by kernel_rfl) (by decide) amU
def XE:eX tu where
 size:=2
 is:=λw cs x=>∃v0:Value,cs=[.int ξ x.kind,v0]/\aY x.kind/\(eC AN).is w [v0] x.br
 len:=λh=>by obtain⟨v0,rfl,_⟩:=h;rfl
 mono:=λ{w w' cs x}h g=>by obtain⟨v0,e,h0,h1⟩:=h;exact⟨v0,e,h0,((eC AN)).mono h1 g⟩
 dM:=λx=>fR.dM x.kind+((eC AN).dM x.br)
theorem amQ:Reads Tryz.prog XE 132:=
 (Gf (F:=λ_=>True) Tryz.underlying132 (c0:=fR) (c1:=(eC AN)) (by kernel_rfl) rfl rfl (by kernel_rfl) (by kernel_rfl) (l6 Tryz.underlying3) ama).imp λw cs a h=>by obtain⟨a0,a1⟩:=a;obtain⟨h0,h1⟩:=h;obtain⟨e0,b0⟩:=h0;obtain⟨s1,e1⟩:=wA.1 (((eC AN)).len h1);rw[e1]at h1;have lU:=jH e0 e1;exact⟨⟨a0,a1⟩,⟨s1,by rw[lU];rfl,b0,h1⟩,bN _⟩
def Dc:eX p7 where
 size:=3
 is:=λw cs x=>cs=[.int ξ x.low,.int ξ x.high,.string x.name]/\aY x.low/\aY x.high/\x.name.size<=maxLen
 len:=λh=>by obtain⟨rfl,_⟩:=h;rfl
 mono:=λh _=>h
 dM:=λx=>fR.dM x.low+(fR.dM x.high+(vK.dM x.name))
theorem amV:Reads Tryz.prog Dc 185:=
 (Qd (F:=λ_=>True) Tryz.underlying185 (c0:=fR) (c1:=fR) (c2:=vK) (by kernel_rfl) rfl rfl rfl (by kernel_rfl) (by kernel_rfl) (by kernel_rfl) (l6 Tryz.underlying3) (l6 Tryz.underlying3) (Gs Tryz.underlying9)).imp λw cs a h=>by obtain⟨a0,a1,a2⟩:=a;obtain⟨h0,h1,h2⟩:=h;obtain⟨e0,b0⟩:=h0;obtain⟨e1,b1⟩:=h1;obtain⟨e2,b2⟩:=h2;have uB:=jH e1 e2;have lU:=jH e0 uB;exact⟨⟨a0,a1,a2⟩,⟨by rw[lU];rfl,b0,b1,b2⟩,bN _⟩
theorem amc:Reads Tryz.prog (eC Dc) 48:=Aw Tryz.underlying48 (c:=Dc) (by kernel_rfl) (by decide) amV
def Db:eX ey where
 size:=7
 is:=λw cs x=>∃v0:Value,cs=[.string x.name,.int ξ x.group,.int ξ x.jS,.int ξ x.iy,.int ξ x.default,.bool x.snap,v0]/\x.name.size<=maxLen/\aY x.group/\aY x.jS/\aY x.iy/\aY x.default/\(eC Dc).is w [v0] x.ranges
 len:=λh=>by obtain⟨v0,rfl,_⟩:=h;rfl
 mono:=λ{w w' cs x}h g=>by obtain⟨v0,e,h0,h1,h2,h3,h4,h5⟩:=h;exact⟨v0,e,h0,h1,h2,h3,h4,((eC Dc)).mono h5 g⟩
 dM:=λx=>vK.dM x.name+(fR.dM x.group+(fR.dM x.jS+(fR.dM x.iy+(fR.dM x.default+(yu.dM x.snap+((eC Dc).dM x.ranges))))))
theorem amT:Reads Tryz.prog Db 50:=
 (alB (F:=λ_=>True) Tryz.underlying50 (c0:=vK) (c1:=fR) (c2:=fR) (c3:=fR) (c4:=fR) (c5:=yu) (c6:=(eC Dc)) (by kernel_rfl) rfl rfl rfl rfl rfl rfl rfl (by kernel_rfl) (by kernel_rfl) (by kernel_rfl) (by kernel_rfl) (by kernel_rfl) (by kernel_rfl) (by kernel_rfl) (Gs Tryz.underlying9) (l6 Tryz.underlying3) (l6 Tryz.underlying3) (l6 Tryz.underlying3) (l6 Tryz.underlying3) (QM Tryz.underlying4) amc).imp λw cs a h=>by obtain⟨a0,a1,a2,a3,a4,a5,a6⟩:=a;obtain⟨h0,h1,h2,h3,h4,h5,h6⟩:=h;obtain⟨e0,b0⟩:=h0;obtain⟨e1,b1⟩:=h1;obtain⟨e2,b2⟩:=h2;obtain⟨e3,b3⟩:=h3;obtain⟨e4,b4⟩:=h4;have e5:=h5;simp only[yu]at e5;obtain⟨s6,e6⟩:=wA.1 (((eC Dc)).len h6);rw[e6]at h6;have adO:=jH e5 e6;have NI:=jH e4 adO;have NH:=jH e3 NI;have DC:=jH e2 NH;have uB:=jH e1 DC;have lU:=jH e0 uB;exact⟨⟨a0,a1,a2,a3,a4,a5,a6⟩,⟨s6,by rw[lU];rfl,b0,b1,b2,b3,b4,h6⟩,bN _⟩
theorem al9:Reads Tryz.prog (eC Db) 99:=Aw Tryz.underlying99 (c:=Db) (by kernel_rfl) (by decide) amT
def AA:eX cD where
 size:=3
 is:=λw cs x=>∃v0:Value,cs=[.string x.name,.int ξ x.size,v0]/\x.name.size<=maxLen/\aY x.size/\(eC Db).is w [v0] x.params
 len:=λh=>by obtain⟨v0,rfl,_⟩:=h;rfl
 mono:=λ{w w' cs x}h g=>by obtain⟨v0,e,h0,h1,h2⟩:=h;exact⟨v0,e,h0,h1,((eC Db)).mono h2 g⟩
 dM:=λx=>vK.dM x.name+(fR.dM x.size+((eC Db).dM x.params))
theorem aly:Reads Tryz.prog AA 101:=
 (Qd (F:=λ_=>True) Tryz.underlying101 (c0:=vK) (c1:=fR) (c2:=(eC Db)) (by kernel_rfl) rfl rfl rfl (by kernel_rfl) (by kernel_rfl) (by kernel_rfl) (Gs Tryz.underlying9) (l6 Tryz.underlying3) al9).imp λw cs a h=>by obtain⟨a0,a1,a2⟩:=a;obtain⟨h0,h1,h2⟩:=h;obtain⟨e0,b0⟩:=h0;obtain⟨e1,b1⟩:=h1;obtain⟨s2,e2⟩:=wA.1 (((eC Db)).len h2);rw[e2]at h2;have uB:=jH e1 e2;have lU:=jH e0 uB;exact⟨⟨a0,a1,a2⟩,⟨s2,by rw[lU];rfl,b0,b1,h2⟩,bN _⟩
theorem ak5:Reads Tryz.prog (eC AA) 22:=Aw Tryz.underlying22 (c:=AA) (by kernel_rfl) (by decide) aly
def AT:eX iw where
 size:=4
 is:=λw cs x=>cs=[.int ξ x.az,.string x.ga,.int ξ x.univ,.int ξ x.address]/\aY x.az/\x.ga.size<=maxLen/\aY x.univ/\aY x.address
 len:=λh=>by obtain⟨rfl,_⟩:=h;rfl
 mono:=λh _=>h
 dM:=λx=>fR.dM x.az+(vK.dM x.ga+(fR.dM x.univ+(fR.dM x.address)))
theorem aoj:Reads Tryz.prog AT 103:=
 (aa6 (F:=λ_=>True) Tryz.underlying103 (c0:=fR) (c1:=vK) (c2:=fR) (c3:=fR) (by kernel_rfl) rfl rfl rfl rfl (by kernel_rfl) (by kernel_rfl) (by kernel_rfl) (by kernel_rfl) (l6 Tryz.underlying3) (Gs Tryz.underlying9) (l6 Tryz.underlying3) (l6 Tryz.underlying3)).imp λw cs a h=>by obtain⟨a0,a1,a2,a3⟩:=a;obtain⟨h0,h1,h2,h3⟩:=h;obtain⟨e0,b0⟩:=h0;obtain⟨e1,b1⟩:=h1;obtain⟨e2,b2⟩:=h2;obtain⟨e3,b3⟩:=h3;have DC:=jH e2 e3;have uB:=jH e1 DC;have lU:=jH e0 uB;exact⟨⟨a0,a1,a2,a3⟩,⟨by rw[lU];rfl,b0,b1,b2,b3⟩,bN _⟩
theorem amX:Reads Tryz.prog (eC AT) 23:=Aw Tryz.underlying23 (c:=AT) (by kernel_rfl) (by decide) aoj
def aBB:eX eU where
 size:=2
 is:=λw cs x=>∃v0 v1:Value,cs=[v0,v1]/\(eC AA).is w [v0] x.bf/\(eC AT).is w [v1] x.cV
 len:=λh=>by obtain⟨v0,v1,rfl,_⟩:=h;rfl
 mono:=λ{w w' cs x}h g=>by obtain⟨v0,v1,e,h0,h1⟩:=h;exact⟨v0,v1,e,((eC AA)).mono h0 g,((eC AT)).mono h1 g⟩
 dM:=λx=>(eC AA).dM x.bf+((eC AT).dM x.cV)
theorem apR:Reads Tryz.prog aBB 25:=
 (Gf (F:=λ_=>True) Tryz.underlying25 (c0:=(eC AA)) (c1:=(eC AT)) (by kernel_rfl) rfl rfl (by kernel_rfl) (by kernel_rfl) ak5 amX).imp λw cs a h=>by obtain⟨a0,a1⟩:=a;obtain⟨h0,h1⟩:=h;obtain⟨s0,e0⟩:=wA.1 (((eC AA)).len h0);rw[e0]at h0;obtain⟨s1,e1⟩:=wA.1 (((eC AT)).len h1);rw[e1]at h1;have lU:=jH e0 e1;exact⟨⟨a0,a1⟩,⟨s0,s1,by rw[lU];rfl,h0,h1⟩,bN _⟩
def NW:eX aC where
 size:=2
 is:=λw cs x=>cs=[.int ξ x.unit,.string x.param]/\aY x.unit/\x.param.size<=maxLen
 len:=λh=>by obtain⟨rfl,_⟩:=h;rfl
 mono:=λh _=>h
 dM:=λx=>fR.dM x.unit+(vK.dM x.param)
theorem adG:Reads Tryz.prog NW 45:=
 (Gf (F:=λ_=>True) Tryz.underlying45 (c0:=fR) (c1:=vK) (by kernel_rfl) rfl rfl (by kernel_rfl) (by kernel_rfl) (l6 Tryz.underlying3) (Gs Tryz.underlying9)).imp λw cs a h=>by obtain⟨a0,a1⟩:=a;obtain⟨h0,h1⟩:=h;obtain⟨e0,b0⟩:=h0;obtain⟨e1,b1⟩:=h1;have lU:=jH e0 e1;exact⟨⟨a0,a1⟩,⟨by rw[lU];rfl,b0,b1⟩,bN _⟩
def CV:eX gE where
 size:=3
 is:=λw cs x=>cs=[.int ξ x.key.unit,.string x.key.param,.int ξ x.level]/\aY x.key.unit/\x.key.param.size<=maxLen/\aY x.level
 len:=λh=>by obtain⟨rfl,_⟩:=h;rfl
 mono:=λh _=>h
 dM:=λx=>NW.dM x.key+(fR.dM x.level)
theorem alz:Reads Tryz.prog CV 47:=
 (Gf (F:=λ_=>True) Tryz.underlying47 (c0:=NW) (c1:=fR) (by kernel_rfl) rfl rfl (by kernel_rfl) (by kernel_rfl) adG (l6 Tryz.underlying3)).imp λw cs a h=>by obtain⟨a0,a1⟩:=a;obtain⟨h0,h1⟩:=h;obtain⟨e0,b0⟩:=h0;obtain⟨Ng,Nh⟩:=b0;obtain⟨e1,b1⟩:=h1;have lU:=jH e0 e1;exact⟨⟨a0,a1⟩,⟨by rw[lU];rfl,Ng,Nh,b1⟩,bN _⟩
theorem ak6:Reads Tryz.prog (eC CV) 40:=Aw Tryz.underlying40 (c:=CV) (by kernel_rfl) (by decide) alz
def C1:eX fL where
 size:=3
 is:=λw cs x=>∃v0:Value,cs=[.int ξ x.az,.string x.title,v0]/\aY x.az/\x.title.size<=maxLen/\(eC CV).is w [v0] x.jN
 len:=λh=>by obtain⟨v0,rfl,_⟩:=h;rfl
 mono:=λ{w w' cs x}h g=>by obtain⟨v0,e,h0,h1,h2⟩:=h;exact⟨v0,e,h0,h1,((eC CV)).mono h2 g⟩
 dM:=λx=>fR.dM x.az+(vK.dM x.title+((eC CV).dM x.jN))
theorem amb:Reads Tryz.prog C1 187:=
 (Qd (F:=λ_=>True) Tryz.underlying187 (c0:=fR) (c1:=vK) (c2:=(eC CV)) (by kernel_rfl) rfl rfl rfl (by kernel_rfl) (by kernel_rfl) (by kernel_rfl) (l6 Tryz.underlying3) (Gs Tryz.underlying9) ak6).imp λw cs a h=>by obtain⟨a0,a1,a2⟩:=a;obtain⟨h0,h1,h2⟩:=h;obtain⟨e0,b0⟩:=h0;obtain⟨e1,b1⟩:=h1;obtain⟨s2,e2⟩:=wA.1 (((eC CV)).len h2);rw[e2]at h2;have uB:=jH e1 e2;have lU:=jH e0 uB;exact⟨⟨a0,a1,a2⟩,⟨s2,by rw[lU];rfl,b0,b1,h2⟩,bN _⟩
theorem alx:Reads Tryz.prog (eC C1) 26:=Aw Tryz.underlying26 (c:=C1) (by kernel_rfl) (by decide) amb
def XT:eX mz where
 size:=2
 is:=λw cs x=>cs=[.int ξ x.level,.int ξ x.fQ]/\aY x.level/\aY x.fQ
 len:=λh=>by obtain⟨rfl,_⟩:=h;rfl
 mono:=λh _=>h
 dM:=λx=>fR.dM x.level+(fR.dM x.fQ)
theorem amY:Reads Tryz.prog XT 193:=
 (Gf (F:=λ_=>True) Tryz.underlying193 (c0:=fR) (c1:=fR) (by kernel_rfl) rfl rfl (by kernel_rfl) (by kernel_rfl) (l6 Tryz.underlying3) (l6 Tryz.underlying3)).imp λw cs a h=>by obtain⟨a0,a1⟩:=a;obtain⟨h0,h1⟩:=h;obtain⟨e0,b0⟩:=h0;obtain⟨e1,b1⟩:=h1;have lU:=jH e0 e1;exact⟨⟨a0,a1⟩,⟨by rw[lU];rfl,b0,b1⟩,bN _⟩
def Dp:eX gf where
 size:=8
 is:=λw cs x=>cs=[.int ξ x.key.unit,.string x.key.param,.int ξ x.value.level,.int ξ x.value.fQ,.bool x.release,.bool x.zO,.int ξ x.cB,.int ξ x.time]/\aY x.key.unit/\x.key.param.size<=maxLen/\aY x.value.level/\aY x.value.fQ/\aY x.cB/\aY x.time
 len:=λh=>by obtain⟨rfl,_⟩:=h;rfl
 mono:=λh _=>h
 dM:=λx=>NW.dM x.key+(XT.dM x.value+(yu.dM x.release+(yu.dM x.zO+(fR.dM x.cB+(fR.dM x.time)))))
theorem aoi:Reads Tryz.prog Dp 195:=
 (alA (F:=λ_=>True) Tryz.underlying195 (c0:=NW) (c1:=XT) (c2:=yu) (c3:=yu) (c4:=fR) (c5:=fR) (by kernel_rfl) rfl rfl rfl rfl rfl rfl (by kernel_rfl) (by kernel_rfl) (by kernel_rfl) (by kernel_rfl) (by kernel_rfl) (by kernel_rfl) adG amY (QM Tryz.underlying4) (QM Tryz.underlying4) (l6 Tryz.underlying3) (l6 Tryz.underlying3)).imp λw cs a h=>by obtain⟨a0,a1,a2,a3,a4,a5⟩:=a;obtain⟨h0,h1,h2,h3,h4,h5⟩:=h;obtain⟨e0,b0⟩:=h0;obtain⟨Ng,Nh⟩:=b0;obtain⟨e1,b1⟩:=h1;obtain⟨avW,avX⟩:=b1;have e2:=h2;simp only[yu]at e2;have e3:=h3;simp only[yu]at e3;obtain⟨e4,b4⟩:=h4;obtain⟨e5,b5⟩:=h5;have NI:=jH e4 e5;have NH:=jH e3 NI;have DC:=jH e2 NH;have uB:=jH e1 DC;have lU:=jH e0 uB;exact⟨⟨a0,a1,a2,a3,a4,a5⟩,⟨by rw[lU];rfl,Ng,Nh,avW,avX,b4,b5⟩,bN _⟩
theorem amS:Reads Tryz.prog (eC Dp) 133:=Aw Tryz.underlying133 (c:=Dp) (by kernel_rfl) (by decide) aoi
def DB:eX bA where
 size:=11
 is:=λw cs x=>∃v0 v1:Value,cs=[.int ξ x.az,.string x.title,.int ξ x.cB,.int ξ x.up,.int ξ x.down,.int ξ x.other,.int ξ x.fM.kind,v0,.bool x.block,.int ξ x.eM,v1]/\aY x.az/\x.title.size<=maxLen/\aY x.cB/\aY x.up/\aY x.down/\aY x.other/\aY x.fM.kind/\(eC AN).is w [v0] x.fM.br/\aY x.eM/\(eC Dp).is w [v1] x.dF
 len:=λh=>by obtain⟨v0,v1,rfl,_⟩:=h;rfl
 mono:=λ{w w' cs x}h g=>by obtain⟨v0,v1,e,h0,h1,h2,h3,h4,h5,h6,h7,h8,h9⟩:=h;exact⟨v0,v1,e,h0,h1,h2,h3,h4,h5,h6,((eC AN)).mono h7 g,h8,((eC Dp)).mono h9 g⟩
 dM:=λx=>fR.dM x.az+(vK.dM x.title+(fR.dM x.cB+(fR.dM x.up+(fR.dM x.down+(fR.dM x.other+(XE.dM x.fM+(yu.dM x.block+(fR.dM x.eM+((eC Dp).dM x.dF)))))))))
theorem apQ:Reads Tryz.prog DB 135:=
 (ak7 (F:=λ_=>True) Tryz.underlying135 (c0:=fR) (c1:=vK) (c2:=fR) (c3:=fR) (c4:=fR) (c5:=fR) (c6:=XE) (c7:=yu) (c8:=fR) (c9:=(eC Dp)) (by kernel_rfl) rfl rfl rfl rfl rfl rfl rfl rfl rfl rfl (by kernel_rfl) (by kernel_rfl) (by kernel_rfl) (by kernel_rfl) (by kernel_rfl) (by kernel_rfl) (by kernel_rfl) (by kernel_rfl) (by kernel_rfl) (by kernel_rfl) (l6 Tryz.underlying3) (Gs Tryz.underlying9) (l6 Tryz.underlying3) (l6 Tryz.underlying3) (l6 Tryz.underlying3) (l6 Tryz.underlying3) amQ (QM Tryz.underlying4) (l6 Tryz.underlying3) amS).imp λw cs a h=>by obtain⟨a0,a1,a2,a3,a4,a5,a6,a7,a8,a9⟩:=a;obtain⟨h0,h1,h2,h3,h4,h5,h6,h7,h8,h9⟩:=h;obtain⟨e0,b0⟩:=h0;obtain⟨e1,b1⟩:=h1;obtain⟨e2,b2⟩:=h2;obtain⟨e3,b3⟩:=h3;obtain⟨e4,b4⟩:=h4;obtain⟨e5,b5⟩:=h5;obtain⟨ayf,e6,b6⟩:=h6;obtain⟨avY,avZ⟩:=b6;have e7:=h7;simp only[yu]at e7;obtain⟨e8,b8⟩:=h8;obtain⟨s9,e9⟩:=wA.1 (((eC Dp)).len h9);rw[e9]at h9;have awZ:=jH e8 e9;have awY:=jH e7 awZ;have awX:=jH e6 awY;have adO:=jH e5 awX;have NI:=jH e4 adO;have NH:=jH e3 NI;have DC:=jH e2 NH;have uB:=jH e1 DC;have lU:=jH e0 uB;exact⟨⟨a0,a1,a2,a3,a4,a5,a6,a7,a8,a9⟩,⟨ayf,s9,by rw[lU];rfl,b0,b1,b2,b3,b4,b5,avY,avZ,b8,h9⟩,bN _⟩
theorem aog:Reads Tryz.prog (eC DB) 68:=Aw Tryz.underlying68 (c:=DB) (by kernel_rfl) (by decide) apQ
def Dm:eX jl where
 size:=2
 is:=λw cs x=>∃v0:Value,cs=[.int ξ x.az,v0]/\aY x.az/\(eC DB).is w [v0] x.bH
 len:=λh=>by obtain⟨v0,rfl,_⟩:=h;rfl
 mono:=λ{w w' cs x}h g=>by obtain⟨v0,e,h0,h1⟩:=h;exact⟨v0,e,h0,((eC DB)).mono h1 g⟩
 dM:=λx=>fR.dM x.az+((eC DB).dM x.bH)
theorem aoh:Reads Tryz.prog Dm 70:=
 (Gf (F:=λ_=>True) Tryz.underlying70 (c0:=fR) (c1:=(eC DB)) (by kernel_rfl) rfl rfl (by kernel_rfl) (by kernel_rfl) (l6 Tryz.underlying3) aog).imp λw cs a h=>by obtain⟨a0,a1⟩:=a;obtain⟨h0,h1⟩:=h;obtain⟨e0,b0⟩:=h0;obtain⟨s1,e1⟩:=wA.1 (((eC DB)).len h1);rw[e1]at h1;have lU:=jH e0 e1;exact⟨⟨a0,a1⟩,⟨s1,by rw[lU];rfl,b0,h1⟩,bN _⟩
theorem amR:Reads Tryz.prog (eC Dm) 27:=Aw Tryz.underlying27 (c:=Dm) (by kernel_rfl) (by decide) aoh
def CS:eX pH where
 size:=3
 is:=λw cs x=>cs=[.int ξ x.az,.int ξ x.list,.int ξ x.kD]/\aY x.az/\aY x.list/\aY x.kD
 len:=λh=>by obtain⟨rfl,_⟩:=h;rfl
 mono:=λh _=>h
 dM:=λx=>fR.dM x.az+(fR.dM x.list+(fR.dM x.kD))
theorem ak4:Reads Tryz.prog CS 57:=
 (Qd (F:=λ_=>True) Tryz.underlying57 (c0:=fR) (c1:=fR) (c2:=fR) (by kernel_rfl) rfl rfl rfl (by kernel_rfl) (by kernel_rfl) (by kernel_rfl) (l6 Tryz.underlying3) (l6 Tryz.underlying3) (l6 Tryz.underlying3)).imp λw cs a h=>by obtain⟨a0,a1,a2⟩:=a;obtain⟨h0,h1,h2⟩:=h;obtain⟨e0,b0⟩:=h0;obtain⟨e1,b1⟩:=h1;obtain⟨e2,b2⟩:=h2;have uB:=jH e1 e2;have lU:=jH e0 uB;exact⟨⟨a0,a1,a2⟩,⟨by rw[lU];rfl,b0,b1,b2⟩,bN _⟩
theorem akC:Reads Tryz.prog (eC CS) 28:=Aw Tryz.underlying28 (c:=CS) (by kernel_rfl) (by decide) ak4
def agJ:eX i7 where
 size:=5
 is:=λw cs x=>∃v0 v1 v2 v3 v4:Value,cs=[v0,v1,v2,v3,v4]/\(eC AA).is w [v0] x.bk.bf/\(eC AT).is w [v1] x.bk.cV/\(eC C1).is w [v2] x.bn/\(eC Dm).is w [v3] x.dJ/\(eC CS).is w [v4] x.bM
 len:=λh=>by obtain⟨v0,v1,v2,v3,v4,rfl,_⟩:=h;rfl
 mono:=λ{w w' cs x}h g=>by obtain⟨v0,v1,v2,v3,v4,e,h0,h1,h2,h3,h4⟩:=h;exact⟨v0,v1,v2,v3,v4,e,((eC AA)).mono h0 g,((eC AT)).mono h1 g,((eC C1)).mono h2 g,((eC Dm)).mono h3 g,((eC CS)).mono h4 g⟩
 dM:=λx=>aBB.dM x.bk+((eC C1).dM x.bn+((eC Dm).dM x.dJ+((eC CS).dM x.bM)))
theorem amW:Reads Tryz.prog agJ 30:=
 (aa6 (F:=λ_=>True) Tryz.underlying30 (c0:=aBB) (c1:=(eC C1)) (c2:=(eC Dm)) (c3:=(eC CS)) (by kernel_rfl) rfl rfl rfl rfl (by kernel_rfl) (by kernel_rfl) (by kernel_rfl) (by kernel_rfl) apR alx amR akC).imp λw cs a h=>by obtain⟨a0,a1,a2,a3⟩:=a;obtain⟨h0,h1,h2,h3⟩:=h;obtain⟨ayc,ayd,e0,b0⟩:=h0;obtain⟨Ng,Nh⟩:=b0;obtain⟨s1,e1⟩:=wA.1 (((eC C1)).len h1);rw[e1]at h1;obtain⟨s2,e2⟩:=wA.1 (((eC Dm)).len h2);rw[e2]at h2;obtain⟨s3,e3⟩:=wA.1 (((eC CS)).len h3);rw[e3]at h3;have DC:=jH e2 e3;have uB:=jH e1 DC;have lU:=jH e0 uB;exact⟨⟨a0,a1,a2,a3⟩,⟨ayc,ayd,s1,s2,s3,by rw[lU];rfl,Ng,Nh,h1,h2,h3⟩,bN _⟩
end
section
open Go.RowKit Go.Deep
section
variable {c : RC}
theorem yh:aX c [] []:=by simp [aX]
theorem gq{a:AV}{v:Value}{l:aq}{vs:List Value}(h:ay c a v)(k:aX c l vs):aX c (a::l) (v::vs):=by simp only[aX];exact⟨v,vs,rfl,h,k⟩
theorem lH(k:IntKind)(n:Int):ay c (.int k n) (.int k n):=by simp [ay]
theorem Rn(b:Bool):ay c (.bool b) (.bool b):=by simp [ay]
theorem ER(s:ByteArray):ay c (.str s) (.string s):=by simp [ay]
def RP{α:Type}(c:RC)(d:eX α)(e:α->aq)(ok:α->Prop):Prop:=∀cs x,d.is c.w cs x->aX c (e x) cs/\ok x/\(∀v∈cs,fS v=θ)
theorem aeR:∀{l:aq}{vs:List Value},aX c l vs->l.length=vs.length
 |[],vs,h=>by simp only[aX]at h;subst h;rfl
 |a::l,vs,h=>by simp only[aX]at h;obtain⟨v,vs',rfl,_,h⟩:=h;simp [aeR h]
theorem aeP{b:Nat}:∀{l:aq}{vs:List Value}{off:Nat},aX c l vs->(∀v∈vs,fS v=θ)->(∀j,j<vs.length->c.w.cell? ⟨b,off+j,μ⟩=vs[j]?)->bY c b off l
 |[],vs,off,h,_,_=>by simp [bY]
 |a::l,vs,off,h,ho,hc=>by simp only[aX]at h;obtain⟨v,vs',rfl,h1,h2⟩:=h;simp only[bY];refine⟨⟨v,by simpa using hc 0 (by simp),ho v (by simp),h1⟩,aeP h2 (λv hv=>ho v (by simp [hv])) λj hj=>?_⟩;have:=hc (j+1) (by simpa using hj);rw[show off+1+j=off+(j+1) by omega];simpa using this
theorem aeQ{α:Type}{d:eX α}{e:α->aq}{ok:α->Prop}(H:RP c d e ok){b sz:Nat}(hsz:d.size=sz):∀{l:List α}{off:Nat},(∀(i:Nat)(x:α),l[i]? =δ x->∃cs',(∀j,j<d.size->c.w.cell? ⟨b,off+(i*d.size+j),μ⟩=cs'[j]?)/\d.is c.w cs' x)->cA c sz b off (l.map e)/\∀x∈l,ok x
 |[],off,h=>by simp [cA]
 |x::l,off,h=>by
  obtain⟨cs,h1,h2⟩:=h 0 x rfl;obtain⟨k1,k2,k3⟩:=H cs x h2;have hl:cs.length=d.size:=d.len h2
  obtain⟨r1,r2⟩:=aeQ H hsz (l:=l) (off:=off+sz) (λi y hy=>by
   obtain⟨cs',q1,q2⟩:=h (i+1) y (by simpa using hy);refine⟨cs',λj hj=>?_,q2⟩;have:=q1 j hj;rw[<-hsz]
   rwa[show off+d.size+(i*d.size+j)=off+((i+1)*d.size+j) by rw[Nat.succ_mul];omega])
  refine⟨?_,λy hy=>?_⟩
  ·simp only[eP,cA];refine⟨by rw[aeR k1,hl,hsz],aeP k1 k3 λj hj=>?_,r1⟩;have:=h1 j (by rw[<-hl];exact hj);simpa using this
  ·rcases jP.1 hy with rfl|hy
   ·exact k2
   ·exact r2 y hy
theorem arZ{w:World}{b off:Nat}{v:Value}(h:w.cell? ⟨b,off,μ⟩=δ v):b<w.heap.size:=by
 rcases Nat.lt_or_ge b w.heap.size with k|k
 ·exact k
 ·simp [Xd,Array.getElem?_eq_none k]at h
theorem AB{α:Type}{d:eX α}{e:α->aq}{ok:α->Prop}(hX:∀b,¬c.X b)(H:RP c d e ok){sz:Nat}(hsz:d.size=sz)(h0:0<sz){v:Value}{l:List α}(h:(eC d).is c.w [v] l):ay c (sl sz e l) v/\fZ ok l/\fS v=θ:=by
 rcases h with⟨h1,rfl⟩|⟨b,off,sp,cap,h1,h2,h3,h4⟩
 ·simp only[aCW,and_true]at h1;subst h1;exact⟨by simp [sl,ay,h0],⟨by simp,by simp⟩,rfl⟩
 ·simp only[aCW,and_true]at h1;subst h1
  have qJ:sp=μ\/l=[]:=by
   cases l with
   |nil=>exact .inr rfl
   |cons x l=>exact .inl (h4 0 (by simp)).1
  have hh:∀(i:Nat)(x:α),l[i]? =δ x->∃cs',(∀j,j<d.size->c.w.cell? ⟨b,off+(i*d.size+j),μ⟩=cs'[j]?)/\d.is c.w cs' x:=by intro i x hx;obtain⟨hi,hx⟩:=bG.1 hx;subst hx;exact(h4 i hi).2
  obtain⟨r1,r2⟩:=aeQ H hsz hh;refine⟨?_,⟨by unfold maxLen at h3;unfold aZ;omega,r2⟩,rfl⟩;simp only[sl,ay];refine⟨δ ⟨b,off,sp⟩,cap,by simp,by simpa using h2,h0,?_⟩;rcases qJ with rfl|rfl
  ·cases l with
   |nil=>exact .inl rfl
   |cons x l=>
    refine .inr ⟨b,off,rfl,?_,hX b,r1⟩;obtain⟨cs,q1,q2⟩:=hh 0 x rfl;have hl:cs.length=d.size:=d.len q2;have:=q1 0 (by omega);obtain⟨y,hy⟩:∃y,cs[0]? =δ y:=⟨cs[0],cC (by omega)⟩
    rw[hy]at this;exact arZ this
  ·exact .inl rfl
theorem zx:∀v∈([]:List Value),fS v=θ:=by simp
theorem gC{v:Value}{vs:List Value}(h:fS v=θ)(k:∀x∈vs,fS x=θ):∀x∈v::vs,fS x=θ:=by
 intro x hx;rcases jP.1 hx with rfl|hx
 ·exact h
 ·exact k x hx
theorem aro:RP c AN iF afB:=by rintro cs x ⟨rfl,h0,h1⟩;exact⟨(gq (lH _ _) (gq (lH _ _) yh)),⟨h0,h1⟩,(gC rfl (gC rfl zx))⟩
theorem arp:RP c Dc lI aAk:=by rintro cs x ⟨rfl,h0,h1,h2⟩;exact⟨(gq (lH _ _) (gq (lH _ _) (gq (ER _) yh))),⟨h0,h1,(show jF _ by unfold jF aZ;have:=h2;unfold maxLen at this;omega)⟩,(gC rfl (gC rfl (gC rfl zx)))⟩
theorem arn(hX:∀b,¬c.X b):RP c Db cG aCM:=by rintro cs x ⟨v0,rfl,h0,h1,h2,h3,h4,h6⟩;obtain⟨r6,o6,n6⟩:=AB hX arp (sz:=3) rfl (by decide) h6;exact⟨(gq (ER _) (gq (lH _ _) (gq (lH _ _) (gq (lH _ _) (gq (lH _ _) (gq (Rn _) (gq r6 yh))))))),⟨(show jF _ by unfold jF aZ;have:=h0;unfold maxLen at this;omega),h1,h2,h3,h4,o6⟩,(gC rfl (gC rfl (gC rfl (gC rfl (gC rfl (gC rfl (gC n6 zx)))))))⟩
theorem aom(hX:∀b,¬c.X b):RP c AA cz Gq:=by rintro cs x ⟨v0,rfl,h0,h1,h2⟩;obtain⟨r2,o2,n2⟩:=AB hX (arn hX) (sz:=7) rfl (by decide) h2;exact⟨(gq (ER _) (gq (lH _ _) (gq r2 yh))),⟨(show jF _ by unfold jF aZ;have:=h0;unfold maxLen at this;omega),h1,o2⟩,(gC rfl (gC rfl (gC n2 zx)))⟩
theorem atv:RP c AT dh agz:=by rintro cs x ⟨rfl,h0,h1,h2,h3⟩;exact⟨(gq (lH _ _) (gq (ER _) (gq (lH _ _) (gq (lH _ _) yh)))),⟨h0,(show jF _ by unfold jF aZ;have:=h1;unfold maxLen at this;omega),h2,h3⟩,(gC rfl (gC rfl (gC rfl (gC rfl zx))))⟩
theorem aon:RP c CV dW adv:=by rintro cs x ⟨rfl,h0,h1,h2⟩;exact⟨(gq (lH _ _) (gq (ER _) (gq (lH _ _) yh))),⟨⟨h0,(show jF _ by unfold jF aZ;have:=h1;unfold maxLen at this;omega)⟩,h2⟩,(gC rfl (gC rfl (gC rfl zx)))⟩
theorem apV(hX:∀b,¬c.X b):RP c C1 dX xk:=by rintro cs x ⟨v0,rfl,h0,h1,h2⟩;obtain⟨r2,o2,n2⟩:=AB hX aon (sz:=3) rfl (by decide) h2;exact⟨(gq (lH _ _) (gq (ER _) (gq r2 yh))),⟨h0,(show jF _ by unfold jF aZ;have:=h1;unfold maxLen at this;omega),o2⟩,(gC rfl (gC rfl (gC n2 zx)))⟩
theorem atu:RP c Dp ff JZ:=by rintro cs x ⟨rfl,h0,h1,h2,h3,h6,h7⟩;exact⟨(gq (lH _ _) (gq (ER _) (gq (lH _ _) (gq (lH _ _) (gq (Rn _) (gq (Rn _) (gq (lH _ _) (gq (lH _ _) yh)))))))),⟨⟨h0,(show jF _ by unfold jF aZ;have:=h1;unfold maxLen at this;omega)⟩,⟨h2,h3⟩,h6,h7⟩,(gC rfl (gC rfl (gC rfl (gC rfl (gC rfl (gC rfl (gC rfl (gC rfl zx))))))))⟩
theorem auJ(hX:∀b,¬c.X b):RP c DB bg zN:=by rintro cs x ⟨v0,v1,rfl,h0,h1,h2,h3,h4,h5,h6,h7,h9,D7⟩;obtain⟨r7,o7,n7⟩:=AB hX aro (sz:=2) rfl (by decide) h7;obtain⟨gR,o10,n10⟩:=AB hX atu (sz:=8) rfl (by decide) D7;exact⟨(gq (lH _ _) (gq (ER _) (gq (lH _ _) (gq (lH _ _) (gq (lH _ _) (gq (lH _ _) (gq (lH _ _) (gq r7 (gq (Rn _) (gq (lH _ _) (gq gR yh))))))))))),⟨h0,(show jF _ by unfold jF aZ;have:=h1;unfold maxLen at this;omega),h2,h3,h4,h5,⟨h6,o7⟩,h9,o10⟩,(gC rfl (gC rfl (gC rfl (gC rfl (gC rfl (gC rfl (gC rfl (gC n7 (gC rfl (gC rfl (gC n10 zx)))))))))))⟩
theorem atr(hX:∀b,¬c.X b):RP c Dm fc agy:=by rintro cs x ⟨v0,rfl,h0,h1⟩;obtain⟨r1,o1,n1⟩:=AB hX (auJ hX) (sz:=11) rfl (by decide) h1;exact⟨(gq (lH _ _) (gq r1 yh)),⟨h0,o1⟩,(gC rfl (gC n1 zx))⟩
theorem am0:RP c CS dA acr:=by rintro cs x ⟨rfl,h0,h1,h2⟩;exact⟨(gq (lH _ _) (gq (lH _ _) (gq (lH _ _) yh))),⟨h0,h1,h2⟩,(gC rfl (gC rfl (gC rfl zx)))⟩
theorem arq(hX:∀b,¬c.X b):RP c agJ cm zw:=by rintro cs x ⟨v0,v1,v2,v3,v4,rfl,h0,h1,h2,h3,h4⟩;obtain⟨r0,o0,n0⟩:=AB hX (aom hX) (sz:=3) rfl (by decide) h0;obtain⟨r1,o1,n1⟩:=AB hX atv (sz:=4) rfl (by decide) h1;obtain⟨r2,o2,n2⟩:=AB hX (apV hX) (sz:=3) rfl (by decide) h2;obtain⟨r3,o3,n3⟩:=AB hX (atr hX) (sz:=2) rfl (by decide) h3;obtain⟨r4,o4,n4⟩:=AB hX am0 (sz:=3) rfl (by decide) h4;exact⟨(gq r0 (gq r1 (gq r2 (gq r3 (gq r4 yh))))),⟨⟨o0,o1⟩,o2,o3,o4⟩,(gC n0 (gC n1 (gC n2 (gC n3 (gC n4 zx)))))⟩
theorem auK{α:Type}{d:eX α}{e:α->aq}{ok:α->Prop}(H:RP c d e ok){cs:Array Value}{x:α}(h:d.is c.w cs.toList x):ay c (.agg (e x)) (.agg cs)/\ok x:=by obtain⟨h1,h2,h3⟩:=H _ _ h;simp only[ay];exact⟨⟨cs,rfl,h1,h3⟩,h2⟩
end
end
section
open Go.RowKit
def base (W:World):RC:=ctx ⟨W,[],λ_=>False,aN⟩ W [] eW
theorem atX(W:World):∀b,¬(base W).X b:=by
 rintro b (k|⟨p,hp,_⟩|⟨i,k⟩)
 ·exact k
 ·cases hp
 ·cases k
theorem asT{n:FuncId}{m:aq->Heap->aF}{rQ:aq}(hs:Sound Tryz.prog aN n m)(hc:∀us w,(callFunc n us).run Tryz.prog w=.ok (.enter n us) w)(W:World)(vs:Array Value)(hr:aX (base W) rQ vs.toList)(hm:m rQ []=δ (.bool θ,[])):
  Calls Tryz.prog n vs W λe W'=>e=.returned (.bool θ)/\Below W.heap.size W W':=by
 have hh0:kL (ctx ⟨W,[],λ_=>False,aN⟩ W [] eW) []:=by
  refine⟨rfl,λi j p q hp=>?_,λi p x hp=>?_⟩
  ·simp [ctx]at hp
  ·simp [ctx]at hp
 rcases hs _ _ _ _ hm with⟨g,h1,h2⟩|hv
 case inr=>
  obtain⟨v,w',E',k1,_⟩:=hv ⟨W,[],λ_=>False,aN⟩ vs rfl (λb k=>k.elim) hh0 hr;rw[hc]at k1;injection k1 with k1
  cases k1
 have hg:g=n:=by
  have e1:=h1 #[] W;rw[hc #[] W]at e1;injection e1 with e1
  injection e1 with e1
  exact e1.symm
 subst hg
 have hh:kL (ctx ⟨W,[],λ_=>False,aN⟩ W [] eW) []:=by
  refine⟨rfl,λi j p q hp=>?_,λi p x hp=>?_⟩
  ·simp [ctx]at hp
  ·simp [ctx]at hp
 refine(h2 ⟨W,[],λ_=>False,aN⟩ vs rfl (λb k=>k.elim) hh hr).mono ?_;rintro e w' ⟨v,E',rfl,ho,_,hv⟩;simp only[ay]at hv;subst hv;exact⟨rfl,ho.os,ho.tape,ho.output,ho.size,λk hk=>ho.stay k hk (λp hp=>by cases hp)⟩
end
end
end Go.Proofs.YtooknfkholjpbaaGreat
