/- Parts of the proof of PlayGoesToTheCue, in order. -/
import Derived.Shelf.SlSortCmp.WholeK
import Derived.Shelf.SlSortCmp.NoneTotal
import Derived.Sort.AssemblyPlain
import Derived.Lib.Strings
import Derived.Test.YtooknfkholjpbaaGreatKPlayGoesToTheCue3
namespace Go.Proofs.YtooknfkholjpbaaGreat
set_option linter.unusedVariables false
set_option linter.unusedSimpArgs false
set_option linter.unusedSectionVars false
set_option maxRecDepth 1000000
noncomputable section
open AV renaming ah->ε,bool->Λ,agg->Φ,aA->Zg,rp->ZN,str->Xo,om->XP,sl->Yh,aM->Yu,np->aDa,lbx->VD
open A renaming look->Yt,eql->ZA,lss->YY,fin->wh,gen->XD,not->Wk,bound->Wb,guard->η,ext->Yn,dw->TQ,pick->UD,elems->VB,bI->ZP,find->Wh,cM->Xw,tab->Zw,cell->Ψ,bu->UY,lb->Tv,add->WE,gz->WN,eo->YR,bw->Zo,neq->UP,aD->VU,aB->ir,room->aDD,sub->Uk,nn->Y9,deref->χ,gtr->YK,iter->Xj,loop->Y7,storeAt->XZ,eA->Wf,cond->φ,append->WK,wrap->Ω,bV->X4,renew->ZD,quiet->Wi,jm->WS,ak->Γ
open List renaming mem_flatMap->aDl,any_eq_true->VK,range'_succ->aDW,getElem_range'->aDm,set_cons_zero->aC5,drop_zero->Zz,map_append->Z6,mem_singleton->TV,find?_cons->aDr,find?_some->aEg,getElem?_drop->ZW,foldl_cons->V4,length->WD,append_nil->VT,find?_eq_none->T0,size_toArray->Zs,length_map->X1,drop_eq_getElem_cons->UG,length_cons->YZ,length_singleton->Wa,take_append_of_le_length->TZ,nil_append->V7,take_add_one->TC,length_range'->XO,length_set->aDd,set_cons_succ->aC4,take_take->aDJ,getElem?_set_ne->XX,getElem?_take_of_lt->WG,getElem_cons_drop->aD6,length_replicate->Vk,flatten_cons->XS,range'->YO,pairwise_append->aDK,map_congr_left->Yq,take_append_drop->YN,drop_of_length_le->ZT,getElem?_cons_succ->Y5,pairwise_cons->YE,length_nil->UB,flatMap_cons->Xm,map->Y0,set_set->Vp,length_append->ZY,replicate->Z3,eraseIdx_eq_take_drop_succ->Ty,getD_eq_getElem?_getD->aC3
open aW renaming map->Z0,box->Vs
open Bool renaming false_or->aD0,true->θ,false_eq_true->YQ,not_eq_true'->UK,not_eq_false->aDb,true_and->aDh,false->ι,eq_false_or_eq_true->V8,false_and->U7,not_true->Ur
open Nat renaming zero_add->YW,sub_self->Yp,div_lt_iff_lt_mul->aDC,mul_comm->ZF,lt_irrefl->aDH,not_lt_zero->aCX
open Go.Lib renaming bitLen->Xf,compareBytes->Xt
open Option renaming some->δ,none->μ,map_none->Zc,toList_some->aDy,elim_some->aDn
open Prod.mk renaming injEq->T4
open AX renaming normal->Xv,exit->Ξ,ret->YP
open Go.IntKind renaming i64->ξ,u64->aDL
open _root_.Array renaming length_toList->Y8
open List.cons renaming injEq->aCW
open Int renaming ofNat_zero->ZB,lt_irrefl->Xz,toNat_natCast->TS
open Classical renaming choose->To,choose_spec->Vm
open False renaming elim->aC6
open Ct renaming m->aC8
open IntKind renaming i64->ξ
open List.Pairwise renaming nil->VY
open Go.Sort renaming ahead->aDx
open Go.Op renaming bytesLess->WR
open Option.some renaming injEq->Θ
section
open Go.RowKit Go.Sort
theorem abq{α:Type}[Inhabited α]{enc:α->List Value}{k:Nat}(hk:∀x,(enc x).length=k){w:World}{b off n:Nat}{d d':Array α}{os:Array Obj}{arr:Array Value}{bt:TypeId}(hs:d'.size=d.size)
  (hb:w.heap[b]? =δ (.cells arr bt (0,0))) (hfit:off+d.size*k<=arr.size):
  Below w.heap.size (w.fO b (.cells (iY arr off (d'.toList.flatMap enc)) bt (0,0))) (sortWorldK enc k w b off n d' os):=by
 have hlt:b<w.heap.size:=(mP.1 hb).1
 have hfl:(d'.toList.flatMap enc).length=d'.size*k:=by
  have:∀l:List α,(l.flatMap enc).length=l.length*k:=by
   intro l;induction l with
   |nil=>simp
   |cons x l ih=>simp [hk,ih,iG];omega
  rw[this,Y8]
 have kR:∀(l:List α)(t:Nat),t<l.length*k->(l.flatMap enc)[t]? =δ ((enc l.toArray[t / k]!)[t % k]!):=by
  intro l;induction l with
  |nil=>intro t ht;simp at ht
  |cons x l ih=>
   intro t ht;have hk0:0<k:=Nat.pos_of_ne_zero λe=>by subst e;simp at ht
   rw[Xm];by_cases h:t<k
   ·rw[iS (by rw[hk];exact h),Nat.div_eq_of_lt h,Nat.mod_eq_of_lt h];simp [hk,h]
   ·rw[jq (by rw[hk];omega),hk,ih (t-k) (by simp [iG]at ht;omega)];have e1:t / k=(t-k) / k+1:=by rw[Nat.div_eq_sub_div hk0 (by omega)]
    have e2:t % k=(t-k) % k:=by rw[Nat.mod_eq_sub_mod (by omega)]
    rw[e1,e2];simp
 have hcells:putCells id off (flatK enc k d') arr=iY arr off (d'.toList.flatMap enc):=by
  apply Array.ext_getElem?;intro j;rw[ES _ _ _ (by rw[hfl,hs];omega)];simp only[putCells,Array.getElem?_mapIdx,size_flatK];by_cases hj:off<=j/\j<off+d'.size*k
  ·rw[aP (by rw[hfl];exact hj)];have hja:j<arr.size:=by rw[hs]at hj;omega
   rw[wB hja,cR,aP hj];have:=kR d'.toList (j-off) (by rw[Y8];omega);rw[this];simp only[id];rw[get_flatK _ _ _ _ (by omega)]
  ·rw[aO (by rw[hfl];exact hj)];by_cases hja:j<arr.size
   ·rw[wB hja,cR,aO hj]
   ·rw[Array.getElem?_eq_none (by omega),Zc]
 refine⟨rfl,rfl,rfl,?_,λi hi=>?_⟩
 ·rw[zk];simp [sortWorldK,grow,putRowK,putRow,mapBlock,aDx]
 ·have hi':i<(putRowK enc k (aDx w n) b off d').heap.size:=by simp [putRowK,putRow,mapBlock,aDx];exact hi
  show(grow (putRowK enc k (aDx w n) b off d') os).heap[i]? =_;unfold grow;simp only;rw[Array.getElem?_append_left hi'];simp only[putRowK,putRow,mapBlock,aDx];rw[Array.getElem?_modify];by_cases h:b=i
  ·subst h;rw[aP rfl,xh _ hlt,hb];simp only[cR,onCells,hcells]
  ·rw[aO h,xX _ h]
theorem aoD{P:Program}{nm:List Nat}{f g:FuncId}{α:Type}[Inhabited α]{sz:Nat}{c:α->aq}{enc:α->List Value}{cf:α->α->Int}(hsz:0<sz)(hinj:∀x y,c x=c y->x=y)(iI:∀x,(c x).length=sz)
  (Fo:∀cc x,aX cc (c x) (enc x)) (avC:∀cc x vs,aX cc (c x) vs->vs=enc x) (hone:∀x,∀v∈enc x,fS v=θ)
  (hf:∀us w,(callFunc f us).run P w=.ok (.enter f us) w) (hnone:∀w,Calls P f #[.slice μ 0 0,.func (.func g) #[] #[]] w λe w'=>e=.returned (.tuple #[])/\Below w.heap.size w w')
  (avu:∀(blk off cap:Nat)(d:Array α)(w:World),HoldsK enc sz w blk off d->blk<w.heap.size->d.size<4611686018427387904->Calls P f #[.slice (δ ⟨blk,off,μ⟩) d.size cap,.func (.func g) #[] #[]] w λe w'=>
   e=.returned (.tuple #[])/\∃n os,w'=sortWorldK enc sz w blk off n (pdq (λx y=>decide (cf x y<0)) d 0 d.size (Xf d.size) θ θ) os)
  (hsize:∀d:Array α,(pdq (λx y=>decide (cf x y<0)) d 0 d.size (Xf d.size) θ θ).size=d.size)
  {x:AV} {σ:Heap} {r:AV} {σ':Heap} (hm:A.M9 sz c cf x σ=δ (r,σ')) {n:Nat} (hn:∀f,nm.getD f 0=n->f=g):rE P nm f [x,.fn n []] σ r σ':=by
 refine .inl ⟨f,hf,λz vs e1 e2 hh ha=>?_⟩;obtain⟨v,u,rfl,r1,r2⟩:=M6 ha;simp only[ay]at r2;obtain⟨f',us,rfl,k1,k2⟩:=r2;have hf':f'=g:=hn f' (by rw[<-e1];exact k1);have OM:us=#[]:=by simp only[aX]at k2;exact oI.1 k2
 subst hf' OM;have hout:Out z z.w z.E:=⟨rfl,rfl,rfl,bN _,λ_ _ _=>rfl,λi p hp=>.inr ⟨p,hp,rfl⟩,λi p hp=>⟨p,hp,.inl rfl⟩,e2,λp hp=>hh.lt hp⟩
 unfold A.M9 at hm;cases x<;>simp only at hm<;>first|(cases hm;done)|skip
 case aA=>
  simp only[Θ,T4]at hm;obtain⟨rfl,rfl⟩:=hm;simp only[ay]at r1;subst r1;refine(hnone z.w).mono ?_;rintro e w' ⟨rfl,hb⟩;exact⟨_,z.E,rfl,hout.grow hb,hh.mono (zm hb) rfl (λp hp=>hb.block _ (hh.lt hp)),by simp [ay,aX]⟩
 case os=>
  rename_i id gg je off len;simp only[ay]at r1;obtain⟨hg,p,k3,k4,qa,cap,rfl,hcap,rx⟩:=r1;split at hm
  ·rename_i g' sz' es hs;split at hm
   ·rename_i hc;obtain⟨⟨c1,c2,c3,c4,c5,c6⟩,c7⟩:=hc;subst c1;subst c2;subst c3;simp only[Θ,T4]at hm;obtain⟨rfl,rfl⟩:=hm;have hl:=Vm c7;generalize To c7=l at hl ⊢;obtain⟨j1,j2,j3,j4,⟨arr,bt,j5,j6⟩,j7,j8,j9⟩:=hh.blk id p _ k3 hs;obtain⟨q1,q2,q3⟩:=rx j1.symm;have Br:qa=⟨p.b,p.base+off*p.sz,μ⟩:=q2.resolve_left (by omega)
    have vT:l.length=len:=by have:=congrArg WD hl;simp at this;omega
    have hmul:(off+len)*je<=es.length*je:=tM _ c4;rw[iG]at hmul;have CA:z.w.heap[p.b]? =δ (.cells arr bt (0,0)):=j5;have hlt:p.b<z.w.heap.size:=(mP.1 CA).1;have axA:p.sz=je:=q1
    have aui:HoldsK enc je z.w p.b (p.base+off*je) l.toArray:=by
     intro t ht;simp only[size_flatK,Zs]at ht;rw[get_flatK _ _ _ _ (by simpa using ht)];have vW:t / je<l.length:=by rw[aDC hsz];exact ht
     have qJ:es[off+t / je]? =δ (c l[t / je]):=by
      have h1:((es.drop off).take len)[t / je]? =(l.map c)[t / je]? :=by rw[hl]
      rw[WG (by omega),ZW,uz,cC vW]at h1;exact h1
     obtain⟨_,m2⟩:=cA.nth j8 qJ;obtain⟨vs,m3,m4,m5⟩:=m2.O4;have m6:=avC _ _ _ m3;subst m6;have hmod:t % je<(enc l[t / je]).length:=by rw[<-(Fo (ctx z z.w z.E eW) _).length,iI];exact Nat.mod_lt _ hsz
     have m7:=m5 (t % je) _ (cC hmod)
     have e:p.base+(off+t / je)*je+t % je=p.base+off*je+t:=by have:=Nat.div_add_mod t je;rw[iG,ZF (t / je)];omega
     rw[e]at m7;refine⟨?_,by simp [World.frozen?,CA]⟩;rw[show z.w.cell? ⟨p.b,p.base+off*je+t,μ⟩=_ from m7];simp [vW,hmod]
    have DG:=avu p.b (p.base+off*je) cap l.toArray z.w aui hlt (by simpa [vT]using c6);rw[Br,axA];simp only[Zs,vT]at DG;refine DG.mono ?_;rintro e w' ⟨rfl,nn,os,rfl⟩;have hd':=hsize l.toArray;simp only[Zs,vT]at hd';generalize uS:pdq (λx y=>decide (cf x y<0)) l.toArray 0 len (Xf len) θ θ=d' at hd' ⊢;have hsw:=abq (enc:=enc) (k:=je) (λx=>by rw[<-(Fo (ctx z z.w z.E eW) x).length,iI]) (w:=z.w) (b:=p.b) (off:=p.base+off*je) (n:=nn) (d:=l.toArray) (d':=d') (os:=os) (by rw[hd'];simp [vT]) CA (by simp [vT];rw[j6];omega)
    have axF:St ⟨P,nm,λ_ _ _=>μ,λ_ _ _=>μ,[],[],0,[]⟩ z ⟨[],λ_=>μ,σ⟩ {tmps:=#[],defers:=[]} z.w z.E eW:=
     ⟨rfl,rfl,λi av hi=>by simp at hi,λi cs hi=>by simp at hi,λt p hp=>(by cases hp),λi b hb=>(by cases hb),λi j b hb=>(by cases hb),hh,rfl,hout,e1.symm⟩
    have hnl:(d'.toList.map c).length=len:=by rw[X1,Y8,hd']
    obtain⟨_,hst⟩:=Q5 axF (i:=off) (ys:=d'.toList.map c) (news:=d'.toList.flatMap enc) k3 hs j5 (by rw[hnl];exact c4) (by
      generalize d'.toList=l';induction l' with
      |nil=>simp [aX]
      |cons x l' ih=>simp only[eP,XS,Xm];exact(Fo _ x).append ih)
     (λx hx=>by obtain⟨y,_,hy⟩:=aDl.1 hx;exact hone y x hy) (λy hy=>by obtain⟨x,_,rfl⟩:=gh.1 hy;exact iI x)
     (by
      have:∀l:List α,(l.flatMap enc).length=l.length*je:=by
       intro l;induction l with
       |nil=>simp
       |cons x l ih=>simp only[Xm,ZY,ih,<-(Fo (ctx z z.w z.E eW) x).length,iI,YZ,iG];omega
      rw[this,X1])
    have Ba:=hst.grow (w':=sortWorldK enc je z.w p.b (p.base+off*je) nn d' os) (by rw[zk];exact hsw);refine⟨_,z.E,rfl,Ba.out,?_,by simp [ay,aX]⟩;have SY:qx cf l=d'.toList:=by unfold qx;rw[vT,uS]
    rw[hnl]at Ba;rw[SY];exact Ba.heap
   ·cases hm
  ·cases hm
def Az(x:bB):List Value:=[.int ξ x.key.unit,.string x.key.param,.int ξ x.value.level,.int ξ x.value.fQ,.int ξ x.cK]
theorem Ms{W:World}{o1 o2:Obj}:∃q os',(W.alloc o1).alloc o2=grow (W.drewN q) os':=⟨0,_,by rw[alloc_eq_grow,alloc_eq_grow,grow_grow];rfl⟩
theorem apk{W:World}{o1 o2:Obj}{q:Nat}{os:Array Obj}:∃q' os',grow (((W.alloc o1).alloc o2).drewN q) os=grow (W.drewN q') os':=⟨q,_,by rw[alloc_eq_grow,alloc_eq_grow,grow_grow];show grow (grow (W.drewN q) _) os=_;rw[grow_grow]⟩
theorem alV(a b:aC)(W:World):Calls Tryz.prog 203 #[.agg #[.int ξ a.unit,.string a.param],.agg #[.int ξ b.unit,.string b.param]] W λe w'=>e=.returned (.int ξ (nM a b))/\∃q os',w'=grow (W.drewN q) os':=by
 have DG:=λ(x y:ByteArray)W'=>Tryz.strings_Compare x y W'
 go_enter Tryz.func203,Tryz.ntmps203
 go_wp2_with (go_at_call 61;refine(DG _ _ _).mono ?_;rintro e w' ⟨rfl,rfl⟩)
 ·go_ret
  have h1:a.unit≠b.unit:=by omega
  exact⟨by rw[nM,aP h1,aP (by omega)];rfl,Ms⟩
 ·go_ret
  have h1:a.unit≠b.unit:=by simpa using ‹(a.unit !=b.unit)=θ›
  exact⟨by rw[nM,aP h1,aO (by omega)];rfl,Ms⟩
 ·go_ret
  have h1:a.unit=b.unit:=by first|simpa using ‹(a.unit !=b.unit)=ι›|simpa using ‹¬(a.unit !=b.unit)=θ›|omega
  exact⟨by rw[nM,aO (by simpa using h1)];rfl,Ms⟩
theorem apT(cc:RC)(x:bB):aX cc (bJ x) (Az x):=by obtain⟨⟨a,b⟩,⟨p,q⟩,r⟩:=x;simp [bJ,Az,aX,ay]
theorem aoH(cc:RC)(x:bB)(vs:List Value)(e:aX cc (bJ x) vs):vs=Az x:=by obtain⟨⟨a,b⟩,⟨p,q⟩,r⟩:=x;simpa [bJ,Az,aX,ay]using e
theorem adw(x:bB)(v:Value)(h:v∈Az x):fS v=θ/\v.oneCell'=θ:=by simp [Az]at h;rcases h with rfl|rfl|rfl|rfl|rfl<;>exact⟨rfl,rfl⟩
theorem aeJ{α:Type}[Inhabited α]{cf:α->α->Int}(hS:SWO (λx y=>decide (cf x y<0))) (d:Array α):(pdq (λx y=>decide (cf x y<0)) d 0 d.size (Xf d.size) θ θ).size=d.size:=
 (pdq_sorts (λx y=>decide (cf x y<0)) hS d 0 d.size (Xf d.size) θ θ (kW _) (bN _) (Or.inl rfl)).1.1
theorem alH(a b:bB)(W:World):Calls Tryz.prog 202 #[.agg (Az a).toArray,.agg (Az b).toArray] W λe w'=>e=.returned (.int ξ (nM a.key b.key))/\∃q os',w'=grow (W.drewN q) os':=by
 have DG:=λW'=>alV a.key b.key W'
 unfold Az;generalize nM a.key b.key=r at DG ⊢
 go_enter Tryz.func202,Tryz.ntmps202
 go_wp2_with (go_at_call 203;refine(DG _).mono ?_;rintro e w' ⟨rfl,q,os',rfl⟩)
 go_ret
 exact⟨rfl,apk⟩
theorem aif:Sound Tryz.prog aN 201 Lo:=by
 intro args σ r σ' h;unfold Lo Xw at h;split at h
 ·rename_i x f aL;simp only at h;split at h
  ·have eg:∀args w,(callFunc 202 args).run Tryz.prog w=.ok (.enter 202 args) w:=Tryz.call202;refine @aoD Tryz.prog aN 201 202 bB ⟨⟨⟨0,⟨#[]⟩⟩,⟨0,0⟩,0⟩⟩ 5 bJ Az (λa b=>nM a.key b.key) (by decide) (λx y e=>?_) (λ_=>rfl) (λcc x=>?_) (λcc x vs e=>?_) (λx v hv=>?_) Tryz.call201 (λw=>?_) (λblk off cap d w hH hb hd=>?_) (λd=>?_) _ _ _ _ h _ (λf hf=>R6 (by kernel_rfl) rfl hf)
   ·exact ab2 x y e
   ·exact apT cc x
   ·exact aoH cc x vs e
   ·exact(adw x v hv).1
   ·exact(AnyF.slices_SortFunc_none (P:=Tryz.prog) {Tryz.sort201 with} μ 0 _ w).mono λe w'⟨h1,h2⟩=>⟨h1,h2▸Below.refl _ _⟩
   ·exact AnyQ.slices_SortFunc_eq Tryz.sort201 5 Tryz.isAgg221 Tryz.sizeOf221 Az (λ_=>rfl) (λx v hv=>(adw x v hv).2) (λa b=>nM a.key b.key) (AH λe:bB=>e.key) 202 #[] blk off cap d w eg (λ_ _ _ _ x y=>alH x y _) hH hb hd
   ·exact aeJ (AH λe:bB=>e.key) d
  ·cases h
 ·cases h
end
section
def HP:=(Nat->Option aW)->Prop
namespace HP
def emp:HP:=λh=>∀i,h i=μ
def blk(id:Nat)(b:aW):HP:=λh=>∀i,h i=if i=id then δ b else μ
def star(P Q:HP):HP:=λh=>∃f g,P f/\Q g/\(∀i,f i=μ\/g i=μ)/\∀i,h i=(f i).or (g i)
def pr(p:Prop):HP:=λh=>p/\∀i,h i=μ
def ex{α:Type}(P:α->HP):HP:=λh=>∃x,P x h
instance : Mul HP := ⟨star⟩
theorem adW(P Q:HP):P*Q=Q*P:=by
 have key:∀P Q:HP,∀h,(P*Q) h->(Q*P) h:=by rintro P Q h ⟨f,g,hf,hg,hd,hh⟩;refine⟨g,f,hg,hf,λi=>(hd i).symm,λi=>?_⟩;rw[hh i];rcases hd i with e|e<;>rw[e]<;>simp
 funext h;exact propext ⟨key P Q h,key Q P h⟩
theorem xY(P Q R:HP):P*Q*R=P*(Q*R):=by
 funext h;apply propext;constructor
 ·rintro⟨f,g,⟨f1,f2,h1,h2,OF,hf⟩,hg,hd,hh⟩;refine⟨f1,λi=>(f2 i).or (g i),h1,⟨f2,g,h2,hg,λi=>?_,λi=>rfl⟩,λi=>?_,λi=>?_⟩
  ·have:=hd i;rw[hf i]at this;rcases this with e|e
   ·cases h:f1 i<;>simp [h]at e<;>exact .inl e
   ·exact .inr e
  ·have a:=hd i;have b:=OF i;rw[hf i]at a;rcases b with b|b
   ·exact .inl b
   ·rcases a with a|a
    ·cases h:f1 i<;>simp [h]at a;exact .inl rfl
    ·exact .inr (show(f2 i).or (g i)=μ by rw[b,a];rfl)
  ·rw[hh i,hf i];cases f1 i<;>simp
 ·rintro⟨f,g,hf,⟨g1,g2,h1,h2,OF,hg⟩,hd,hh⟩;refine⟨λi=>(f i).or (g1 i),g2,⟨f,g1,hf,h1,λi=>?_,λi=>rfl⟩,h2,λi=>?_,λi=>?_⟩
  ·have:=hd i;rw[hg i]at this;rcases this with e|e
   ·exact .inl e
   ·cases h:g1 i<;>simp [h]at e;exact .inr rfl
  ·have a:=hd i;have b:=OF i;rw[hg i]at a;rcases b with b|b
   ·rcases a with a|a
    ·exact .inl (show(f i).or (g1 i)=μ by rw[a,b];rfl)
    ·rw[b]at a;exact .inr (by simpa using a)
   ·exact .inr b
  ·show h i=((f i).or (g1 i)).or (g2 i);rw[hh i,hg i];cases f i<;>simp
theorem CT(P:HP):emp*P=P:=by
 funext h;apply propext;constructor
 ·rintro⟨f,g,hf,hg,hd,hh⟩;have:h=g:=by funext i;rw[hh i,hf i];rfl
  rw[this];exact hg
 ·intro hp;exact⟨λ_=>μ,h,λ_=>rfl,hp,λ_=>.inl rfl,λi=>by simp⟩
theorem arx(P:HP):P*emp=P:=by rw[adW,CT]
instance : Std.Associative (α := HP) (· * ·) := ⟨xY⟩
instance : Std.Commutative (α := HP) (· * ·) := ⟨adW⟩
end HP
open HP
structure Hs (B : aW -> Prop) (aL σ : Heap) (P : HP) : Prop where
 pre:∃bs,σ=aL++bs/\∀b∈bs,B b
 own:∃h,P h/\∀i b,h i=δ b->aL.length<=i/\σ[i]? =δ b
def dV:aW->Prop:=λ_=>True
section
variable {B : aW -> Prop} {aL σ : Heap} {P Q R : HP} {id : Nat} {b b' : aW}
theorem eS(e:P=Q)(H:Hs B aL σ P):Hs B aL σ Q:=e▸H
theorem afq(k:∀h,P h->Q h)(H:Hs B aL σ (P*R)):Hs B aL σ (Q*R):=by obtain⟨h1,h,⟨f,g,hf,hg,hd,hh⟩,h2⟩:=H;exact⟨h1,h,⟨f,g,k f hf,hg,hd,hh⟩,h2⟩
theorem yp(H:Hs B aL σ (P*R)):Hs B aL σ R:=by
 obtain⟨h1,h,⟨f,g,hf,hg,hd,hh⟩,h2⟩:=H;refine⟨h1,g,hg,λi b hb=>h2 i b ?_⟩;rw[hh i];rcases hd i with e|e
 ·rw[e,hb];rfl
 ·rw[e]at hb;cases hb
theorem p9{p:Prop}:Hs B aL σ (pr p*R)↔p/\Hs B aL σ R:=by
 constructor
 ·intro H;refine⟨?_,yp H⟩;obtain⟨h1,h,⟨f,g,hf,hg,hd,hh⟩,h2⟩:=H;exact hf.1
 ·rintro⟨hp,h1,h,hr,h2⟩;exact⟨h1,h,⟨λ_=>μ,h,⟨hp,λ_=>rfl⟩,hr,λ_=>.inl rfl,λi=>by simp⟩,h2⟩
theorem Sg{α:Type}{P:α->HP}:Hs B aL σ (ex P*R)↔∃x,Hs B aL σ (P x*R):=by
 constructor
 ·rintro⟨h1,h,⟨f,g,⟨x,hf⟩,hg,hd,hh⟩,h2⟩;exact⟨x,h1,h,⟨f,g,hf,hg,hd,hh⟩,h2⟩
 ·rintro⟨x,h1,h,⟨f,g,hf,hg,hd,hh⟩,h2⟩;exact⟨h1,h,⟨f,g,⟨x,hf⟩,hg,hd,hh⟩,h2⟩
theorem C7(σ:Heap):Hs B σ σ emp:=⟨⟨[],by simp,by simp⟩,λ_=>μ,λ_=>rfl,λ_ _ h=>by cases h⟩
theorem XL(H:Hs B aL σ P):aL.length<=σ.length:=by obtain⟨⟨bs,rfl,_⟩,_⟩:=H;simp
theorem jO(H:Hs B aL σ (blk id b*R)):aL.length<=id/\σ[id]? =δ b:=by obtain⟨h1,h,⟨f,g,hf,hg,hd,hh⟩,h2⟩:=H;exact h2 id b (by rw[hh id,hf id];simp)
theorem Zd(H:Hs B aL σ (blk id b*R)):B b:=by obtain⟨h1,h2⟩:=jO H;obtain⟨⟨bs,rfl,hb⟩,_⟩:=H;rw[jq h1]at h2;exact hb b (dm h2)
theorem AM(H:Hs B aL σ (blk id b*R))(hb:B b'):Hs B aL (σ.set id b') (blk id b'*R):=by
 obtain⟨hid,kR⟩:=jO H;have hlt:=(bG.1 kR).1;obtain⟨⟨bs,rfl,hB⟩,h,⟨f,g,hf,hg,hd,hh⟩,h2⟩:=H;refine⟨⟨bs.set (id-aL.length) b',by rw[sy _ _ hid],λx hx=>?_⟩,λi=>if i=id then δ b' else g i,⟨λi=>if i=id then δ b' else μ,g,λi=>rfl,hg,λi=>?_,λi=>?_⟩,λi x hx=>?_⟩
 ·rcases List.mem_or_eq_of_mem_set hx with hx|hx
  ·exact hB x hx
  ·subst hx;exact hb
 ·have:=hd i;rw[hf i]at this;by_cases e:i=id
  ·simp only[e,if_true]at this ⊢;rcases this with h|h
   ·cases h
   ·exact .inr h
  ·simp [e]
 ·by_cases e:i=id<;>simp [e]
 ·by_cases e:i=id
  ·subst e;simp only[if_true,Θ]at hx;subst hx;exact⟨hid,by rw[nv hlt]⟩
  ·simp only[e,if_false]at hx;rw[XX (λe'=>e e'.symm)];have:=h2 i x (by rw[hh i,hf i];simp [e,hx]);exact this
theorem GJ(H:Hs B aL σ R)(hb:B b):Hs B aL (σ++[b]) (blk σ.length b*R):=by
 have hl:=XL H;obtain⟨⟨bs,rfl,hB⟩,h,hr,h2⟩:=H;have hn:∀i x,h i=δ x->i<(aL++bs).length:=λi x hx=>(bG.1 (h2 i x hx).2).1
 refine⟨⟨bs++[b],by simp,λx hx=>?_⟩,λi=>if i=(aL++bs).length then δ b else h i,⟨λi=>if i=(aL++bs).length then δ b else μ,h,λi=>rfl,hr,λi=>?_,λi=>?_⟩,λi x hx=>?_⟩
 ·rcases jQ.1 hx with hx|hx
  ·exact hB x hx
  ·simp at hx;subst hx;exact hb
 ·by_cases e:i=(aL++bs).length
  ·right;cases hi:h i with
   |none=>rfl
   |some x=>have:=hn i x hi;omega
  ·simp only[e,if_false,true_or]
 ·by_cases e:i=(aL++bs).length<;>simp only[e,if_true,if_false,Option.or_some,Option.none_or,Option.some_or]
 ·by_cases e:i=(aL++bs).length
  ·subst e;simp only[if_true,Θ]at hx;subst hx;exact⟨hl,by simp⟩
  ·simp only[e,if_false]at hx;obtain⟨k1,k2⟩:=h2 i x hx;exact⟨k1,by rw[iS (hn i x hx)];exact k2⟩
end
section
variable {α : Type} {E : aq -> α -> HP} {B : aW -> Prop} {aL σ : Heap} {R : HP}
def els(E:aq->α->HP):List aq->List α->HP
 |[],[]=>emp
 |e::es,x::l=>E e x*els E es l
 |_,_=>pr False
theorem RF:∀{es:List aq}{l:List α}{R:HP},Hs B aL σ (els E es l*R)->es.length=l.length
 |[],[],_,_=>rfl
 |[],_::_,_,H=>(p9.1 H).1.elim
 |_::_,[],_,H=>(p9.1 H).1.elim
 |e::es,x::l,R,H=>by have:=RF (es:=es) (l:=l) (R:=E e x*R) (eS (by rw[els];ac_rfl) H);simp [this]
theorem GB:∀{Aj vO:List aq}{l1 l2:List α},Aj.length=l1.length->els E (Aj++vO) (l1++l2)=els E Aj l1*els E vO l2
 |[],vO,[],l2,_=>by rw[els,CT];rfl
 |e::Aj,vO,x::l1,l2,h=>by simp only[oJ,els];rw[GB (by simpa using h)];ac_rfl
theorem aCE(e:aq)(x:α):els E [e] [x]=E e x:=by rw[els,els,arx]
theorem at8{es:List aq}{l:List α}{i:Nat}{e:aq}{x:α}(hl:es.length=l.length)(he:es[i]? =δ e)(hx:l[i]? =δ x):els E es l=els E (es.eraseIdx i) (l.eraseIdx i)*E e x:=by
 have h1:=(bG.1 he).1;have h2:=(bG.1 hx).1
 have e1:es=es.take i++e::es.drop (i+1):=by rw[<-(bG.1 he).2,aD6,YN]
 have e2:l=l.take i++x::l.drop (i+1):=by rw[<-(bG.1 hx).2,aD6,YN]
 conv=>lhs;rw[e1,e2]
 rw[GB (by simp;omega),els,Ty,Ty,GB (by simp;omega)];ac_rfl
def fl(c:α->aq):aq->α->HP:=λe x=>pr (e=c x)
theorem RZ{c:α->aq}:∀{es:List aq}{l:List α}{R:HP},Hs B aL σ (els (fl c) es l*R)↔es=l.map c/\Hs B aL σ R
 |[],[],R=>by rw[els,CT];simp
 |[],x::l,R=>by show Hs B aL σ (pr False*R)↔_;rw[p9];simp
 |e::es,[],R=>by show Hs B aL σ (pr False*R)↔_;rw[p9];simp
 |e::es,x::l,R=>by rw[els,fl,xY,p9,RZ,eP,aCW,and_assoc]
def Sl(E:aq->α->HP)(sz:Nat)(v:AV)(l:List α):HP:=λh=>(l=[]/\(v=.aA\/v=.ez)/\emp h)\/∃id g seg,v=.os id g sz 0 l.length/\(blk id (.arr g sz seg)*els E seg l) h
variable {sz : Nat} {v : AV} {l : List α}
theorem AD(H:Hs B aL σ (Sl E sz v l*R)):(l=[]/\(v=.aA\/v=.ez)/\Hs B aL σ R)\/∃id g seg,v=.os id g sz 0 l.length/\seg.length=l.length/\Hs B aL σ (blk id (.arr g sz seg)*(els E seg l*R)):=by
 have H2:=yp H;obtain⟨h1,h,⟨f,g,hf,hg,hd,hh⟩,h2⟩:=H;rcases hf with⟨k1,k2,k3⟩|⟨id,gg,seg,k1,k2⟩
 ·exact .inl ⟨k1,k2,H2⟩
 ·have K:Hs B aL σ (blk id (.arr gg sz seg)*(els E seg l*R)):=eS (xY _ _ _) ⟨h1,h,⟨f,g,k2,hg,hd,hh⟩,h2⟩;exact .inr ⟨id,gg,seg,k1,RF (R:=blk id (.arr gg sz seg)*R) (eS (by ac_rfl) K),K⟩
theorem sV(H:Hs B aL σ R)(hv:v=.aA\/v=.ez):Hs B aL σ (Sl E sz v []*R):=
 afq (P:=emp) (λh k=>.inl ⟨rfl,hv,k⟩) (eS (CT R).symm H)
theorem GR{id g:Nat}{seg:List aq}{n:Nat}(H:Hs B aL σ (blk id (.arr g sz seg)*(els E seg l*R)))(hn:n=l.length:=by rfl):Hs B aL σ (Sl E sz (.os id g sz 0 n) l*R):=
 afq (P:=blk id (.arr g sz seg)*els E seg l) (λh k=>.inr ⟨id,g,seg,by rw[hn],k⟩) (eS (xY _ _ _).symm H)
theorem auP(H:Hs B aL σ (Sl E sz v l*R)):UY v=δ (.ah l.length):=by rcases AD H with⟨rfl,rfl|rfl,_⟩|⟨id,g,seg,rfl,_⟩<;>rfl
theorem J6{ys:List aq}{xs:List α}{most:Nat}(H:Hs B aL σ (Sl E sz v l*(els E ys xs*R)))(hm:l.length+xs.length<=most)(hB:∀g g' seg,(seg=[]\/B (.arr g sz seg))->B (.arr g' sz (seg++ys))):
  ∃v' σ',WK sz most v (.sl sz ys) σ=δ (v',σ')/\Hs B aL σ' (Sl E sz v' (l++xs)*R):=by
 rcases AD H with⟨rfl,hv,H⟩|⟨id,g,seg,rfl,hl,H⟩
 ·have hxl:=RF H;by_cases hy:ys=[]
  ·subst hy;have:xs=[]:=xC (by simpa using hxl.symm);subst this;refine⟨v,σ,?_,sV (yp H) hv⟩;rcases hv with rfl|rfl<;>simp [WK,VB,A.p6]
  ·refine⟨.os σ.length ys.length sz 0 ys.length,σ++[.arr ys.length sz ys],?_,?_⟩
   ·have:ys.length<=most:=by simp at hm;omega
    rcases hv with rfl|rfl<;>simp [WK,VB,A.p6,hy,this]
   ·have H2:=GJ H (by simpa using hB 0 ys.length [] (.inl rfl):B (.arr ys.length sz ys));exact GR H2 (by simpa using hxl)
 ·have hxl:=RF (eS (show _=els E ys xs*(blk id (.arr g sz seg)*(els E seg l*R)) by ac_rfl) H);obtain⟨h1,h2⟩:=jO H;by_cases hy:ys=[]
  ·subst hy;have:xs=[]:=xC (by simpa using hxl.symm);subst this;refine⟨.os id g sz 0 l.length,σ,?_,?_⟩
   ·have:l.length<=most:=by simpa using hm
    simp [WK,VB,A.p6,h2,hl,this]
   ·rw[VT];exact GR (eS (by rw[els,CT]) H)
  ·have hp:0<ys.length:=List.length_pos_iff.2 hy;refine⟨.os id (g+ys.length) sz 0 (l.length+ys.length),σ.set id (.arr (g+ys.length) sz (seg++ys)),?_,?_⟩
   ·have e1:l.length+ys.length<=most:=by omega
    have e2:seg.take l.length=seg:=n9 (by omega);simp [WK,VB,A.p6,h2,hl,e1,hy,e2,hp]
   ·have H2:=AM (b':=.arr (g+ys.length) sz (seg++ys)) H (hB g _ seg (.inr (Zd H)));exact GR (id:=id) (g:=g+ys.length) (seg:=seg++ys) (eS (by rw[GB hl];ac_rfl) H2) (by simp;omega)
end
end
section
open HP
def Fq (sz most:Nat) (zs:aq) (En:aq->Heap->aF) (a0 a1 a2:AV) (σ:Heap):aF:=(Wf sz a0 (δ a1) μ σ).bind λx1=>(UY a2).bind λx2=>(ZA .i x2 (ε 0)).bind λx3=>φ x3 (ZD [a0,a1,a2] σ a0 σ) ((UY a0).bind λx4=>(ZA .i a1 x4).bind λx5=>φ x5 ((WK sz most a0 a2 σ).bind λr6=>ZD [a0,a1,a2] σ r6.1 r6.2) ((WE x4 x2).bind λx7=>A.Fc (A.NF a0) (λx8=>(YK x7 x8).bind λx9=>φ x9 ((Wf sz a0 μ (δ a1) σ).bind λbl=>(WE x4 x2).bind λbT=>(Uk bT a1).bind λbR=>(A.AF sz most zs bl bR σ).bind λjU=>(Wf sz jU.1 (δ a1) μ jU.2).bind λbW=>(A.n5 sz bW a2 jU.2).bind λjd=>(WE a1 x2).bind λbO=>(Wf sz jU.1 (δ bO) μ jd.2).bind λcg=>(Wf sz a0 (δ a1) μ jd.2).bind λcQ=>(A.n5 sz cg cQ jd.2).bind λkN=>ZD [a0,a1,a2] σ jU.1 kN.2) ((WE x4 x2).bind λcS=>(Wf sz a0 μ (δ cS) σ).bind λbL=>(WE a1 x2).bind λcI=>(Wf sz bL (δ cI) μ σ).bind λep=>(BD [a2,ep] σ).bind λkO=>(Wk kO.1).bind λx25=>φ x25 ((WE a1 x2).bind λfH=>(Wf sz bL (δ fH) μ kO.2).bind λfB=>(Wf sz bL (δ a1) μ kO.2).bind λx28=>(A.n5 sz fB x28 kO.2).bind λnW=>(Wf sz bL (δ a1) μ nW.2).bind λef=>(A.n5 sz ef a2 nW.2).bind λpe=>ZD [a0,a1,a2] σ bL pe.2) ((Wf sz bL (δ x4) μ kO.2).bind λx32=>(A.n5 sz x32 a2 kO.2).bind λkY=>(Wf sz bL (δ a1) μ kY.2).bind λx34=>(En [x34,x2] kY.2).bind λEj=>ZD [a0,a1,a2] σ bL Ej.2))) (A.Fe a0 σ λn36 nH=>(YK x7 (ε n36)).bind λx38=>φ x38 ((Wf sz a0 μ (δ a1) nH).bind λiu=>(WE x4 x2).bind λgn=>(Uk gn a1).bind λfD=>(A.AF sz most zs iu fD nH).bind λBx=>(Wf sz Bx.1 (δ a1) μ Bx.2).bind λgL=>(A.n5 sz gL a2 Bx.2).bind λeG=>(WE a1 x2).bind λfE=>(Wf sz Bx.1 (δ fE) μ eG.2).bind λiZ=>(Wf sz a0 (δ a1) μ eG.2).bind λjf=>(A.n5 sz iZ jf eG.2).bind λpR=>ZD [a0,a1,a2] σ Bx.1 pR.2) ((WE x4 x2).bind λgu=>(Wf sz a0 μ (δ gu) nH).bind λjg=>(WE a1 x2).bind λgM=>(Wf sz jg (δ gM) μ nH).bind λgp=>(BD [a2,gp] nH).bind λgm=>(Wk gm.1).bind λkJ=>φ kJ ((WE a1 x2).bind λkV=>(Wf sz jg (δ kV) μ gm.2).bind λjC=>(Wf sz jg (δ a1) μ gm.2).bind λlQ=>(A.n5 sz jC lQ gm.2).bind λxR=>(Wf sz jg (δ a1) μ xR.2).bind λi6=>(A.n5 sz i6 a2 xR.2).bind λLa=>ZD [a0,a1,a2] σ jg La.2) ((Wf sz jg (δ x4) μ gm.2).bind λkn=>(A.n5 sz kn a2 gm.2).bind λuV=>(Wf sz jg (δ a1) μ uV.2).bind λfK=>(En [fK,x2] uV.2).bind λr64=>ZD [a0,a1,a2] σ jg r64.2)))))
def aBd (sz most:Nat) (zs:aq) (a0 a1 a2:AV) (σ:Heap):aF:=(UY a0).bind λx1=>(A.slice3 a0 (δ a1) a2 x1).bind λx2=>(ZA .i a1 a2).bind λx3=>φ x3 (ZD [a0,a1,a2] σ a0 σ) ((UY a0).bind λx4=>(Wf sz a0 μ (δ a1) σ).bind λx5=>(Wf sz a0 (δ a2) μ σ).bind λx6=>(WK sz most x5 x6 σ).bind λr7=>(UY r7.1).bind λx8=>(Wf sz r7.1 (δ x8) (δ x4) r7.2).bind λx9=>(A.GG sz zs x9 r7.2).bind λD7=>ZD [a0,a1,a2] σ r7.1 D7)
section
variable {σ : Heap} {id g sz off len : Nat} {es : List aq}
theorem dL{α:Type}{X Y:Option α}:φ (.bool θ) X Y=X:=rfl
theorem dD{α:Type}{X Y:Option α}:φ (.bool ι) X Y=Y:=rfl
theorem arX{R:Type}{k:AV->Option R}{u:Option R}:A.Fc (A.NF (.os id g sz off len)) k u=u:=rfl
theorem sj{y d k:Nat}(h:k<=y):Wb y d (δ (.ah (k:Int)))=δ k:=by
 have:(k:Int)<=y:=by omega
 simp [Wb,this]
theorem wz{y d:Nat}:Wb y d μ=δ d:=rfl
theorem zq(h:σ[id]? =δ (.arr g sz es))(hl:off+len<=es.length):aDD σ id g sz off len=es.length-off:=by simp [aDD,h,hl]
theorem adH(h:σ[id]? =δ (.sB g sz es)):aDD σ id g sz off len=len:=by simp [aDD,h]
theorem xS{lo hi:Option AV}{r h l:Nat}(hr:aDD σ id g sz off len=r)(hh:Wb r len hi=δ h)(hl:Wb h 0 lo=δ l):Wf sz (.os id g sz off len) lo hi σ=δ (.os id g sz (off+l) (h-l)):=by simp [Wf,hr,hh,hl]
theorem XC{a b:Nat}(h:a+b<9223372036854775808):WE (.ah (a:Int)) (.ah (b:Int))=δ (.ah ((a+b:Nat):Int)):=by rw[nQ,cq (by unfold aY;omega)];simp
theorem auS{a b:Nat}(h:b<=a)(h2:a<9223372036854775808):Uk (.ah (a:Int)) (.ah (b:Int))=δ (.ah ((a-b:Nat):Int)):=by rw[tP,cq (by unfold aY;omega),Int.ofNat_sub h]
theorem XW(a b:Nat):ZA .i (.ah (a:Int)) (.ah (b:Int))=δ (.bool (decide (a=b))):=by rw[jL];have:((a:Int)=(b:Int))=(a=b):=propext ⟨λh=>by omega,λh=>by omega⟩;simp only[this]
theorem af3{R:Type}{p:Nat->Prop}{k:Nat->Option R}{r:R}(n:Nat)(hn:p n)(h:∀n,p n->k n=δ r):A.all p k=δ r:=by
 have hx:∃r,∀n,p n->k n=δ r:=⟨r,h⟩
 unfold A.all;rw[dif_pos hx];have:=Vm hx n hn;rw[h n hn]at this;injection this with this
 rw[<-this]
theorem RD{σ:Heap}{y:AV}{ys:List aq}(h:σ[id]? =δ (.arr g sz es))(hl:off+len<=es.length)(hy:VB sz y σ=δ ys)(h0:ys.length≠0)(h1:len≠0):
  A.n5 sz (.os id g sz off len) y σ=δ (.ah (ys.take len).length,σ.set id (.arr g sz (es.take off++ys.take len++es.drop (off+(ys.take len).length)))):=by
 simp only[A.n5,hy,aJ,h];rw[aP (by simp [hl]),aO (by simp only[not_or];exact⟨h0,h1⟩)]
theorem aed(h:σ[id]? =δ (.arr g sz es))(hl:off+len<=es.length):VB sz (.os id g sz off len) σ=δ ((es.drop off).take len):=by simp [VB,h,hl]
theorem apa(h:σ[id]? =δ (.sB g sz es))(hl:off+len<=es.length):VB sz (.os id g sz off len) σ=δ ((es.drop off).take len):=by simp [VB,h,hl]
end
section
variable {α : Type} {E : aq -> α -> HP} {aL σ : Heap} {R : HP} {sz most : Nat} {zs : aq} {En : aq -> Heap -> aF} {v : AV} {l : List α} {y : α} {ye : aq} {i : Nat}
theorem afl(id g n:Nat)(i:AV)(hi:∃k:Int,i=.ah k):XD [.os id g sz 0 n,i,.sl sz [ye]]=g+n+1:=by obtain⟨k,rfl⟩:=hi;simp [XD]
theorem asO{id g n:Nat}{seg:List aq}(hs:σ[id]? =δ (.arr g sz seg))(hl:seg.length=n)(hi:i<n)(hm:n+1<=most)(hb:n<4611686018427387904):
  Fq sz most zs En (.os id g sz 0 n) (.ah (i:Int)) (.sl sz [ye]) σ=δ (.os id (g+n+2) sz 0 (n+1),σ.set id (.arr (g+n+2) sz (seg.take i++[ye]++seg.drop i))):=by
 have hid:=(bG.1 hs).1;have DH:XD [.os id g sz 0 n,.ah (i:Int),.sl sz [ye]]=g+n+1:=afl id g n _ ⟨_,rfl⟩;unfold Fq;rw[xS (zq hs (by omega)) wz (sj (k:=i) (by omega)),aJ];rw[show UY (.sl sz [ye])=δ (.ah ((1:Nat):Int))from rfl,aJ];rw[show ZA .i (.ah ((1:Nat):Int)) (.ah 0)=δ (.bool ι)from rfl,aJ];rw[dD];rw[show UY (.os id g sz 0 n)=δ (.ah (n:Int))from rfl,aJ,XW,aJ,cO (by omega)];rw[dD,XC (by omega),aJ,arX];simp only[A.Fe,hs];rw[aP (by simp;omega)];refine af3 n (by omega) λc hc=>?_
 obtain⟨hc1,wQ⟩:=hc;by_cases ht:c=n
 ·subst ht;rw[aP rfl];obtain⟨σ1,DI⟩:∃σ1,σ1=σ.set id (.sB g sz seg):=⟨_,rfl⟩
  have h1:σ1[id]? =δ (.sB g sz seg):=by rw[DI,nv hid]
  have sQ:σ1.length=σ.length:=by rw[DI,aDd]
  rw[<-DI];rw[show YK (.ah ((c+1:Nat):Int)) (.ah (c:Int))=δ (.bool θ) by simp [YK];omega,aJ];rw[dL,xS (adH h1) (sj (k:=i) (by omega)) wz,aJ,XC (by omega),aJ,auS (by omega) (by omega),aJ];obtain⟨rows,hrows⟩:∃rows,rows=seg.take i++Z3 (c+1-i) zs:=⟨_,rfl⟩
  have hrl:rows.length=c+1:=by rw[hrows];simp;omega
  have e1:A.AF sz most zs (.os id g sz (0+0) (i-0)) (.ah ((c+1-i:Nat):Int)) σ1=δ (.os σ1.length (c+1) sz 0 (c+1),σ1++[.arr (c+1) sz rows]):=by
   have q1:(0:Int)<=((c+1-i:Nat):Int)/\((c+1-i:Nat):Int)<=most:=by omega
   have q2:i+(c+1-i)=c+1:=by omega
   simp only[A.AF];rw[aP q1];simp only[A.p6,YW,Nat.sub_zero,h1,TS,Vk,Zz,<-hrows];rw[aP (by simp;omega),q2]
  rw[e1,aJ];simp only;have h2:(σ1++[aW.arr (c+1) sz rows])[σ1.length]? =δ (.arr (c+1) sz rows):=by simp
  rw[xS (zq h2 (by omega)) wz (sj (k:=i) (by omega)),aJ];rw[RD (ys:=[ye]) h2 (by omega) (by simp [VB]) (by simp) (by omega),aJ];have e2:([ye]:List aq).take (c+1-i)=[ye]:=n9 (by simp;omega);rw[e2];simp only[YW,Wa];rw[aJ];obtain⟨yA,aBk⟩:∃yA,yA=rows.take i++[ye]++rows.drop (i+1):=⟨_,rfl⟩
  have azS:yA.length=c+1:=by rw[aBk];simp;omega
  rw[<-aBk];have sG:(σ1++[aW.arr (c+1) sz rows]).set σ1.length (.arr (c+1) sz yA)=σ1++[.arr (c+1) sz yA]:=by simp
  rw[sG];have h3:(σ1++[aW.arr (c+1) sz yA])[σ1.length]? =δ (.arr (c+1) sz yA):=by simp
  have h3':(σ1++[aW.arr (c+1) sz yA])[id]? =δ (.sB g sz seg):=by rw[iS (by omega)];exact h1
  rw[xS (zq h3 (by omega)) wz (sj (k:=i+1) (by omega)),aJ];rw[xS (adH h3') wz (sj (k:=i) (by omega)),aJ];rw[RD h3 (by omega) (apa h3' (by omega)) (by simp;omega) (by omega),aJ]
  have e3:((seg.drop (0+i)).take (c-i)).take (c+1-(i+1))=seg.drop i:=by rw[YW,n9 (by simp;omega),n9 (by simp;omega)]
  rw[e3]
  have e4:yA.take (0+(i+1))++seg.drop i++yA.drop (0+(i+1)+(seg.drop i).length)=seg.take i++[ye]++seg.drop i:=by
   have q1:yA.drop (0+(i+1)+(seg.drop i).length)=[]:=ZT (by simp;omega);have q2:rows.take i=seg.take i:=by rw[hrows,TZ (by simp;omega),aDJ,Nat.min_self]
   have q3:yA.take (0+(i+1))=seg.take i++[ye]:=by rw[aBk,q2,YW,TZ (by simp;omega),n9 (by simp;omega)]
   rw[q1,q3];simp
  rw[e4];have avB:(σ1++[aW.arr (c+1) sz yA]).set σ1.length (.arr (c+1) sz (seg.take i++[ye]++seg.drop i))=σ1++[.arr (c+1) sz (seg.take i++[ye]++seg.drop i)]:=by simp
  simp only;rw[avB];have h4:(σ1++[aW.arr (c+1) sz (seg.take i++[ye]++seg.drop i)])[σ1.length]? =δ (.arr (c+1) sz (seg.take i++[ye]++seg.drop i)):=by simp
  have mV:(seg.take i++[ye]++seg.drop i).length=c+1:=by simp;omega
  have e5:((seg.take i++[ye]++seg.drop i).drop 0).take (c+1)=seg.take i++[ye]++seg.drop i:=by rw[Zz,n9 (by omega)]
  simp only[ZD,h4];rw[DH,aP (by simp only[true_and];omega),aO (by simp [A.ahG,sQ]),e5];simp only[A.merge,hs,DH];rw[aP]
  ·rw[mV]
  refine⟨by omega,by simp [sQ],rfl,by omega,λj hj hne=>?_,by rw[iS (by omega)];exact h1,λz hz=>?_⟩
  ·rw[iS (by omega),DI,XX (λe=>hne e.symm)]
  ·simp only[jQ,TV]at hz;rcases hz with(hz|hz)|hz
   ·exact .inl (sA hz)
   ·right;simp [A.rowsOf,hz]
   ·exact .inl (List.mem_of_mem_drop hz)
 ·rw[aO ht];obtain⟨es,qJ⟩:∃es,es=seg++Z3 (0+c-seg.length) (Z3 sz AV.undef):=⟨_,rfl⟩
  have hel:es.length=c:=by rw[qJ];simp;omega
  have het:∀k,k<=n->es.take k=seg.take k:=λk hk=>by rw[qJ,TZ (by omega)]
  obtain⟨σ1,DI⟩:∃σ1,σ1=σ.set id (.arr g sz es):=⟨_,rfl⟩
  have h1:σ1[id]? =δ (.arr g sz es):=by rw[DI,nv hid]
  have sQ:id<σ1.length:=by rw[DI,aDd];exact hid
  rw[<-qJ,<-DI];rw[show YK (.ah ((n+1:Nat):Int)) (.ah (c:Int))=δ (.bool ι) by simp [YK];omega,aJ];rw[dD,XC (by omega),aJ];rw[xS (zq h1 (by omega)) (sj (k:=n+1) (by omega)) wz,aJ,aJ];simp only[YW,Nat.sub_zero];rw[xS (zq h1 (by omega)) wz (sj (k:=i+1) (by omega)),aJ]
  have e1:BD [.sl sz [ye],.os id g sz (0+(i+1)) (n+1-(i+1))] σ1=δ (.bool ι,σ1):=by simp only[BD,Xw,h1];rw[aP];refine⟨by simp,trivial,λe=>?_,by omega⟩;rw[e]at hel;simp at hel;omega
  rw[e1,aJ,show Wk (.bool ι)=δ (.bool θ)from rfl,aJ,dL,aJ];simp only;rw[xS (zq h1 (by omega)) wz (sj (k:=i+1) (by omega)),aJ];rw[xS (zq h1 (by omega)) wz (sj (k:=i) (by omega)),aJ];rw[RD h1 (by omega) (aed h1 (by omega)) (by simp;omega) (by omega),aJ]
  have e2:((es.drop (0+i)).take (n+1-i)).take (n+1-(i+1))=seg.drop i:=by rw[aDJ,YW,show min (n+1-(i+1)) (n+1-i)=n-i by omega,List.take_drop,show i+(n-i)=n by omega,het n (bN _),n9 (by omega)]
  rw[e2];obtain⟨vO,Sz⟩:∃vO,vO=es.take (0+(i+1))++seg.drop i++es.drop (0+(i+1)+(seg.drop i).length):=⟨_,rfl⟩
  have azJ:vO.length=c:=by rw[Sz];simp;omega
  rw[<-Sz];have h2:(σ1.set id (.arr g sz vO))[id]? =δ (.arr g sz vO):=nv sQ;simp only;rw[xS (zq h2 (by omega)) wz (sj (k:=i) (by omega)),aJ];rw[RD (ys:=[ye]) h2 (by omega) (by simp [VB]) (by simp) (by omega),aJ];have e3:([ye]:List aq).take (n+1-i)=[ye]:=n9 (by simp;omega);rw[e3];simp only[YW,Wa,Vp];obtain⟨KF,Y4⟩:∃KF,KF=vO.take i++[ye]++vO.drop (i+1):=⟨_,rfl⟩
  have azK:KF.length=c:=by rw[Y4];simp;omega
  rw[<-Y4];have h3:(σ1.set id (.arr g sz KF))[id]? =δ (.arr g sz KF):=nv sQ
  have e4:(KF.drop 0).take (n+1)=seg.take i++[ye]++seg.drop i:=by
   have q1:vO.take i=seg.take i:=by rw[Sz,lp,TZ (by simp;omega),aDJ,show min i (0+(i+1))=i by omega,het i (by omega)]
   have q2:vO.drop (i+1)=seg.drop i++es.drop (i+1+(seg.drop i).length):=by rw[Sz,YW,lp,List.drop_append_of_le_length (by simp;omega),ZT (by simp;omega),V7]
   rw[Zz,Y4,q1,q2,<-lp,TZ (by simp;omega),n9 (by simp;omega)]
  simp only[ZD,h3];rw[DH,aP (by simp only[true_and];omega),aP (.inl hid),e4,Vp,DI,Vp]
theorem asN{id g n:Nat}{seg:List aq}(hs:σ[id]? =δ (.arr g sz seg))(hl:seg.length=n)(hm:n+1<=most):
  Fq sz most zs En (.os id g sz 0 n) (.ah (n:Int)) (.sl sz [ye]) σ=δ (.os id (g+n+2) sz 0 (n+1),σ.set id (.arr (g+n+2) sz (seg++[ye]))):=by
 have hid:=(bG.1 hs).1;have DH:XD [.os id g sz 0 n,.ah (n:Int),.sl sz [ye]]=g+n+1:=afl id g n _ ⟨_,rfl⟩;unfold Fq;rw[xS (zq hs (by omega)) wz (sj (k:=n) (by omega)),aJ];rw[show UY (.sl sz [ye])=δ (.ah ((1:Nat):Int))from rfl,aJ];rw[show ZA .i (.ah ((1:Nat):Int)) (.ah 0)=δ (.bool ι)from rfl,aJ];rw[dD];rw[show UY (.os id g sz 0 n)=δ (.ah (n:Int))from rfl,aJ,XW,aJ,cL rfl,dL]
 have e1:WK sz most (.os id g sz 0 n) (.sl sz [ye]) σ=δ (.os id (g+1) sz 0 (n+1),σ.set id (.arr (g+1) sz (seg++[ye]))):=by have q:seg.take n=seg:=n9 (by omega);simp [WK,VB,A.p6,hs,hl,hm,q]
 rw[e1,aJ];have h2:(σ.set id (.arr (g+1) sz (seg++[ye])))[id]? =δ (.arr (g+1) sz (seg++[ye])):=nv hid;simp only[ZD,h2];rw[DH,aP (by simp;omega),aP (.inl hid),Vp,Zz,n9 (by simp;omega)]
theorem asP(hv:v=.aA\/v=.ez)(hm:1<=most):Fq sz most zs En v (.ah 0) (.sl sz [ye]) σ=δ (.os σ.length 2 sz 0 1,σ++[.arr 2 sz [ye]]):=by
 have DH:∀w:AV,(w=.aA\/w=.ez)->XD [w,.ah 0,.sl sz [ye]]=1:=by rintro w (rfl|rfl)<;>simp [XD]
 have hbd:Wb 0 0 (δ (ε 0))=δ 0:=sj (y:=0) (d:=0) (k:=0) (bN _)
 have key:∀w:AV,(w=.aA\/w=.ez)->ZD [w,.ah 0,.sl sz [ye]] σ (.os σ.length 1 sz 0 1) (σ++[.arr 1 sz [ye]])=δ (.os σ.length 2 sz 0 1,σ++[.arr 2 sz [ye]]):=by
  intro w hw;have h2:(σ++[aW.arr 1 sz [ye]])[σ.length]? =δ (.arr 1 sz [ye]):=by simp
  simp only[ZD,h2];rw[DH w hw,aP (by simp),aP (.inr (by rcases hw with rfl|rfl<;>rfl))];simp
 unfold Fq;rw[show UY (.sl sz [ye])=δ (.ah ((1:Nat):Int))from rfl];rcases hv with rfl|rfl
 ·rw[show Wf sz .aA (δ (.ah 0)) μ σ=δ .aA by simp [Wf,wz,hbd],aJ,aJ];rw[show ZA .i (.ah ((1:Nat):Int)) (.ah 0)=δ (.bool ι)from rfl,aJ,dD];rw[show UY .aA=δ (.ah 0)from rfl,aJ,show ZA .i (.ah 0) (.ah 0)=δ (.bool θ)from rfl,aJ,dL];rw[show WK sz most .aA (.sl sz [ye]) σ=δ (.os σ.length 1 sz 0 1,σ++[.arr 1 sz [ye]]) by simp [WK,VB,A.p6,hm],aJ];exact key _ (.inl rfl)
 ·rw[show Wf sz .ez (δ (.ah 0)) μ σ=δ .ez by simp [Wf,wz,hbd],aJ,aJ];rw[show ZA .i (.ah ((1:Nat):Int)) (.ah 0)=δ (.bool ι)from rfl,aJ,dD];rw[show UY .ez=δ (.ah 0)from rfl,aJ,show ZA .i (.ah 0) (.ah 0)=δ (.bool θ)from rfl,aJ,dL];rw[show WK sz most .ez (.sl sz [ye]) σ=δ (.os σ.length 1 sz 0 1,σ++[.arr 1 sz [ye]]) by simp [WK,VB,A.p6,hm],aJ];exact key _ (.inr rfl)
theorem auO{B:aW->Prop}(H:Hs B aL σ (Sl E sz v l*(E ye y*R)))(hi:i<=l.length)(hm:l.length+1<=most)(hb:l.length<4611686018427387904)(hB:∀g g' seg k,(seg=[]\/B (.arr g sz seg))->B (.arr g' sz (seg.take k++[ye]++seg.drop k))):
  ∃v' σ',Fq sz most zs En v (.ah (i:Int)) (.sl sz [ye]) σ=δ (v',σ')/\Hs B aL σ' (Sl E sz v' (l.take i++[y]++l.drop i)*R):=by
 rcases AD H with⟨rfl,hv,H⟩|⟨id,g,seg,rfl,hl,H⟩
 ·have hi0:i=0:=by simpa using hi
  subst hi0;refine⟨_,_,asP hv (by simpa using hm),?_⟩;have H2:=GJ (b:=.arr 2 sz [ye]) H (by simpa using hB 0 2 [] 0 (.inl rfl));exact GR (id:=σ.length) (g:=2) (seg:=[ye]) (eS (by simp only[List.take_nil,List.drop_nil,V7,VT,aCE]) H2) rfl
 ·obtain⟨h1,h2⟩:=jO H
  have e:∃g',Fq sz most zs En (.os id g sz 0 l.length) (.ah (i:Int)) (.sl sz [ye]) σ=δ (.os id g' sz 0 (l.length+1),σ.set id (.arr g' sz (seg.take i++[ye]++seg.drop i))):=by
   by_cases hil:i=l.length
   ·subst hil;refine⟨g+l.length+2,?_⟩;rw[asN h2 hl hm,n9 (by omega),ZT (by omega),VT]
   ·exact⟨_,asO h2 hl (by omega) hm hb⟩
  obtain⟨g',e⟩:=e;refine⟨_,_,e,?_⟩;have H2:=AM (b':=.arr g' sz (seg.take i++[ye]++seg.drop i)) H (hB g g' seg i (.inr (Zd H)));refine GR (id:=id) (g:=g') (seg:=seg.take i++[ye]++seg.drop i) (eS ?_ H2) (by simp;omega)
  have q:els E seg l=els E (seg.take i) (l.take i)*els E (seg.drop i) (l.drop i):=by rw[<-GB (by simp;omega),YN,YN]
  rw[GB (Aj:=seg.take i++[ye]) (l1:=l.take i++[y]) (by simp;omega),GB (by simp;omega),aCE,q];ac_rfl
theorem asA(id g n:Nat)(i j:Int):XD [.os id g sz 0 n,.ah i,.ah j]=g+n:=by simp [XD]
theorem auN{B:aW->Prop}{x:α}(H:Hs B aL σ (Sl E sz v l*R))(hx:l[i]? =δ x)(hm:l.length<=most)(hb:l.length<4611686018427387904)(hB:∀g g' seg k,B (.arr g sz seg)->B (.arr g' sz (seg.eraseIdx k))):
  ∃v' σ' xe,(∃p,Zo sz v (.ah (i:Int))=δ p/\χ p σ=δ xe)/\aBd sz most zs v (.ah (i:Int)) (.ah ((i+1:Nat):Int)) σ=δ (v',σ')/\Hs B aL σ' (Sl E sz v' (l.eraseIdx i)*(E xe x*R)):=by
 have hil:=(bG.1 hx).1;rcases AD H with⟨rfl,hv,H⟩|⟨id,g,seg,rfl,hl,H⟩
 ·simp at hx
 ·obtain⟨h1,h2⟩:=jO H;have hid:=(bG.1 h2).1;obtain⟨n,hn⟩:∃n,n=l.length:=⟨_,rfl⟩
  obtain⟨xe,OQ⟩:∃xe,seg[i]? =δ xe:=⟨_,cC (by omega)⟩
  have DH:XD [.os id g sz 0 n,.ah (i:Int),.ah ((i+1:Nat):Int)]=g+n:=asA id g n _ _
  have e:aBd sz most zs (.os id g sz 0 n) (.ah (i:Int)) (.ah ((i+1:Nat):Int)) σ=δ (.os id (g+n+1) sz 0 (n-1),σ.set id (.arr (g+n+1) sz (seg.eraseIdx i))):=by
   unfold aBd;rw[show UY (.os id g sz 0 n)=δ (.ah (n:Int))from rfl,aJ]
   have s3:A.slice3 (.os id g sz 0 n) (δ (.ah (i:Int))) (.ah ((i+1:Nat):Int)) (.ah (n:Int))=δ .undef:=by simp only[A.slice3,UY,aJ,TS];rw[sj (bN n),aJ,sj (show i+1<=n by omega),aJ,sj (show i<=i+1 by omega),cR,aO (by omega)]
   rw[s3,aJ,XW,aJ,cO (by omega),dD,aJ];rw[xS (zq h2 (by omega)) (sj (k:=i) (by omega)) wz,aJ];rw[xS (zq h2 (by omega)) wz (sj (k:=i+1) (by omega)),aJ];obtain⟨es,qJ⟩:∃es,es=seg.take i++seg.drop (i+1)++seg.drop (i+(n-(i+1))):=⟨_,rfl⟩
   have hel:es.length=n:=by rw[qJ];simp;omega
   have e1:WK sz most (.os id g sz (0+0) (i-0)) (.os id g sz (0+(i+1)) (n-(i+1))) σ=δ (.os id g sz 0 (n-1),σ.set id (.arr g sz es)):=by
    have q:((seg.drop (0+(i+1))).take (n-(i+1)))=seg.drop (i+1):=by rw[YW,n9 (by simp;omega)]
    simp only[WK,aed h2 (by omega:0+(i+1)+(n-(i+1))<=seg.length),aJ,q,A.p6,h2];rw[aP (by simp;omega)];by_cases Sd:seg.drop (i+1)=[]
    ·have hni:n=i+1:=by have:=congrArg WD Sd;simp at this;omega
     rw[aP Sd];have qe:es=seg:=by rw[qJ,Sd,hni];simp
     rw[qe,show n-1=i-0 by omega];congr 2;apply List.ext_getElem?;intro k;rw[kE];split
     ·rename_i ek;subst ek;rw[h2]
     ·rfl
    ·rw[aO Sd,aP (by simp;omega)];congr 2
     ·congr 1;simp;omega
     ·rw[qJ];congr 2;simp only[YW,Nat.sub_zero,List.length_drop];rw[show seg.length-(i+1)=n-(i+1) by omega]
   rw[e1,aJ];simp only;have h3:(σ.set id (.arr g sz es))[id]? =δ (.arr g sz es):=nv hid;rw[show UY (.os id g sz 0 (n-1))=δ (.ah ((n-1:Nat):Int))from rfl,aJ];rw[xS (zq h3 (by omega)) (sj (k:=n) (by omega)) (sj (k:=n-1) (by omega)),aJ]
   have e2:A.GG sz zs (.os id g sz (0+(n-1)) (n-(n-1))) (σ.set id (.arr g sz es))=δ (σ.set id (.arr g sz (es.take (n-1)++Z3 (n-(n-1)) zs++es.drop n))):=by simp only[A.GG,h3];rw[aP (by simp;omega),aO (by omega),Vp,YW,show n-1+(n-(n-1))=n by omega]
   rw[e2,aJ];have h4:(σ.set id (.arr g sz (es.take (n-1)++Z3 (n-(n-1)) zs++es.drop n)))[id]? =δ (.arr g sz (es.take (n-1)++Z3 (n-(n-1)) zs++es.drop n)):=nv hid;simp only[ZD,h4];rw[DH,aP (by simp;omega),aP (.inl hid),Vp,Zz,lp,TZ (by simp;omega),aDJ,Nat.min_self];congr 4;rw[qJ,TZ (by simp;omega),n9 (by simp;omega),Ty]
  rw[hn]at e;have hi':((i:Int)<(l.length:Int)):=by omega
  refine⟨_,_,xe,⟨.oe id g i 0,by simp [Zo,A.idx,hi'],by simp [χ,h2,OQ]⟩,e,?_⟩;have H2:=AM (b':=.arr (g+l.length+1) sz (seg.eraseIdx i)) H (hB g _ seg i (Zd H));refine GR (id:=id) (g:=g+l.length+1) (seg:=seg.eraseIdx i) (eS ?_ H2) (by rw[List.length_eraseIdx,aP hil]);rw[at8 hl OQ hx];ac_rfl
end
end
def aT(n lo hi:Int):Bool:=decide (lo<=n/\n<=hi)
def sS(c:UInt8):Bool:=decide (97<=c.toNat/\c.toNat<=122)||decide (48<=c.toNat/\c.toNat<=57)||decide (c.toNat=45)
def DN(s:ByteArray):Bool:=s.data.toList.all sS&&decide (0<s.size)
def rF(s:ByteArray):Bool:=DN s&&decide (s.size<=20)&&decide (97<=(s.data.toList.getD 0 0).toNat)&&decide ((s.data.toList.getD 0 0).toNat<=122)
def pc(c:UInt8):Bool:=decide (32<=c.toNat/\c.toNat<=126)
def Di(s:ByteArray):Bool:=decide (0<s.size)&&decide (s.size<=60)&&(decide ((s.data.toList.getD 0 0).toNat≠32)&&decide ((s.data.toList.getD (s.size-1) 0).toNat≠32))
def Cb(s:ByteArray):Bool:=s.data.toList.all pc&&Di s
theorem api(s:ByteArray)(i:Nat)(h:i<s.size):s.data.toList.getD i 0=s[i]:=by rw[aC3,cC (by simpa using h)];rfl
def G8(pre:List p7):List p7->Int
 |[]=>0
 |r::rest=>
  if aT r.low 0 65535=ι\/aT r.high 0 65535=ι\/r.high<r.low then 1
  else if 0<pre.length/\r.low<=(pre.getLast?.map (·.high)).getD 0 then 7
  else if rF r.name=ι then 5
  else if gZ r.name (pre.map (·.name))=θ then 6
  else G8 (pre++[r]) rest
def BZ(l:List p7):Int:=if 30<l.length then 2 else G8 [] l
def slotsOf(l:List ey):List Int:=l.flatMap λx=>if 0<x.iy then[x.jS,x.iy]else[x.jS]
theorem abp(l:List ey)(x:ey):slotsOf (l++[x])=slotsOf l++(if 0<x.iy then[x.jS,x.iy]else[x.jS]):=by simp [slotsOf]
def AZ(size:Int)(pre:List ey):List ey->Int
 |[]=>0
 |x::rest=>
  if rF x.name=ι then 5
  else if gZ x.name (pre.map (·.name))=θ then 6
  else if aT x.group 1 4=ι then 4
  else if aT x.jS 1 size=ι\/aT x.iy 0 size=ι\/aT x.default 0 65535=ι then 1
  else if x.jS=x.iy\/gZ x.jS (slotsOf pre)=θ\/(0<x.iy/\gZ x.iy (slotsOf pre)=θ)then 12
  else if BZ x.ranges=0 then AZ size (pre++[x]) rest else BZ x.ranges
def p5(p:cD):Int:=
 if rF p.name=ι then 5 else if aT p.size 1 512=ι then 1 else if p.params.length=0 then 8 else if 40<p.params.length then 2 else AZ p.size [] p.params
def sw(xa xf:Int):List Int:=if xf=0 then[xa]else[xa,xf]
def zU(size:Int)(pre:List ey)(x:ey):Int:=
 if rF x.name=ι then 5
 else if gZ x.name (pre.map (·.name))=θ then 6
 else if aT x.group 1 4=ι then 4
 else if aT x.jS 1 size=ι\/aT x.iy 0 size=ι\/aT x.default 0 65535=ι then 1
 else if x.jS=x.iy\/gZ x.jS (slotsOf pre)=θ\/(0<x.iy/\gZ x.iy (slotsOf pre)=θ)then 12
 else BZ x.ranges
theorem ac0(size:Int)(pre:List ey)(x:ey)(rest:List ey):AZ size pre (x::rest)=if zU size pre x=0 then AZ size (pre++[x]) rest else zU size pre x:=by
 rw[AZ,zU];split<;>first|(simp;done)|skip
 split<;>first|(simp;done)|skip
 split<;>first|(simp;done)|skip
 split<;>first|(simp;done)|skip
 split<;>first|(simp;done)|skip
def JV(xa xf ya yf:Int):Bool:=(sw xa xf).any λs=>gZ s (sw ya yf)
def af8(xa xf:Int)(l:List ey):Bool:=l.any λy=>JV xa xf y.jS y.iy
theorem amI{s:Int}{l:List ey}(h:∀y∈l,0<=y.iy):s∈slotsOf l↔∃y∈l,s∈sw y.jS y.iy:=by
 simp only[slotsOf,aDl];constructor
 ·rintro⟨y,hy,hs⟩;refine⟨y,hy,?_⟩;have:=h y hy;unfold sw;split at hs
  ·rw[aO (by omega)];exact hs
  ·split
   ·exact hs
   ·simp at hs;simp [hs]
 ·rintro⟨y,hy,hs⟩;refine⟨y,hy,?_⟩;have:=h y hy;unfold sw at hs;split at hs
  ·rw[aO (by omega)];exact hs
  ·rw[aP (by omega)];exact hs
theorem ao6{xa xf:Int}{l:List ey}(h:∀y∈l,0<=y.iy)(hx:0<=xf):af8 xa xf l=θ↔(gZ xa (slotsOf l)=θ\/(0<xf/\gZ xf (slotsOf l)=θ)):=by
 simp only[Gx,amI h,af8,JV,VK];constructor
 ·rintro⟨y,hy,s,hs,hm⟩;unfold sw at hs;split at hs
  ·simp at hs;subst hs;exact .inl ⟨y,hy,hm⟩
  ·simp at hs;rcases hs with rfl|rfl
   ·exact .inl ⟨y,hy,hm⟩
   ·exact .inr ⟨by omega,y,hy,hm⟩
 ·rintro(⟨y,hy,hm⟩|⟨h0,y,hy,hm⟩)
  ·exact⟨y,hy,xa,by unfold sw;split<;>simp,hm⟩
  ·exact⟨y,hy,xf,by unfold sw;rw[aO (by omega)];simp,hm⟩
theorem ao5{size:Int}{pre:List ey}{x:ey}(h:zU size pre x=0):0<=x.iy:=by
 unfold zU at h;split at h
 ·cases h
 split at h
 ·cases h
 split at h
 ·cases h
 split at h
 ·cases h
 rename_i h4;cases hf:aT x.iy 0 size
 ·exact absurd (.inr (.inl hf)) h4
 ·simp [aT]at hf;exact hf.1
def zS(pre:List cD):List cD->Int
 |[]=>0
 |p::rest=>if p5 p=0 then(if gZ p.name (pre.map (·.name))=θ then 6 else zS (pre++[p]) rest)else p5 p
def wE(l:List cD):Int:=if 60<l.length then 2 else zS [] l
def iB(nm:ByteArray):List cD->cD×Bool
 |[]=>(⟨⟨#[]⟩,0,[]⟩,ι)
 |p::rest=>if p.name=nm then(p,θ)else iB nm rest
def zI(f:Nat->Bool):Nat->Nat->Bool
 |0,_=>θ
 |n+1,a=>if 512<a\/f a=θ then ι else zI f n (a+1)
def su(f:Int->Nat->Bool)(u:Int)(a s:Nat):Int->Nat->Bool:=λv k=>if v=u/\a<=k/\k<a+s then θ else f v k
def Fv(pre:List Int)(n:Int):Bool:=match pre.getLast? with|some m=>decide (n<=m)|none=>ι
def lM(jM:List cD)(u:iw):Int:=u.address+(iB u.ga jM).1.size-1
def EU(jM:List cD)(u:iw)(pre:List iw):Bool:=pre.any λx=>decide (x.univ=u.univ/\x.address<=lM jM u/\u.address<=lM jM x)
def Ff(jM:List cD)(pre:List iw):List iw->Int
 |[]=>0
 |u::rest=>
  if aT u.az 1 9999=ι then 1
  else if Fv (pre.map (·.az)) u.az=θ then 7
  else if(iB u.ga jM).2=ι then 5
  else if aT u.univ 1 64=ι\/aT u.address 1 512=ι\/512<lM jM u then 1
  else if EU jM u pre=θ then 12
  else Ff jM (pre++[u]) rest
def ji(r:eU):Int:=if wE r.bf=0 then(if 400<r.cV.length then 2 else Ff r.bf [] r.cV)else wE r.bf
def JH(jM:List cD)(pre:List iw):Prop:=∀x∈pre,1<=x.address/\x.address<=lM jM x/\lM jM x<=512
def ET(jM:List cD)(pre:List iw)(f:Int->Nat->Bool):Prop:=∀v k,f v k=θ↔∃x∈pre,x.univ=v/\x.address<=(k:Int)/\(k:Int)<=lM jM x
theorem ET.nil(jM:List cD):ET jM [] (λ_ _=>ι):=λv k=>by simp
theorem ET.snoc{jM:List cD}{pre:List iw}{f:Int->Nat->Bool}(h:ET jM pre f)(u:iw)(a s:Nat)(ha:u.address=a)(hs:lM jM u=(a:Int)+s-1):ET jM (pre++[u]) (su f u.univ a s):=by
 intro v k;unfold su;by_cases e:v=u.univ/\a<=k/\k<a+s
 ·rw[aP e];refine⟨λ_=>⟨u,by simp,e.1.symm,by omega,by omega⟩,λ_=>rfl⟩
 ·rw[aO e,h v k];constructor
  ·rintro⟨x,hx,h1⟩;exact⟨x,by simp [hx],h1⟩
  ·rintro⟨x,hx,h1,h2,h3⟩;simp only[jQ,TV]at hx;rcases hx with hx|rfl
   ·exact⟨x,hx,h1,h2,h3⟩
   ·exact absurd ⟨h1.symm,by omega,by omega⟩ e
theorem azW(f:Nat->Bool):∀(s a:Nat),zI f s a=θ↔∀k,a<=k->k<a+s->k<=512/\f k=ι
 |0,a=>by simp [zI];intro k h1 h2;omega
 |s+1,a=>by
  rw[zI];by_cases e:512<a\/f a=θ
  ·rw[aP e];simp only[YQ,false_iff];intro h;have:=h a (bN _) (by omega);rcases e with e|e
   ·omega
   ·rw[e]at this;simp at this
  ·rw[aO e,azW f s (a+1)];constructor
   ·intro h k h1 h2;by_cases hk:k=a
    ·subst hk;refine⟨by omega,?_⟩;cases hf:f k
     ·rfl
     ·exact absurd (.inr hf) e
    ·exact h k (by omega) (by omega)
   ·intro h k h1 h2;exact h k (by omega) (by omega)
theorem anN{jM:List cD}{pre:List iw}{f:Int->Nat->Bool}(h:ET jM pre f)(hok:JH jM pre)(u:iw)(a s:Nat)(ha:u.address=a)(h1:1<=s)(hs:lM jM u=(a:Int)+s-1)(h2:lM jM u<=512):zI (f u.univ) s a=!EU jM u pre:=by
 rw[pM,azW];simp only[UK,EU,List.any_eq_false,decide_eq_true_eq,not_and];constructor
 ·intro hf x hx e1 e2 e3;have hx':=hok x hx;obtain⟨k,hk⟩:∃k:Nat,(k:Int)=max x.address a:=⟨(max x.address (a:Int)).toNat,by omega⟩
  have hf':=(hf k (by omega) (by omega)).2;have:f u.univ k=θ:=(h u.univ k).2 ⟨x,hx,e1,by omega,by omega⟩;rw[this]at hf';simp at hf'
 ·intro hf k h3 h4;refine⟨by omega,?_⟩;cases hfk:f u.univ k
  ·rfl
  ·obtain⟨x,hx,e1,e2,e3⟩:=(h u.univ k).1 hfk;exact absurd (show u.address<=lM jM x by omega) (hf x hx e1 (by omega))
theorem alw{p:cD}(h:p5 p=0):1<=p.size/\p.size<=512:=by
 unfold p5 at h;by_cases h1:rF p.name=ι
 ·rw[aP h1]at h;simp at h
 ·rw[aO h1]at h;by_cases h2:aT p.size 1 512=ι
  ·rw[aP h2]at h;simp at h
  ·simpa [aT]using h2
theorem ab5:∀(l pre:List cD),zS pre l=0->∀p∈l,1<=p.size/\p.size<=512
 |[],pre,h,p,hp=>by simp at hp
 |q::rest,pre,h,p,hp=>by
  rw[zS]at h;by_cases e:p5 q=0
  ·rw[aP e]at h;by_cases e2:gZ q.name (pre.map (·.name))=θ
   ·rw[aP e2]at h;simp at h
   ·rw[aO e2]at h;simp only[jP]at hp;rcases hp with rfl|hp
    ·exact alw e
    ·exact ab5 rest _ h p hp
  ·rw[aO e]at h;exact absurd h e
theorem aco{l:List cD}(h:wE l=0):∀p∈l,1<=p.size/\p.size<=512:=by
 unfold wE at h;by_cases e:60<l.length
 ·rw[aP e]at h;simp at h
 ·rw[aO e]at h;exact ab5 l [] h
theorem Mg(nm:ByteArray):∀(l:List cD),(iB nm l).2=θ->(iB nm l).1∈l
 |[],h=>by simp [iB]at h
 |p::r,h=>by
  rw[iB]at h ⊢;by_cases e:p.name=nm
  ·rw[aP e];simp
  ·rw[aO e]at h ⊢;exact tN _ (Mg nm r h)
theorem JH.snoc{jM:List cD}{pre:List iw}(h:JH jM pre){u:iw}(h1:1<=u.address/\u.address<=lM jM u/\lM jM u<=512):JH jM (pre++[u]):=λx hx=>by
 simp only[jQ,TV]at hx;rcases hx with hx|rfl
 ·exact h x hx
 ·exact h1
theorem mL(n lo hi:Int)(σ:Heap):l5 [.ah n,.ah lo,.ah hi] σ=δ (.bool (aT n lo hi),σ):=by refine wrap_eq rfl ?_ rfl;show az4 _ _ _ σ=_;unfold az4 aT;by_cases h:lo<=n<;>simp only[aI,reduceCtorEq,h,true_and,false_and]
theorem qY(n lo hi:Int)(σ:Heap):rV [.ah n,.ah lo,.ah hi] σ=δ (.bool (aT n lo hi),σ):=by refine wrap_eq rfl ?_ rfl;show Vw _ _ _ σ=_;unfold Vw aT;by_cases h:lo<=n<;>simp only[aI,reduceCtorEq,h,true_and,false_and]
theorem yl(b:Bool)(n:Int)(σ:Heap):ug [.bool b,.ah n] σ=δ (.ah (if b=θ then n else 0),σ):=by refine wrap_eq rfl ?_ rfl;show VF _ _ σ=_;unfold VF;cases b<;>simp [aI,reduceCtorEq]
theorem JS(s:ByteArray){i:Nat}(h:i<s.size):A.qy (.str s) (.ah (i:Int))=δ (.int .u8 (s.data.toList.getD i 0).toNat):=by
 have h1:s[i]? =δ s[i]:=by simp [h]
 simp [A.qy,A.idx,h,api s i h];rfl
theorem QC(s:ByteArray):(decide (¬s=⟨#[]⟩))=decide (0<s.size):=by
 rw[decide_eq_decide];constructor
 ·intro h;rcases Nat.eq_zero_or_pos s.size with e|e
  ·exact absurd (ByteArray.ext (Array.eq_empty_of_size_eq_zero e)) h
  ·exact e
 ·rintro h rfl;exact absurd h (by decide)
theorem atP(s:ByteArray)(hs:jF s)(σ:Heap):VX [.str s] σ=δ (.bool (DN s),σ):=by
 refine wrap_eq rfl ?_ rfl;show aBT _ σ=_;unfold aBT;simp only[aI,reduceCtorEq];refine(Q3 (p:=sS) s (δ (.bool ι,σ)) ?_ ?_ ?_).trans ?_
 ·intro i c hi hc;have h1:aY ((i:Int)+1):=by unfold jF aZ at hs;unfold aY;omega
  have h2:(i:Int)<s.size:=by omega
  simp only[aI,reduceCtorEq,h2,hc,cq h1,sS];clear hc h1
  repeat' ((first|rw[oT]|rw[oS]|rw[oR]|rw[oK]|rw[oQ]|rw[oP]);split<;>try simp only[aI,reduceCtorEq, *])
  all_goals first|rfl|(refine(aP ?_).symm;simp;omega)|(refine(aO ?_).symm;simp;omega)|(refine congrArg δ (congrArg (λb=>(Λ b,σ)) ?_);rw[pM];simp;omega)
 ·simp only[aI,reduceCtorEq,Xz]
 ·intro i;simp only[aI,reduceCtorEq]
 ·simp only[aI,reduceCtorEq,QC,DN];cases s.data.toList.all sS<;>simp
theorem ans(s:ByteArray)(hs:jF s)(σ:Heap):Vn [.str s] σ=δ (.bool (DN s),σ):=by
 refine wrap_eq rfl ?_ rfl;show Vv _ σ=_;unfold Vv;simp only[aI,reduceCtorEq];refine(Q3 (p:=sS) s (δ (.bool ι,σ)) ?_ ?_ ?_).trans ?_
 ·intro i c hi hc;have h1:aY ((i:Int)+1):=by unfold jF aZ at hs;unfold aY;omega
  have h2:(i:Int)<s.size:=by omega
  simp only[aI,reduceCtorEq,h2,hc,cq h1,sS];clear hc h1
  repeat' ((first|rw[oT]|rw[oS]|rw[oR]|rw[oK]|rw[oQ]|rw[oP]);split<;>try simp only[aI,reduceCtorEq, *])
  all_goals first|rfl|(refine(aP ?_).symm;simp;omega)|(refine(aO ?_).symm;simp;omega)|(refine congrArg δ (congrArg (λb=>(Λ b,σ)) ?_);rw[pM];simp;omega)
 ·simp only[aI,reduceCtorEq,Xz]
 ·intro i;simp only[aI,reduceCtorEq]
 ·simp only[aI,reduceCtorEq,QC,DN];cases s.data.toList.all sS<;>simp
theorem aeS{s:ByteArray}(h:DN s=θ):0<s.size:=by simp only[DN,jW,decide_eq_true_eq]at h;exact h.2
theorem Rx(s:ByteArray)(hs:jF s)(σ:Heap):Jf [.str s] σ=δ (.bool (rF s),σ):=by
 refine wrap_eq rfl ?_ rfl;show VE _ σ=_;unfold VE;simp only[aI,reduceCtorEq,atP s hs];cases h:DN s
 ·simp [aI,reduceCtorEq,rF,h]
 ·have h0:=aeS h;have:=JS s h0;simp only[ZB]at this;simp only[aI,reduceCtorEq,this];simp only[rF,h,aDh];generalize s.data.toList.getD 0 0=c0 at *
  repeat' ((first|rw[oT]|rw[oS]|rw[oR]|rw[oK]|rw[oQ]|rw[oP]);split<;>try simp only[aI,reduceCtorEq, *])
  all_goals first|rfl|(refine(aP ?_).symm;simp;omega)|(refine(aO ?_).symm;simp;omega)|(refine congrArg δ (congrArg (λb=>(Λ b,σ)) ?_);rw[pM];simp;omega)
theorem Qz(s:ByteArray)(hs:jF s)(σ:Heap):Jd [.str s] σ=δ (.bool (rF s),σ):=by
 refine wrap_eq rfl ?_ rfl;show aB9 _ σ=_;unfold aB9;simp only[aI,reduceCtorEq,ans s hs];cases h:DN s
 ·simp [aI,reduceCtorEq,rF,h]
 ·have h0:=aeS h;have:=JS s h0;simp only[ZB]at this;simp only[aI,reduceCtorEq,this];simp only[rF,h,aDh];generalize s.data.toList.getD 0 0=c0 at *
  repeat' ((first|rw[oT]|rw[oS]|rw[oR]|rw[oK]|rw[oQ]|rw[oP]);split<;>try simp only[aI,reduceCtorEq, *])
  all_goals first|rfl|(refine(aP ?_).symm;simp;omega)|(refine(aO ?_).symm;simp;omega)|(refine congrArg δ (congrArg (λb=>(Λ b,σ)) ?_);rw[pM];simp;omega)
theorem ad1(s:ByteArray)(hs:jF s)(σ:Heap):Qh [.str s] σ=δ (.bool (Cb s),σ):=by
 refine wrap_eq rfl ?_ rfl;show Vd _ σ=_;unfold Vd;simp only[aI,reduceCtorEq];refine(Q3 (p:=pc) s (δ (.bool ι,σ)) ?_ ?_ ?_).trans ?_
 ·intro i c hi hc;have h1:aY ((i:Int)+1):=by unfold jF aZ at hs;unfold aY;omega
  have h2:(i:Int)<s.size:=by omega
  simp only[aI,reduceCtorEq,h2,hc,cq h1,pc];clear h1
  repeat' ((first|rw[oT]|rw[oS]|rw[oR]|rw[oK]|rw[oQ]|rw[oP]);split<;>try simp only[aI,reduceCtorEq, *])
  all_goals first|rfl|(refine(aP ?_).symm;simp;omega)|(refine(aO ?_).symm;simp;omega)|(refine congrArg δ (congrArg (λb=>(Λ b,σ)) ?_);rw[pM];simp;omega)
 ·simp only[aI,reduceCtorEq,Xz]
 ·intro i;simp only[aI,reduceCtorEq]
 ·simp only[aI,reduceCtorEq,QC,Cb];cases s.data.toList.all pc
  ·simp
  ·simp only[if_true,aDh];by_cases h0:0<s.size
   ·by_cases yT:s.size<=60
    ·have e0:=JS s h0;have e1:=JS s (i:=s.size-1) (by omega);simp only[ZB]at e0;rw[show((s.size-1:Nat):Int)=(s.size:Int) -1 by omega]at e1;have h1:aY ((s.size:Int) -1):=by unfold jF aZ at hs;unfold aY;omega
     have sD:(s.size:Int)<=60:=by omega
     have hw:=cq h1;simp only[Di,h0,yT];generalize s.data.toList.getD 0 0=c0 at *
     generalize s.data.toList.getD (s.size-1) 0=c1 at *
     simp only[aI,reduceCtorEq,h0,sD,e0,e1,hw]
     repeat' ((first|rw[oT]|rw[oS]|rw[oR]|rw[oK]|rw[oQ]|rw[oP]);split<;>try simp only[aI,reduceCtorEq, *])
     all_goals first|rfl|(refine(aP ?_).symm;simp;omega)|(refine(aO ?_).symm;simp;omega)|(refine congrArg δ (congrArg (λb=>(Λ b,σ)) ?_);rw[pM];simp;omega)
    ·have sD:¬(s.size:Int)<=60:=by omega
     simp [aI,reduceCtorEq,h0,sD,Di,yT]
   ·simp [aI,reduceCtorEq,h0,Di]
theorem abv(s:ByteArray)(hs:jF s)(σ:Heap):Qg [.str s] σ=δ (.bool (Cb s),σ):=by
 refine wrap_eq rfl ?_ rfl;show aBu _ σ=_
 have e:(s=⟨#[]⟩)↔¬0<s.size:=by have:=QC s;rw[decide_eq_decide]at this;rw[<-this];simp
 have tail:Cb s=(Di s&&s.data.toList.all pc):=by unfold Cb;exact Bool.and_comm _ _
 unfold aBu;simp only[aI,reduceCtorEq,e];by_cases h0:0<s.size
 ·by_cases yT:s.size<=60
  ·have e0:=JS s h0;have e1:=JS s (i:=s.size-1) (by omega);simp only[ZB]at e0;rw[show((s.size-1:Nat):Int)=(s.size:Int) -1 by omega]at e1;have h1:aY ((s.size:Int) -1):=by unfold jF aZ at hs;unfold aY;omega
   have sD:¬(60:Int)<(s.size:Int):=by omega
   have hw:=cq h1;have ahg:Di s=(decide (¬(s.data.toList.getD 0 0).toNat=32)&&decide (¬(s.data.toList.getD (s.size-1) 0).toNat=32)):=by simp [Di,h0,yT]
   rw[tail,ahg];clear tail ahg;generalize s.data.toList.getD 0 0=c0 at *
   generalize s.data.toList.getD (s.size-1) 0=c1 at *
   by_cases k0:c0.toNat=32
   ·have S5:(c0.toNat:Int)=32:=by omega
    simp [aI,reduceCtorEq,h0,sD,e0,S5,k0]
   ·have S5:¬(c0.toNat:Int)=32:=by omega
    by_cases k1:c1.toNat=32
    ·have OT:(c1.toNat:Int)=32:=by omega
     simp [aI,reduceCtorEq,h0,sD,e0,S5,hw,e1,OT,k1]
    ·have OT:¬(c1.toNat:Int)=32:=by omega
     simp only[aI,reduceCtorEq,h0,sD,e0,S5,hw,e1,OT,k0,k1];refine(Q3 (p:=pc) s (δ (.bool ι,σ)) ?_ ?_ ?_).trans ?_
     ·intro i c hi hc;have h1:aY ((i:Int)+1):=by unfold jF aZ at hs;unfold aY;omega
      have h2:(i:Int)<s.size:=by omega
      simp only[aI,reduceCtorEq,h2,hc,cq h1,pc];clear h1
      repeat' ((first|rw[oT]|rw[oS]|rw[oR]|rw[oK]|rw[oQ]|rw[oP]);split<;>try simp only[aI,reduceCtorEq, *])
      all_goals first|rfl|(refine(aP ?_).symm;simp;omega)|(refine(aO ?_).symm;simp;omega)|(refine congrArg δ (congrArg (λb=>(Λ b,σ)) ?_);rw[pM];simp;omega)
     ·simp only[aI,reduceCtorEq,Xz]
     ·intro i;simp only[aI,reduceCtorEq]
     ·simp only[aI,reduceCtorEq];cases s.data.toList.all pc<;>simp
  ·have sD:(60:Int)<(s.size:Int):=by omega
   simp [aI,reduceCtorEq,h0,sD,tail,Di,yT]
 ·simp [aI,reduceCtorEq,h0,tail,Di]
theorem Jj(n:Int)(σ:Heap):ED [.ah n] σ=δ (.bool (aT n 0 36000000),σ):=by refine wrap_eq rfl ?_ rfl;show aCk (.ah n) σ=_;unfold aCk;simp only[aI,reduceCtorEq,qY]
theorem amE(n:Int)(σ:Heap):aAM [.ah n] σ=δ (.bool (aT n 0 65535),σ):=by refine wrap_eq rfl ?_ rfl;show aAF (.ah n) σ=_;unfold aAF;simp only[aI,reduceCtorEq,mL]
theorem ads{γ:Type}{f:aq->Heap->Option (AX×aq×Heap)}(a n:Nat)(p:Nat->Bool)(vs:Nat->aq)(σ:Heap)(fin:AX×aq×Heap)(ret:Nat->AX×aq×Heap){k:AX×aq×Heap->Option γ}(K1 K2:Option γ)
  (hstep:∀(i:Nat),a<=i->i<a+n->f (vs i) σ=if p i=θ then δ (ret i)else δ (.normal,vs (i+1),σ)) (hend:f (vs (a+n)) σ=δ fin) (hk1:k fin=K1) (hk2:∀i,k (ret i)=K2)
  (A7:fin.1≠.normal:=by simp) (Hj:∀i,(ret i).1≠.normal:=by intros;simp) {v:aq} {σ':Heap} (hv:v=vs a:=by rfl) (iW:σ'=σ:=by rfl):
  (Y7 f v σ').bind k=if(YO a n).any p=θ then K2 else K1:=by
 refine BU (YO a n) p (λi=>vs (a+i)) σ fin (λi=>ret (a+i)) K1 K2 ?_ (by rw[XO];exact hend) hk1 (λi=>hk2 _) A7 (λi=>Hj _) hv iW;intro i x hx;obtain⟨h1,h2⟩:=bG.1 hx;rw[XO]at h1;obtain rfl:a+i=x:=by simpa [aDm]using h2
 exact hstep (a+i) (by omega) (by omega)
def eY:oF:=⟨0,0⟩
def Cj(p:oF):Bool:=!(aT p.time 0 1000)||!(aT p.way 0 1000)
def Bc(l:List oF)(i:Nat):Bool:=decide ((l.getD i eY).time<=(l.getD (i-1) eY).time\/(l.getD i eY).way<(l.getD (i-1) eY).way)
def SG(l:List oF):Int:=
 if l.any Cj=θ then 1
 else if ¬((l.getD 0 eY).time=0/\(l.getD 0 eY).way=0)then 3
 else if ¬((l.getD (l.length-1) eY).time=1000/\(l.getD (l.length-1) eY).way=1000)then 3
 else if(YO 1 (l.length-1)).any (Bc l)=θ then 7 else 0
def pK(c:tu):Int:=
 if aT c.kind 1 6=ι then 4
 else if c.kind=6 then(if c.br.length<2 then 8 else if 20<c.br.length then 2 else SG c.br)
 else if 0<c.br.length then 3 else 0
theorem JC(x:oF)(a b:Int):UP (.s [0,0]) (.agg (iF x)) (.agg [.ah a,.ah b])=δ (.bool (decide (¬(x.time=a/\x.way=b)))):=by simp only[UP,WN,iF,WS,A.qi,A.qH,if_true,aJ,cR];congr 2;rw[pM];simp
theorem Sn(a b c:AV):ir 0 [a] [b,c]=δ [a,c]:=rfl
theorem Sp(a b c:AV):ir 1 [a] [b,c]=δ [b,a]:=rfl
theorem zu{l:List oF}{i:Nat}(h:i<l.length):l[i]? =δ (l.getD i eY):=by simp [h]
theorem akN(c:tu)(σ:Heap):Ug [.agg (lR c)] σ=δ (.ah (pK c),σ):=by
 refine wrap_eq rfl ?_ rfl;show Ul (.agg (lR c)) σ=_;unfold Ul pK;simp only[aI,reduceCtorEq,pW,pX,pZ,pY,p4,qY];cases hk:aT c.kind 1 6
 ·simp only[aI,reduceCtorEq]
 by_cases h6:c.kind=6
 case neg=>
  by_cases h0:0<c.br.length
  ·simp only[aI,reduceCtorEq,pW,pX,pZ,pY,p4,h6,h0,show(0:Int)<c.br.length by omega]
  ·simp only[aI,reduceCtorEq,pW,pX,pZ,pY,p4,h6,h0,show ¬(0:Int)<c.br.length by omega]
 by_cases h2:c.br.length<2
 ·simp only[aI,reduceCtorEq,pW,pX,pZ,pY,p4,h6,h2,show(c.br.length:Int)<2 by omega]
 by_cases FM:20<c.br.length
 ·simp only[aI,reduceCtorEq,pW,pX,pZ,pY,p4,h6,h2,FM,show ¬(c.br.length:Int)<2 by omega,show(20:Int)<c.br.length by omega]
 simp only[aI,reduceCtorEq,pW,pX,pZ,pY,p4,h6,h2,FM,show ¬(c.br.length:Int)<2 by omega,show ¬(20:Int)<c.br.length by omega];have Bq:c.br.length<=aZ:=by unfold aZ;omega
 refine(BU c.br Cj (λi=>[.lbx (lR c),.ah 0,.ah (i:Int)]) σ (.exit 1,[.lbx (lR c),.ah 0,.ah (c.br.length:Int)],σ) (λi=>(.ret,[.lbx (lR c),.ah 1,.ah (i:Int)],σ))
  (δ (.ah (if ¬((c.br.getD 0 eY).time=0/\(c.br.getD 0 eY).way=0)then 3
 else if ¬((c.br.getD (c.br.length-1) eY).time=1000/\(c.br.getD (c.br.length-1) eY).way=1000)then 3
 else if(YO 1 (c.br.length-1)).any (Bc c.br)=θ then 7 else 0),σ)) (δ (.ah 1,σ)) ?_ ?_ ?_ ?_).trans ?_
 ·intro i x hx;obtain⟨g1,g2,g3⟩:=zn 2 iF hx;have g3:=g3 Bq;simp only[aI,reduceCtorEq,BI,BJ,zj,zh,zl,g1,g2,g3,qY,Cj];rcases V8 (aT x.time 0 1000)with e|e
  ·rcases V8 (aT x.way 0 1000)with e'|e'<;>simp only[aI,reduceCtorEq,qY,e,e',aD0,Bool.or_false]
  ·simp only[aI,reduceCtorEq,e,Bool.true_or]
 ·exact yg _ _ _
 ·have g0:=lG 2 iF c.br (zu (l:=c.br) (i:=0) (by omega));have gl:=EE 2 iF c.br (k:=c.br.length) (by omega) (zu (by omega));have hw:ξ.wrap ((c.br.length:Int) -1)=(c.br.length:Int) -1:=cq (by unfold aY;omega);simp only[ZB,Int.natCast_zero]at g0;simp only[aI,reduceCtorEq,pW,pX,pZ,pY,p4,BI,BJ,zj,zh,zl,g0,JC];by_cases e1:(c.br.getD 0 eY).time=0/\(c.br.getD 0 eY).way=0;case neg=>simp only[aI,reduceCtorEq,e1]
  simp only[aI,reduceCtorEq,pW,pX,pZ,pY,p4,e1,hw,gl,BI,BJ,zj,zh,zl];by_cases e2:(c.br.getD (c.br.length-1) eY).time=1000/\(c.br.getD (c.br.length-1) eY).way=1000
  case neg=>
   simp only[Sn,Sp,aI,reduceCtorEq,JC,e2]
  simp only[Sn,Sp,aI,reduceCtorEq,JC,e2];refine(ads 1 (c.br.length-1) (Bc c.br) (λi=>[.lbx (lR c),.ah 0,.ah (i:Int)]) σ (.exit 3,[.lbx (lR c),.ah 0,.ah (c.br.length:Int)],σ) (λi=>(.ret,[.lbx (lR c),.ah 7,.ah (i:Int)],σ)) (δ (ε 0,σ)) (δ (ε 7,σ)) ?_ ?_ ?_ ?_).trans ?_
  ·intro i hi1 hi2;have k1:=lG 2 iF c.br (zu (l:=c.br) (i:=i) (by omega));have k2:=EE 2 iF c.br (k:=i) (by omega) (zu (by omega));have k3:ξ.wrap ((i:Int) -1)=(i:Int) -1:=cq (by unfold aY;omega);have k4:ξ.wrap ((i:Int)+1)=((i+1:Nat):Int):=by rw[cq (by unfold aY;omega)];omega
   have k5:(i:Int)<c.br.length:=by omega
   simp only[aI,reduceCtorEq,pW,pX,pZ,pY,p4,BI,BJ,zj,zh,zl,k1,k2,k3,k5,Bc];by_cases q1:(c.br.getD i eY).time<=(c.br.getD (i-1) eY).time
   ·simp only[aI,reduceCtorEq,q1]
   ·by_cases q2:(c.br.getD i eY).way<(c.br.getD (i-1) eY).way<;>simp only[aI,reduceCtorEq,pW,pX,pZ,pY,p4,BI,BJ,zj,zh,zl,k1,k2,k3,k4,q1,q2]
  ·rw[show 1+(c.br.length-1)=c.br.length by omega];simp only[aI,reduceCtorEq,pW,pX,pZ,pY,p4,Xz]
  ·simp only[aI,reduceCtorEq]
  ·intro i;simp only[aI,reduceCtorEq]
  ·cases(YO 1 (c.br.length-1)).any (Bc c.br)<;>rfl
 ·intro i;simp only[aI,reduceCtorEq]
 ·unfold SG;cases c.br.any Cj<;>rfl
theorem aa1(c:tu)(σ:Heap):PN [.agg (lR c)] σ=δ (.ah (pK c),σ):=by
 refine wrap_eq rfl ?_ rfl;show TR (.agg (lR c)) σ=_;unfold TR pK;simp only[aI,reduceCtorEq,pW,pX,pZ,pY,p4,mL];cases hk:aT c.kind 1 6
 ·simp only[aI,reduceCtorEq]
 by_cases h6:c.kind=6
 case neg=>
  by_cases h0:0<c.br.length
  ·simp only[aI,reduceCtorEq,pW,pX,pZ,pY,p4,h6,h0,yl,show(0:Int)<c.br.length by omega]
  ·simp only[aI,reduceCtorEq,pW,pX,pZ,pY,p4,h6,h0,yl,show ¬(0:Int)<c.br.length by omega]
 by_cases h2:c.br.length<2
 ·simp only[aI,reduceCtorEq,pW,pX,pZ,pY,p4,h6,h2,show(c.br.length:Int)<2 by omega]
 by_cases FM:20<c.br.length
 ·simp only[aI,reduceCtorEq,pW,pX,pZ,pY,p4,h6,h2,FM,show ¬(c.br.length:Int)<2 by omega,show(20:Int)<c.br.length by omega]
 simp only[aI,reduceCtorEq,pW,pX,pZ,pY,p4,h6,h2,FM,show ¬(c.br.length:Int)<2 by omega,show ¬(20:Int)<c.br.length by omega];have Bq:c.br.length<=aZ:=by unfold aZ;omega
 refine(BU c.br Cj (λi=>[.ah 0,.ah (i:Int)]) σ (.exit 0,[.ah 0,.ah (c.br.length:Int)],σ) (λi=>(.ret,[.ah 1,.ah (i:Int)],σ))
  (δ (.ah (if ¬((c.br.getD 0 eY).time=0/\(c.br.getD 0 eY).way=0)then 3
 else if ¬((c.br.getD (c.br.length-1) eY).time=1000/\(c.br.getD (c.br.length-1) eY).way=1000)then 3
 else if(YO 1 (c.br.length-1)).any (Bc c.br)=θ then 7 else 0),σ)) (δ (.ah 1,σ)) ?_ ?_ ?_ ?_).trans ?_
 ·intro i x hx;obtain⟨g1,g2,g3⟩:=zn 2 iF hx;have g3:=g3 Bq;simp only[aI,reduceCtorEq,BI,BJ,zj,zh,zl,g1,g2,g3,mL,Cj];rcases V8 (aT x.time 0 1000)with e|e
  ·rcases V8 (aT x.way 0 1000)with e'|e'<;>simp only[aI,reduceCtorEq,mL,e,e',aD0,Bool.or_false]
  ·simp only[aI,reduceCtorEq,e,Bool.true_or]
 ·exact yg _ _ _
 ·have g0:=lG 2 iF c.br (zu (l:=c.br) (i:=0) (by omega));have gl:=EE 2 iF c.br (k:=c.br.length) (by omega) (zu (by omega));have hw:ξ.wrap ((c.br.length:Int) -1)=(c.br.length:Int) -1:=cq (by unfold aY;omega);simp only[ZB,Int.natCast_zero]at g0;simp only[aI,reduceCtorEq,pW,pX,pZ,pY,p4,BI,BJ,zj,zh,zl,g0,JC];by_cases e1:(c.br.getD 0 eY).time=0/\(c.br.getD 0 eY).way=0;case neg=>simp only[aI,reduceCtorEq,e1]
  simp only[aI,reduceCtorEq,pW,pX,pZ,pY,p4,e1,hw,gl,BI,BJ,zj,zh,zl];by_cases e2:(c.br.getD (c.br.length-1) eY).time=1000/\(c.br.getD (c.br.length-1) eY).way=1000
  case neg=>
   simp only[Sn,Sp,aI,reduceCtorEq,JC,e2]
  simp only[Sn,Sp,aI,reduceCtorEq,JC,e2];refine(ads 1 (c.br.length-1) (Bc c.br) (λi=>[.ah 0,.ah (i:Int)]) σ (.exit 2,[.ah 0,.ah (c.br.length:Int)],σ) (λi=>(.ret,[.ah 7,.ah (i:Int)],σ)) (δ (ε 0,σ)) (δ (ε 7,σ)) ?_ ?_ ?_ ?_).trans ?_
  ·intro i hi1 hi2;have k1:=lG 2 iF c.br (zu (l:=c.br) (i:=i) (by omega));have k2:=EE 2 iF c.br (k:=i) (by omega) (zu (by omega));have k3:ξ.wrap ((i:Int) -1)=(i:Int) -1:=cq (by unfold aY;omega);have k4:ξ.wrap ((i:Int)+1)=((i+1:Nat):Int):=by rw[cq (by unfold aY;omega)];omega
   have k5:(i:Int)<c.br.length:=by omega
   simp only[aI,reduceCtorEq,pW,pX,pZ,pY,p4,BI,BJ,zj,zh,zl,k1,k2,k3,k5,Bc];by_cases q1:(c.br.getD i eY).time<=(c.br.getD (i-1) eY).time
   ·simp only[aI,reduceCtorEq,q1]
   ·by_cases q2:(c.br.getD i eY).way<(c.br.getD (i-1) eY).way<;>simp only[aI,reduceCtorEq,pW,pX,pZ,pY,p4,BI,BJ,zj,zh,zl,k1,k2,k3,k4,q1,q2]
  ·rw[show 1+(c.br.length-1)=c.br.length by omega];simp only[aI,reduceCtorEq,pW,pX,pZ,pY,p4,Xz]
  ·simp only[aI,reduceCtorEq]
  ·intro i;simp only[aI,reduceCtorEq]
  ·cases(YO 1 (c.br.length-1)).any (Bc c.br)<;>rfl
 ·intro i;simp only[aI,reduceCtorEq]
 ·unfold SG;cases c.br.any Cj<;>rfl
theorem EL(l:List Int)(hl:l.length<=aZ)(σ:Heap):ze [sl 1 oL l] σ=δ (.ah ((l.find? λn=>decide (¬n=0)).getD 0),σ):=by
 refine wrap_eq rfl ?_ rfl;show Va (sl 1 oL l) σ=_;unfold Va;simp only[aI,reduceCtorEq];refine(adt l (λn=>decide (¬n=0)) (λi=>[.ah 0,.ah (i:Int)]) σ (.exit 0,[.ah 0,.ah (l.length:Int)],σ) (λi n=>(.ret,[.ah n,.ah (i:Int)],σ)) (δ (ε 0,σ)) (λn=>δ (ε n,σ)) ?_ ?_ ?_ ?_).trans ?_
 ·intro i x hx;obtain⟨g1,g2,g3⟩:=zn 1 oL hx;have g3:=g3 hl;simp only[aI,reduceCtorEq,g1,g2,g3]
  repeat' ((first|rw[oT]|rw[oS]|rw[oR]|rw[oK]|rw[oQ]|rw[oP]);split<;>try simp only[aI,reduceCtorEq, *])
  all_goals first|with_reducible rfl|(simp [*];done)|(simp_all;done)|(simp_all;omega)|rfl
 ·exact yg _ _ _
 ·simp only[aI,reduceCtorEq]
 ·intro i n;simp only[aI,reduceCtorEq]
 ·cases l.find? (λn=>decide (¬n=0))<;>rfl
theorem Jc(n:Int)(σ:Heap):LB [.ah n] σ=δ (.bool (aT n 0 65535),σ):=by refine wrap_eq rfl ?_ rfl;show ain _ σ=_;unfold ain;simp only[aI,reduceCtorEq,mL]
theorem akR(l:List p7)(hok:fZ aAk l)(σ:Heap):aBf [sl 3 lI l] σ=δ (.ah (BZ l),σ):=by
 refine wrap_eq rfl ?_ rfl;show TG (sl 3 lI l) σ=_;unfold TG BZ;simp only[aI,reduceCtorEq];by_cases D8:30<l.length
 ·have A5:(30:Int)<l.length:=by omega
  simp only[aI,reduceCtorEq,D8,A5]
 ·have A5:¬(30:Int)<l.length:=by omega
  simp only[aI,reduceCtorEq,D8,A5]
  refine(oz (S:=Unit) (R:=Int) l (λpre x _=>
    if aT x.low 0 65535=ι\/aT x.high 0 65535=ι\/x.high<x.low then .out 1
    else if 0<pre.length/\x.low<=(pre.getLast?.map (·.high)).getD 0 then .out 7
    else if rF x.name=ι then .out 5
    else if gZ x.name (pre.map (·.name))=θ then .out 6 else .go ())
   (λpre _=>[.ah 0,.ah (pre.length:Int)]) (λpre _=>σ++[Z0 (qg (·.name) pre)])
   (λ_=>(.exit 0,[.ah 0,.ah (l.length:Int)],σ++[Z0 (qg (·.name) l)])) (λpre _ r=>(.ret,[.ah r,.ah (pre.length:Int)],σ++[Z0 (qg (·.name) pre)]))
   (λ_ _=>True) () (λ_=>δ (ε 0,σ)) (λr=>δ (ε r,σ)) ?_ ?_ trivial (λ_ _ _ _ _ _ _ _=>trivial) ?_ ?_).trans ?_
  ·intro pre x rest u hl _;have hx:=oC hl;have hlt:=qv hl;have hi1:ξ.wrap ((pre.length:Int)+1)=(pre.length:Int)+1:=cq (by unfold aY;omega);have hi2:ξ.wrap ((pre.length:Int) -1)=(pre.length:Int) -1:=cq (by unfold aY;omega);have hlt':(pre.length:Int)<(l.length:Int):=by omega
   have hnm:=(hok.2 x (by rw[hl];simp)).2.2;have jy:=lG 3 lI l hx;have hN:=Rx _ hnm;by_cases h0:0<pre.length
   ·obtain⟨y,hy,hy2⟩:=aCf hl h0;have Hg:=EE 3 lI l h0 hy2;have mG:(0:Int)<pre.length:=by omega
    clear hl hx hlt hok D8 A5 hy2 hnm;simp only[aI,reduceCtorEq,BK,BL,BM,BQ,BO,BR,hlt',jy,Jc,hi1,hi2,hN,mG,hy,h0]
    repeat' ((first|rw[oT]|rw[oS]|rw[oR]|rw[oK]|rw[oQ]|rw[oP]);split<;>try simp only[aI,reduceCtorEq,BK,BL,BM,BQ,BO,BR,Jc, *])
    all_goals first|with_reducible rfl|(simp [*];done)|(simp_all;done)|(simp_all;omega)|rfl
   ·have mG:¬(0:Int)<pre.length:=by omega
    clear hl hx hlt hok D8 A5 hnm;simp only[aI,reduceCtorEq,BK,BL,BM,BQ,BO,BR,hlt',jy,Jc,hi1,hi2,hN,mG,h0]
    repeat' ((first|rw[oT]|rw[oS]|rw[oR]|rw[oK]|rw[oQ]|rw[oP]);split<;>try simp only[aI,reduceCtorEq,BK,BL,BM,BQ,BO,BR,Jc, *])
    all_goals first|with_reducible rfl|(simp [*];done)|(simp_all;done)|(simp_all;omega)|rfl
  ·intro u _;simp only[aI,reduceCtorEq,Xz]
  ·intro u _;simp only[aI,reduceCtorEq]
  ·intros;simp only[aI,reduceCtorEq]
  ·refine(EF (uP:=G8) ?_ ?_ (λn=>δ (ε n,σ)) l []).trans ?_
   ·intro pre;rfl
   ·intro pre x rest;rw[G8];simp only[B5,zy,zH]
   ·rfl
theorem akw(p:cD)(hok:Gq p)(σ:Heap):TA [.agg (cz p)] σ=δ (.ah (p5 p),σ):=by
 refine wrap_eq rfl ?_ rfl;show aBL (.agg (cz p)) σ=_;obtain⟨pn,ps,l⟩:=p;obtain⟨hnm,hps,Hi⟩:=hok;simp only at hnm hps Hi;have hN:=Rx _ hnm;unfold aBL p5;simp only[aI,reduceCtorEq,nj,nI,nr,nK,nJ,mu,hN,mL];cases hn:rF pn
 ·simp only[aI,reduceCtorEq]
 cases hz:aT ps 1 512
 ·simp only[aI,reduceCtorEq]
 by_cases h0:l.length=0
 ·obtain rfl:l=[]:=xC h0;simp [aI,reduceCtorEq]
 have mG:¬(l.length:Int)=0:=by omega
 by_cases HU:40<l.length
 ·have DE:(40:Int)<l.length:=by omega
  simp only[aI,reduceCtorEq,h0,mG,HU,DE]
 have DE:¬(40:Int)<l.length:=by omega
 simp only[aI,reduceCtorEq,h0,mG,HU,DE]
 refine(oz (S:=Unit) (R:=Int) l (λpre x _=>
   if rF x.name=ι then .out 5
   else if gZ x.name (pre.map (·.name))=θ then .out 6
   else if aT x.group 1 4=ι then .out 4
   else if aT x.jS 1 ps=ι\/aT x.iy 0 ps=ι\/aT x.default 0 65535=ι then .out 1
   else if x.jS=x.iy\/gZ x.jS (slotsOf pre)=θ\/(0<x.iy/\gZ x.iy (slotsOf pre)=θ)then .out 12
   else if BZ x.ranges=0 then .go ()else .out (BZ x.ranges))
  (λpre _=>[.lbx (cz ⟨pn,ps,l⟩),.ah 0,.ah (pre.length:Int)]) (λpre _=>σ++[Z0 (qg (·.name) pre),Z0 (vJ id (slotsOf pre))])
  (λ_=>(.exit 1,[.lbx (cz ⟨pn,ps,l⟩),.ah 0,.ah (l.length:Int)],σ++[Z0 (qg (·.name) l),Z0 (vJ id (slotsOf l))]))
  (λpre _ r=>(.ret,[.lbx (cz ⟨pn,ps,l⟩),.ah r,.ah (pre.length:Int)],σ++[Z0 (qg (·.name) pre),Z0 (vJ id (slotsOf pre))]))
  (λ_ _=>True) () (λ_=>δ (ε 0,σ)) (λr=>δ (ε r,σ)) ?_ ?_ trivial (λ_ _ _ _ _ _ _ _=>trivial) ?_ ?_).trans ?_
 ·intro pre x rest u hl _;have hx:=oC hl;have hlt:=qv hl;have hi1:ξ.wrap ((pre.length:Int)+1)=(pre.length:Int)+1:=cq (by unfold aY;omega);have hi2:ξ.wrap ((pre.length:Int) -1)=(pre.length:Int) -1:=cq (by unfold aY;omega);have hlt':(pre.length:Int)<(l.length:Int):=by omega
  obtain⟨k1,k2,k3,k4,k5,k6⟩:=Hi.2 x (by rw[hl];simp);have hNx:=Rx _ k1;have hRx:=akR _ k6;have jy:=lG 7 cG l hx;clear hl hx hlt Hi HU DE h0 mG k1 k2 k3 k4 k5 k6 hnm hps hN hn hz;simp only[aI,reduceCtorEq,qp,qS,qT,qU,qV,qW,qX,rj,qZ,nY,nj,nI,nr,nK,nJ,mu,hlt',jy,mL,Jc,hi1,hi2,hNx,hRx,List.map_id]
  repeat' ((first|rw[oT]|rw[oS]|rw[oR]|rw[oK]|rw[oQ]|rw[oP]);split<;>try simp only[aI,reduceCtorEq,qp,qS,qT,qU,qV,qW,qX,rj,qZ,nY,nj,nI,nr,nK,nJ,mu,mL,Jc,List.map_id,adL,apy,Bool.or_false, *])
  all_goals first|rfl|(simp_all;done)|(simp_all [abp,adL];done)|(simp only[abp,ite_false,ite_true,if_false,if_true, *]<;>simp_all)
 ·intro u _;simp only[aI,reduceCtorEq,Xz]
 ·intro u _;simp only[aI,reduceCtorEq]
 ·intros;simp only[aI,reduceCtorEq]
 ·refine(EF (uP:=AZ ps) ?_ ?_ (λn=>δ (ε n,σ)) l []).trans ?_
  ·intro pre;rfl
  ·intro pre x rest;rw[AZ];simp only[B5,zy,zH]
  ·rfl
theorem aku(l:List cD)(hok:fZ Gq l)(σ:Heap):Tz [sl 3 cz l] σ=δ (.ah (wE l),σ):=by
 refine wrap_eq rfl ?_ rfl;show TB (sl 3 cz l) σ=_;unfold TB wE;simp only[aI,reduceCtorEq];by_cases yT:60<l.length
 ·have sD:(60:Int)<l.length:=by omega
  simp only[aI,reduceCtorEq,yT,sD]
 have sD:¬(60:Int)<l.length:=by omega
 simp only[aI,reduceCtorEq,yT,sD]
 refine(oz (S:=Unit) (R:=Int) l (λpre x _=>if p5 x=0 then(if gZ x.name (pre.map (·.name))=θ then .out 6 else .go ())else .out (p5 x))
  (λpre _=>[.ah 0,.ah (pre.length:Int)]) (λpre _=>σ++[Z0 (qg (·.name) pre)])
  (λ_=>(.exit 0,[.ah 0,.ah (l.length:Int)],σ++[Z0 (qg (·.name) l)])) (λpre _ r=>(.ret,[.ah r,.ah (pre.length:Int)],σ++[Z0 (qg (·.name) pre)]))
  (λ_ _=>True) () (λ_=>δ (ε 0,σ)) (λr=>δ (ε r,σ)) ?_ ?_ trivial (λ_ _ _ _ _ _ _ _=>trivial) ?_ ?_).trans ?_
 ·intro pre x rest u hl _;have hx:=oC hl;have hlt:=qv hl;have hi1:ξ.wrap ((pre.length:Int)+1)=(pre.length:Int)+1:=cq (by unfold aY;omega);have hi2:ξ.wrap ((pre.length:Int) -1)=(pre.length:Int) -1:=cq (by unfold aY;omega);have hlt':(pre.length:Int)<(l.length:Int):=by omega
  have hP:=akw x (hok.2 x (by rw[hl];simp));have jy:=lG 3 cz l hx;clear hl hx hlt hok yT sD;simp only[aI,reduceCtorEq,nj,nI,nr,nK,nJ,mu,hlt',jy,hi1,hP]
  repeat' ((first|rw[oT]|rw[oS]|rw[oR]|rw[oK]|rw[oQ]|rw[oP]);split<;>try simp only[aI,reduceCtorEq,nj,nI,nr,nK,nJ,mu, *])
  all_goals first|with_reducible rfl|(simp [*];done)|(simp_all;done)|(simp_all;omega)|rfl
 ·intro u _;simp only[aI,reduceCtorEq,Xz]
 ·intro u _;simp only[aI,reduceCtorEq]
 ·intros;simp only[aI,reduceCtorEq]
 ·refine(EF (uP:=zS) ?_ ?_ (λn=>δ (ε n,σ)) l []).trans ?_
  ·intro pre;rfl
  ·intro pre x rest;rw[zS];simp only[B5,zy,zH]
  ·rfl
theorem aet{α:Type}(p:α->Bool)(l:List α):decide (0<=iT p l)=l.any p:=by
 rcases td p l with⟨h1,h2,_⟩|⟨k,x,h1,h2,h3,_⟩
 ·rw[h1,pM];simp only[decide_eq_true_eq,VK];exact⟨λh=>by omega,λ⟨x,hx,hp⟩=>by rw[h2 x hx]at hp;cases hp⟩
 ·rw[h3,pM];simp only[decide_eq_true_eq,VK];exact⟨λ_=>⟨x,dm h1,h2⟩,λ_=>by omega⟩
theorem aiq(dyn:Nat->aq->Heap->aF)(l:List cD)(hl:l.length<=aZ)(n:Nat)(caps:aq)(p:cD->Bool)(σ:Heap)(hd:∀x∈l,dyn n ((.agg (cz x):AV)::caps) σ=δ (.bool (p x),σ)):Pt dyn [sl 3 cz l,.fn n caps] σ=δ (.ah (iT p l),σ):=by
 refine wrap_eq rfl ?_ rfl;show Pu dyn (sl 3 cz l) (.fn n caps) σ=_;unfold Pu;simp only[aI,reduceCtorEq]
 refine(oz (S:=Unit) (R:=Int) l (λpre x _=>if p x=θ then .out (pre.length:Int)else .go ())
  (λpre _=>[.ah 0,.ah (pre.length:Int)]) (λ_ _=>σ) (λ_=>(.exit 0,[.ah 0,.ah (l.length:Int)],σ)) (λpre _ r=>(.ret,[.ah (pre.length:Int),.ah (pre.length:Int)],σ))
  (λ_ _=>True) () (λ_=>δ (ε (-1),σ)) (λr=>δ (ε r,σ)) ?_ ?_ trivial (λ_ _ _ _ _ _ _ _=>trivial) ?_ ?_).trans ?_
 ·intro pre x rest u hl' _;have hx:=oC hl';have hlt:=qv hl';have hi1:ξ.wrap ((pre.length:Int)+1)=(pre.length:Int)+1:=cq (by unfold aY;unfold aZ at hl;omega);have hlt':(pre.length:Int)<(l.length:Int):=by omega
  have jy:=lG 3 cz l hx;have sP:=hd x (by rw[hl'];simp);simp only[aI,reduceCtorEq,nj,nI,nr,nK,nJ,mu,hlt',jy,A.l8,oJ,V7,sP,hi1];cases p x<;>simp [aI,reduceCtorEq]
 ·intro u _;simp only[aI,reduceCtorEq,Xz]
 ·intro u _;simp only[aI,reduceCtorEq]
 ·intro pre x rest s q hl' _ hb
  have:q=(pre.length:Int):=by
   cases hpx:p x
   ·rw[hpx]at hb;cases hb
   ·rw[hpx]at hb;simp at hb;exact hb.symm
  simp only[aI,reduceCtorEq,this]
 ·rw[CU p _ _ l [] (by simp)];simp only[V7];split
  ·rename_i h;rw[h]
  ·rfl
theorem aiv(dyn:Nat->aq->Heap->aF)(l:List gf)(hl:l.length<=aZ)(n:Nat)(caps:aq)(p:gf->Bool)(σ:Heap)(hd:∀x∈l,dyn n ((.agg (ff x):AV)::caps) σ=δ (.bool (p x),σ)):Li dyn [sl 8 ff l,.fn n caps] σ=δ (.ah (iT p l),σ):=by
 refine wrap_eq rfl ?_ rfl;show Py dyn (sl 8 ff l) (.fn n caps) σ=_;unfold Py;simp only[aI,reduceCtorEq]
 refine(oz (S:=Unit) (R:=Int) l (λpre x _=>if p x=θ then .out (pre.length:Int)else .go ())
  (λpre _=>[.ah 0,.ah (pre.length:Int)]) (λ_ _=>σ) (λ_=>(.exit 0,[.ah 0,.ah (l.length:Int)],σ)) (λpre _ r=>(.ret,[.ah (pre.length:Int),.ah (pre.length:Int)],σ))
  (λ_ _=>True) () (λ_=>δ (ε (-1),σ)) (λr=>δ (ε r,σ)) ?_ ?_ trivial (λ_ _ _ _ _ _ _ _=>trivial) ?_ ?_).trans ?_
 ·intro pre x rest u hl' _;have hx:=oC hl';have hlt:=qv hl';have hi1:ξ.wrap ((pre.length:Int)+1)=(pre.length:Int)+1:=cq (by unfold aY;unfold aZ at hl;omega);have hlt':(pre.length:Int)<(l.length:Int):=by omega
  have jy:=lG 8 ff l hx;have sP:=hd x (by rw[hl'];simp);simp only[aI,reduceCtorEq,anY,anZ,an0,an1,an2,an3,an4,an5,abj,ak2,aeI,aea,Gy,hlt',jy,A.l8,oJ,V7,sP,hi1];cases p x<;>simp [aI,reduceCtorEq]
 ·intro u _;simp only[aI,reduceCtorEq,Xz]
 ·intro u _;simp only[aI,reduceCtorEq]
 ·intro pre x rest s q hl' _ hb
  have:q=(pre.length:Int):=by
   cases hpx:p x
   ·rw[hpx]at hb;cases hb
   ·rw[hpx]at hb;simp at hb;exact hb.symm
  simp only[aI,reduceCtorEq,this]
 ·rw[CU p _ _ l [] (by simp)];simp only[V7];split
  ·rename_i h;rw[h]
  ·rfl
theorem ajC(l:List Int)(hl:l.length<=aZ)(k:Int)(σ:Heap):TP [sl 1 oL l,.ah k] σ=δ (.ah (iT (λx=>decide (k=x)) l),σ):=by
 refine wrap_eq rfl ?_ rfl;show TU (sl 1 oL l) (.ah k) σ=_;unfold TU;simp only[aI,reduceCtorEq]
 refine(oz (S:=Unit) (R:=Int) l (λpre x _=>if(λx=>decide (k=x)) x=θ then .out (pre.length:Int)else .go ())
  (λpre _=>[.ah 0,.ah (pre.length:Int)]) (λ_ _=>σ) (λ_=>(.exit 0,[.ah 0,.ah (l.length:Int)],σ)) (λpre _ r=>(.ret,[.ah (pre.length:Int),.ah (pre.length:Int)],σ))
  (λ_ _=>True) () (λ_=>δ (ε (-1),σ)) (λr=>δ (ε r,σ)) ?_ ?_ trivial (λ_ _ _ _ _ _ _ _=>trivial) ?_ ?_).trans ?_
 ·intro pre x rest u hl' _;have hx:=oC hl';have hlt:=qv hl';have hi1:ξ.wrap ((pre.length:Int)+1)=(pre.length:Int)+1:=cq (by unfold aY;unfold aZ at hl;omega);have hlt':(pre.length:Int)<(l.length:Int):=by omega
  have jy:=lG 1 oL l hx;simp only[aI,reduceCtorEq,hlt',jy,hi1];by_cases hk:k=x<;>simp [aI,reduceCtorEq,hk]
 ·intro u _;simp only[aI,reduceCtorEq,Xz]
 ·intro u _;simp only[aI,reduceCtorEq]
 ·intro pre x rest s q hl' _ hb
  have:q=(pre.length:Int):=by
   by_cases hk:k=x
   ·simp [hk]at hb;exact hb.symm
   ·simp [hk]at hb
  simp only[aI,reduceCtorEq,this]
 ·rw[CU (λx=>decide (k=x)) _ _ l [] (by simp)];simp only[V7];split
  ·rename_i h;rw[h]
  ·rfl
theorem aja(l:List Int)(hl:l.length<=aZ)(k:Int)(σ:Heap):PF [sl 1 oL l,.ah k] σ=δ (.bool (l.any λx=>decide (k=x)),σ):=by refine wrap_eq rfl ?_ rfl;show aAb (sl 1 oL l) (.ah k) σ=_;unfold aAb;simp only[aI,reduceCtorEq,ajC l hl k σ];refine congrArg δ (congrArg (λb=>(Λ b,σ)) ?_);exact aet _ l
theorem aiC(dyn:Nat->aq->Heap->aF)(l:List bA)(hl:l.length<=aZ)(n:Nat)(caps:aq)(p:bA->Bool)(σ:Heap)(hd:∀x∈l,dyn n ((.agg (bg x):AV)::caps) σ=δ (.bool (p x),σ)):Lj dyn [sl 11 bg l,.fn n caps] σ=δ (.ah (iT p l),σ):=by
 refine wrap_eq rfl ?_ rfl;show Pz dyn (sl 11 bg l) (.fn n caps) σ=_;unfold Pz;simp only[aI,reduceCtorEq]
 refine(oz (S:=Unit) (R:=Int) l (λpre x _=>if p x=θ then .out (pre.length:Int)else .go ())
  (λpre _=>[.ah 0,.ah (pre.length:Int)]) (λ_ _=>σ) (λ_=>(.exit 0,[.ah 0,.ah (l.length:Int)],σ)) (λpre _ r=>(.ret,[.ah (pre.length:Int),.ah (pre.length:Int)],σ))
  (λ_ _=>True) () (λ_=>δ (ε (-1),σ)) (λr=>δ (ε r,σ)) ?_ ?_ trivial (λ_ _ _ _ _ _ _ _=>trivial) ?_ ?_).trans ?_
 ·intro pre x rest u hl' _;have hx:=oC hl';have hlt:=qv hl';have hi1:ξ.wrap ((pre.length:Int)+1)=(pre.length:Int)+1:=cq (by unfold aY;unfold aZ at hl;omega);have hlt':(pre.length:Int)<(l.length:Int):=by omega
  have jy:=lG 11 bg l hx;have sP:=hd x (by rw[hl'];simp);simp only[aI,reduceCtorEq,Wp,apF,Wq,adA,Wr,adB,apG,apH,apI,adC,acu,UQ,GC,JI,C3,hlt',jy,A.l8,oJ,V7,sP,hi1];cases p x<;>simp [aI,reduceCtorEq]
 ·intro u _;simp only[aI,reduceCtorEq,Xz]
 ·intro u _;simp only[aI,reduceCtorEq]
 ·intro pre x rest s q hl' _ hb
  have:q=(pre.length:Int):=by
   cases hpx:p x
   ·rw[hpx]at hb;cases hb
   ·rw[hpx]at hb;simp at hb;exact hb.symm
  simp only[aI,reduceCtorEq,this]
 ·rw[CU p _ _ l [] (by simp)];simp only[V7];split
  ·rename_i h;rw[h]
  ·rfl
theorem aiu(dyn:Nat->aq->Heap->aF)(l:List jl)(hl:l.length<=aZ)(n:Nat)(caps:aq)(p:jl->Bool)(σ:Heap)(hd:∀x∈l,dyn n ((.agg (fc x):AV)::caps) σ=δ (.bool (p x),σ)):Pw dyn [sl 2 fc l,.fn n caps] σ=δ (.ah (iT p l),σ):=by
 refine wrap_eq rfl ?_ rfl;show Px dyn (sl 2 fc l) (.fn n caps) σ=_;unfold Px;simp only[aI,reduceCtorEq]
 refine(oz (S:=Unit) (R:=Int) l (λpre x _=>if p x=θ then .out (pre.length:Int)else .go ())
  (λpre _=>[.ah 0,.ah (pre.length:Int)]) (λ_ _=>σ) (λ_=>(.exit 0,[.ah 0,.ah (l.length:Int)],σ)) (λpre _ r=>(.ret,[.ah (pre.length:Int),.ah (pre.length:Int)],σ))
  (λ_ _=>True) () (λ_=>δ (ε (-1),σ)) (λr=>δ (ε r,σ)) ?_ ?_ trivial (λ_ _ _ _ _ _ _ _=>trivial) ?_ ?_).trans ?_
 ·intro pre x rest u hl' _;have hx:=oC hl';have hlt:=qv hl';have hi1:ξ.wrap ((pre.length:Int)+1)=(pre.length:Int)+1:=cq (by unfold aY;unfold aZ at hl;omega);have hlt':(pre.length:Int)<(l.length:Int):=by omega
  have jy:=lG 2 fc l hx;have sP:=hd x (by rw[hl'];simp);simp only[aI,reduceCtorEq,anX,V0,arb,aqm,JG,hlt',jy,A.l8,oJ,V7,sP,hi1];cases p x<;>simp [aI,reduceCtorEq]
 ·intro u _;simp only[aI,reduceCtorEq,Xz]
 ·intro u _;simp only[aI,reduceCtorEq]
 ·intro pre x rest s q hl' _ hb
  have:q=(pre.length:Int):=by
   cases hpx:p x
   ·rw[hpx]at hb;cases hb
   ·rw[hpx]at hb;simp at hb;exact hb.symm
  simp only[aI,reduceCtorEq,this]
 ·rw[CU p _ _ l [] (by simp)];simp only[V7];split
  ·rename_i h;rw[h]
  ·rfl
theorem ail(dyn:Nat->aq->Heap->aF)(l:List pH)(hl:l.length<=aZ)(n:Nat)(caps:aq)(p:pH->Bool)(σ:Heap)(hd:∀x∈l,dyn n ((.agg (dA x):AV)::caps) σ=δ (.bool (p x),σ)):Pq dyn [sl 3 dA l,.fn n caps] σ=δ (.ah (iT p l),σ):=by
 refine wrap_eq rfl ?_ rfl;show Pr dyn (sl 3 dA l) (.fn n caps) σ=_;unfold Pr;simp only[aI,reduceCtorEq]
 refine(oz (S:=Unit) (R:=Int) l (λpre x _=>if p x=θ then .out (pre.length:Int)else .go ())
  (λpre _=>[.ah 0,.ah (pre.length:Int)]) (λ_ _=>σ) (λ_=>(.exit 0,[.ah 0,.ah (l.length:Int)],σ)) (λpre _ r=>(.ret,[.ah (pre.length:Int),.ah (pre.length:Int)],σ))
  (λ_ _=>True) () (λ_=>δ (ε (-1),σ)) (λr=>δ (ε r,σ)) ?_ ?_ trivial (λ_ _ _ _ _ _ _ _=>trivial) ?_ ?_).trans ?_
 ·intro pre x rest u hl' _;have hx:=oC hl';have hlt:=qv hl';have hi1:ξ.wrap ((pre.length:Int)+1)=(pre.length:Int)+1:=cq (by unfold aY;unfold aZ at hl;omega);have hlt':(pre.length:Int)<(l.length:Int):=by omega
  have jy:=lG 3 dA l hx;have sP:=hd x (by rw[hl'];simp);simp only[aI,reduceCtorEq,akX,akY,akZ,al8,alQ,abr,hlt',jy,A.l8,oJ,V7,sP,hi1];cases p x<;>simp [aI,reduceCtorEq]
 ·intro u _;simp only[aI,reduceCtorEq,Xz]
 ·intro u _;simp only[aI,reduceCtorEq]
 ·intro pre x rest s q hl' _ hb
  have:q=(pre.length:Int):=by
   cases hpx:p x
   ·rw[hpx]at hb;cases hb
   ·rw[hpx]at hb;simp at hb;exact hb.symm
  simp only[aI,reduceCtorEq,this]
 ·rw[CU p _ _ l [] (by simp)];simp only[V7];split
  ·rename_i h;rw[h]
  ·rfl
theorem aih(dyn:Nat->aq->Heap->aF)(l:List pH)(hl:l.length<=aZ)(n:Nat)(caps:aq)(p:pH->Bool)(σ:Heap)(hd:∀x∈l,dyn n ((.agg (dA x):AV)::caps) σ=δ (.bool (p x),σ)):Po dyn [sl 3 dA l,.fn n caps] σ=δ (.bool (l.any p),σ):=by refine wrap_eq rfl ?_ rfl;show Pp dyn (sl 3 dA l) (.fn n caps) σ=_;unfold Pp;simp only[aI,reduceCtorEq,ail dyn l hl n caps p σ hd];refine congrArg δ (congrArg (λb=>(Λ b,σ)) ?_);exact aet p l
theorem CM(nm:ByteArray):∀(l:List cD),iB nm l=match l.find? (λx:cD=>decide (x.name=nm))with|some p=>(p,θ)|none=>(⟨⟨#[]⟩,0,[]⟩,ι)
 |[]=>rfl
 |p::l=>by
  rw[iB];by_cases h:p.name=nm
  ·simp [h]
  ·simp [h,CM nm l]
theorem ak3(x:cD)(nm:ByteArray)(σ:Heap):Lv [.agg (cz x),.rp [.str nm]] σ=δ (.bool (decide (x.name=nm)),σ):=by refine wrap_eq rfl ?_ rfl;show TH (.agg (cz x)) (.rp [.str nm]) σ=_;unfold TH;simp only[aI,reduceCtorEq,nj,nI,nr,nK,nJ,mu];show(δ (Xo nm)).bind _=_;simp only[aI,reduceCtorEq]
theorem nnP(x:ey):TQ qz (cG x)=cG x:=rfl
theorem agw(p:cD)(b:Bool):Y9 (.t [(.a [.k,.k,(.e 7 qz)]),.k]) (.aM [.agg (cz p),.bool b])=.aM [.agg (cz p),.bool b]:=by show Yu [.agg [.str p.name,.ah p.size,Y9 (.e 7 qz) (sl 7 cG p.params)],.bool b]=_;rw[mT nnP];rfl
theorem acB(l:List cD)(hl:l.length<=aZ)(nm:ByteArray)(σ:Heap):PU [sl 3 cz l,.str nm] σ=δ (.aM [.agg (cz (iB nm l).1),.bool (iB nm l).2],σ):=by
 have key:∃w,PY (sl 3 cz l) (.str nm) σ=δ (w,σ)/\Y9 (.t [(.a [.k,.k,(.e 7 qz)]),.k]) w=.aM [.agg (cz (iB nm l).1),.bool (iB nm l).2]:=by
  unfold PY;simp only[aI,reduceCtorEq];rw[aiq _ l hl 64 [.rp [.str nm]] (λx=>decide (x.name=nm)) σ (λx _=>ak3 x nm σ)];simp only[aI,reduceCtorEq];rw[CM];rcases td (λx:cD=>decide (x.name=nm)) l with⟨h1,_,h3⟩|⟨k,x,h1,h2,h3,h4,_⟩
  ·refine⟨.aM [.agg [.str ⟨#[]⟩,.ah 0,.aA],.bool ι],?_,?_⟩
   ·rw[h1];simp only[aI,reduceCtorEq,show((-1:Int)<0)from by decide];rfl
   ·rw[h3];rfl
  ·refine⟨.aM [.agg (cz x),.bool θ],?_,?_⟩
   ·rw[h3];simp only[aI,reduceCtorEq,nj,nI,nr,nK,nJ,mu,show ¬((k:Int)<0)from by omega,lG 3 cz l h1]
   ·rw[h4];exact agw x θ
 obtain⟨w,h1,h2⟩:=key;exact wrap_eq rfl h1 h2
theorem Vi(l:List cD)(hl:l.length<=aZ)(nm:ByteArray)(σ:Heap):Gg [sl 3 cz l,.str nm] σ=δ (.aM [.agg (cz (iB nm l).1),.bool (iB nm l).2],σ):=by
 refine wrap_eq (v:=.aM [.agg (match l.find? (λx:cD=>decide (x.name=nm))with|some p=>cz p|none=>[.str ⟨#[]⟩,.ah 0,.aA]),.bool (iB nm l).2]) rfl ?_ ?_
 ·show LY (sl 3 cz l) (.str nm) σ=_;rw[CM];unfold LY;simp only[aI,reduceCtorEq]
  refine(oz (S:=Unit) (R:=cD) l (λpre x _=>if x.name=nm then .out x else .go ())
   (λpre _=>[.lbx [.str ⟨#[]⟩,.ah 0,.aA],.bool ι,.ah (pre.length:Int)]) (λ_ _=>σ)
   (λ_=>(.exit 0,[.lbx [.str ⟨#[]⟩,.ah 0,.aA],.bool ι,.ah (l.length:Int)],σ)) (λpre _ r=>(.ret,[.lbx (cz r),.bool θ,.ah (pre.length:Int)],σ))
   (λ_ _=>True) () (λ_=>δ (Yu [.agg [.str ⟨#[]⟩,.ah 0,.aA],.bool ι],σ)) (λr=>δ (Yu [.agg (cz r),.bool θ],σ)) ?_ ?_ trivial (λ_ _ _ _ _ _ _ _=>trivial) ?_ ?_).trans ?_
  ·intro pre x rest u hl' _;have hx:=oC hl';have hlt:=qv hl';have hi1:ξ.wrap ((pre.length:Int)+1)=(pre.length:Int)+1:=cq (by unfold aY;unfold aZ at hl;omega);have hlt':(pre.length:Int)<(l.length:Int):=by omega
   have jy:=lG 3 cz l hx;clear hl' hx hlt hl;simp only[aI,reduceCtorEq,nj,nI,nr,nK,nJ,mu,hlt',jy,hi1]
   repeat' ((first|rw[oT]|rw[oS]|rw[oR]|rw[oK]|rw[oQ]|rw[oP]);split<;>try simp only[aI,reduceCtorEq,nj,nI,nr,nK,nJ,mu, *])
   all_goals first|with_reducible rfl|(simp [*];done)|(simp_all;done)|(simp_all;omega)|rfl
  ·intro u _;simp only[aI,reduceCtorEq,Xz]
  ·intro u _;simp only[aI,reduceCtorEq];rfl
  ·intros;simp only[aI,reduceCtorEq,nj,nI,nr,nK,nJ,mu]
  ·have key:∀(l pre:List cD),(l9 (λ(_:List cD)(x:cD)(_:Unit)=>if x.name=nm then(Rd.out x:Rd Unit cD)else .go ()) pre l ()).el (λ_=>δ (Yu [.agg [.str ⟨#[]⟩,.ah 0,.aA],.bool ι],σ)) (λr=>δ (Yu [.agg (cz r),.bool θ],σ))=δ (.aM [.agg (match l.find? (λx:cD=>decide (x.name=nm))with|some p=>cz p|none=>[.str ⟨#[]⟩,.ah 0,.aA]),.bool (match l.find? (λx:cD=>decide (x.name=nm))with|some p=>(p,θ)|none=>(⟨⟨#[]⟩,0,[]⟩,ι)).2],σ):=by
    intro l;induction l with
    |nil=>intro pre;rfl
    |cons x l ih=>
     intro pre;rw[l9];by_cases h:x.name=nm
     ·simp [h,Rd.el]
     ·simp only[aO h,ih];simp [h]
   exact key l []
 ·rw[CM];cases hf:l.find? (λx:cD=>decide (x.name=nm))with
  |none=>rfl
  |some p=>exact agw p θ
def marks(f:Nat->Bool):aq:=(List.range 513).map λk=>.bool (f k)
theorem Ju(f:Nat->Bool){k:Nat}(h:k<513):(marks f)[k]? =δ (.bool (f k)):=by simp [marks,h]
theorem Gp(f:Nat->Bool):(marks f).length=513:=by simp [marks]
theorem adb(f:Nat->Bool){γ:Type}(K1 K2:γ):∀(s a:Nat)(pre:List Nat),(l9 (λ_ k(_:Unit)=>if 512<k\/f k=θ then(Rd.out ():Rd Unit Unit)else .go ()) pre (YO a s) ()).el (λ_=>K1) (λ_=>K2)=if zI f s a=θ then K1 else K2
 |0,a,pre=>by simp [l9,zI,Rd.el]
 |s+1,a,pre=>by
  rw[aDW,l9,zI];by_cases h:512<a\/f a=θ
  ·simp only[aP h,Rd.el];simp
  ·simp only[aO h];exact adb f K1 K2 s (a+1) _
theorem ast(a s:Int)(h:aY (a+s))(h':aY (a+s-1))(σ:Heap):ID [.np,.ah a,.ah s] σ=δ (.bool (decide (a+s-1<=512)),σ):=by refine wrap_eq rfl ?_ rfl;show Ly .np (.ah a) (.ah s) σ=_;unfold Ly;simp only[aI,reduceCtorEq,show ZA .p aDa aDa=δ (.bool θ)from rfl,cq h,cq h']
theorem aqd(cs:aq){k:Nat}(h:k<513):A.Cc 513 1 (.rp cs) (.ah (k:Int))=δ (.rp (cs.drop k)):=by
 have h1:A.idx 513 (.ah (k:Int))=δ k:=by show(if(0:Int)<=(k:Int)/\(k:Int)<((513:Nat):Int)then δ (k:Int).toNat else μ)=δ k;rw[aP ⟨by omega,by omega⟩];rfl
 unfold A.Cc;rw[h1];simp only[aJ,Nat.mul_one]
theorem asv(f:Nat->Bool)(a s:Nat)(hs:a<=1024/\s<=1024)(σ:Heap):ID [.rp (marks f),.ah (a:Int),.ah (s:Int)] σ=δ (.bool (zI f s a),σ):=by
 refine wrap_eq rfl ?_ rfl;show Ly (.rp (marks f)) (.ah (a:Int)) (.ah (s:Int)) σ=_;unfold Ly;have hw:ξ.wrap ((a:Int)+s)=(a:Int)+s:=cq (by unfold aY;omega);simp only[aI,reduceCtorEq,show ZA .p (ZN (marks f)) aDa=δ (.bool ι)from rfl,hw]
 refine(oz (S:=Unit) (R:=Unit) (YO a s) (λ_ k(_:Unit)=>if 512<k\/f k=θ then(Rd.out ():Rd Unit Unit)else .go ())
  (λpre _=>[.bool ι,.ah ((a:Int)+(pre.length:Int))]) (λ_ _=>σ) (λ_=>(.exit 0,[.bool ι,.ah ((a:Int)+s)],σ)) (λpre _ _=>(.ret,[.bool ι,.ah ((a:Int)+(pre.length:Int))],σ))
  (λ_ _=>True) () (λ_=>δ (Λ θ,σ)) (λ_=>δ (Λ ι,σ)) ?_ ?_ trivial (λ_ _ _ _ _ _ _ _=>trivial) ?_ ?_ (hv:=by simp)).trans ?_
 ·intro pre k rest u hl _;have hx:=oC hl;have hlt:=qv hl;rw[XO]at hlt
  obtain rfl:a+pre.length=k:=by have:=(bG.1 hx).2;simpa [aDm]using this
  have hlt':(a:Int)+(pre.length:Int)<(a:Int)+s:=by omega
  have hi1:ξ.wrap ((a:Int)+(pre.length:Int)+1)=(a:Int)+((pre.length:Int)+1):=by rw[cq (by unfold aY;omega)];omega
  have ecast:(a:Int)+(pre.length:Int)=((a+pre.length:Nat):Int):=by omega
  clear hl hx;by_cases h5:512<a+pre.length
  ·have aCR:(512:Int)<(a:Int)+(pre.length:Int):=by omega
   simp only[aI,reduceCtorEq,hlt',h5,aCR]
  have aCR:¬(512:Int)<(a:Int)+(pre.length:Int):=by omega
  have hp:Γ 0 ((marks f).drop (a+pre.length))=δ (.bool (f (a+pre.length))):=by rw[p1D];simp only[Γ,Nat.add_zero,Ju f (show a+pre.length<513 by omega)];rfl
  simp only[aI,reduceCtorEq,hlt',h5,aCR,show ZP (ZN (marks f))=δ (.rp (marks f))from rfl];rw[ecast,aqd _ (by omega)];simp only[aI,reduceCtorEq,hp];cases hf:f (a+pre.length)
  ·simp only[aI,reduceCtorEq,<-ecast,hi1]
  ·simp only[aI,reduceCtorEq,<-ecast]
 ·intro u _;rw[XO];exact yg _ _ _
 ·intro u _;simp only[aI,reduceCtorEq]
 ·intros;simp only[aI,reduceCtorEq]
 ·rw[adb];cases zI f s a<;>rfl
theorem asu(f:Nat->Bool)(a s:Nat)(hs:a<=1024/\s<=1024){σ:Heap}{id:Nat}(h:σ[id]? =δ (.box (marks f))):ID [.op id 0,.ah (a:Int),.ah (s:Int)] σ=δ (.bool (zI f s a),σ):=by
 refine ae4 (args':=[.rp (marks f),.ah (a:Int),.ah (s:Int)]) rfl ?_ rfl (asv f a s hs []) rfl
 have e:A.yw σ 0 7 (marks f)=δ (marks f):=by
  have key:∀(l:List Nat),A.yw σ 0 7 (l.map λk=>Λ (f k))=δ (l.map λk=>Λ (f k)):=by
   intro l;induction l with
   |nil=>simp [A.yw]
   |cons x l ih=>simp [A.yw,X4,ih]
  exact key _
 simp [A.gP,X4,h,e]
def xU(b:Nat):List Int->List (AV×AV)
 |[]=>[]
 |v::r=>(.int ξ v,.op b 0)::xU (b+1) r
def kP(σ:Heap)(vs:List Int)(f:Int->Nat->Bool):Heap:=σ++(Z0 (xU (σ.length+1) vs)::vs.map λv=>Vs (marks (f v)))
theorem ae2(v:Int):∀(vs:List Int)(b:Nat),xU b (vs++[v])=xU b vs++[(.ah v,.op (b+vs.length) 0)]
 |[],b=>rfl
 |w::r,b=>by simp only[oJ,xU,ae2 v r (b+1),YZ];rw[show b+1+r.length=b+(r.length+1) by omega]
theorem Rw(v:Int):∀(vs:List Int)(b:Nat),Wh .i (.ah v) (xU b vs)=δ (if v∈vs then δ (.op (b+vs.idxOf v) 0)else μ)
 |[],b=>rfl
 |w::r,b=>by
  simp only[xU,Wh,WN,A.qH,if_true,aJ];by_cases h:v=w
  ·subst h;simp
  ·have h1:(v==w)=ι:=by simpa using h
   have h2:(w==v)=ι:=by simpa using λe:w=v=>h e.symm
   simp only[h1,bQ,Rw v r (b+1),jP,h,false_or,List.idxOf_cons,h2];rw[show b+1+r.idxOf v=b+(r.idxOf v+1) by omega]
theorem afU(v:Int)(w:AV):∀(vs:List Int)(b:Nat),v∉vs->A.upd .i (.ah v) w (xU b vs)=δ (xU b vs++[(.ah v,w)])
 |[],b,_=>rfl
 |x::r,b,h=>by
  simp only[jP,not_or]at h;have h1:(v==x)=ι:=by simpa using h.1
  simp only[xU,A.upd,WN,A.qH,if_true,aJ,h1,bQ,afU v w r (b+1) h.2,cR,oJ]
theorem afW(σ:Heap)(vs:List Int)(f:Int->Nat->Bool):(kP σ vs f).length=σ.length+1+vs.length:=by simp [kP];omega
theorem RS(σ:Heap)(vs:List Int)(f:Int->Nat->Bool):(kP σ vs f)[σ.length]? =δ (.map (xU (σ.length+1) vs)):=by simp [kP]
theorem afV(σ:Heap){vs:List Int}(f:Int->Nat->Bool){v:Int}(h:v∈vs):(kP σ vs f)[σ.length+1+vs.idxOf v]? =δ (.box (marks (f v))):=by
 unfold kP;rw[jq (by omega),show σ.length+1+vs.idxOf v-σ.length=vs.idxOf v+1 by omega,Y5,uz]
 have:vs[vs.idxOf v]? =δ v:=by have hl:=List.idxOf_lt_length_of_mem h;rw[cC hl,List.getElem_idxOf hl]
 rw[this];rfl
theorem atI(σ:Heap){vs:List Int}(hn:vs.Nodup){f f':Int->Nat->Bool}{v:Int}(h:v∈vs)(ho:∀w,w≠v->f' w=f w):(kP σ vs f).set (σ.length+1+vs.idxOf v) (.box (marks (f' v)))=kP σ vs f':=by
 unfold kP;rw[sy _ _ (by omega),show σ.length+1+vs.idxOf v-σ.length=vs.idxOf v+1 by omega,aC4];refine congrArg (λz=>σ++(Z0 (xU (σ.length+1) vs)::z)) ?_;clear σ;induction vs with
 |nil=>cases h
 |cons w r ih=>
  rw[pN]at hn;rw[List.idxOf_cons];by_cases e:w=v
  ·subst e;simp only[beq_self_eq_true,cU,eP,aC5];exact congrArg (Vs (marks (f' w))::·) (Yq λx hx=>by rw[ho x (λe=>hn.1 (e▸hx))])
  ·have e2:(w==v)=ι:=by simpa using e
   simp only[e2,bQ,eP,aC4];rw[ih hn.2 ((jP.1 h).resolve_left λq=>e q.symm),ho w e]
theorem atH(σ:Heap)(vs:List Int){f:Int->Nat->Bool}{v:Int}(h:∀k,f v k=ι):((kP σ vs f)++[Vs (Z3 513 aR)]).set σ.length (.map (xU (σ.length+1) (vs++[v])))=kP σ (vs++[v]) f:=by
 have e:marks (f v)=Z3 513 aR:=by rw[show f v=λ_=>ι from funext h];refine List.eq_replicate_iff.2 ⟨Gp _,λb hb=>?_⟩;obtain⟨k,_,rfl⟩:=gh.1 hb;rfl
 unfold kP;simp only[lp,oJ];rw[sy _ _ (bN _),Yp,aC5,Z6,eP,e];rfl
theorem apx(g g':Nat->Bool){k:Nat}(hk:k<513)(h1:g' k=θ)(h2:∀j,j≠k->g' j=g j):ir k [Λ θ] (marks g)=δ (marks g'):=by
 unfold ir;rw[aP (by rw[Gp];simp;omega)];refine congrArg δ (List.ext_getElem? λj=>?_);simp only[lp,oJ,V7,YZ,UB];by_cases hj:j<k
 ·rw[iS (by rw[rM,Gp];omega),WG hj,Ju _ (by omega),Ju _ (by omega),h2 j (by omega)]
 ·rw[jq (by rw[rM,Gp];omega),rM,Gp,Nat.min_eq_left (by omega)];by_cases e:j=k
  ·subst e;rw[Yp,List.getElem?_cons_zero,Ju _ hk,h1]
  ·rw[show j-k=(j-k-1)+1 by omega,Y5,ZW,show k+(0+1)+(j-k-1)=j by omega];by_cases hj2:j<513
   ·rw[Ju _ hj2,Ju _ hj2,h2 j e]
   ·rw[rK (by rw[Gp];omega),rK (by rw[Gp];omega)]
theorem R8{α γ:Type}(K1:Unit->γ)(K2:Unit->γ):∀(l pre:List α),(l9 (λ_(x:α)(_:Unit)=>(Rd.go ():Rd Unit Unit)) pre l ()).el K1 K2=K1 ()
 |[],pre=>rfl
 |x::l,pre=>by rw[l9];exact R8 K1 K2 l _
theorem acG{α S:Type}{body:List α->α->S->Rd S Int}{uP:List α->List α->Int}(h0:∀pre,uP pre []=0)(h:∀pre x rest s,uP pre (x::rest)=(body pre x s).el (λ_=>uP (pre++[x]) rest) (λr=>r)) {γ:Type} (K:Int->γ):
  ∀(l pre:List α)(s:S),(l9 body pre l s).el (λ_=>K 0) K=K (uP pre l)
 |[],pre,s=>by rw[l9,h0];rfl
 |x::l,pre,s=>by
  rw[l9,h pre x l s];cases body pre x s with
  |go s'=>exact acG h0 h K l (pre++[x]) s'
  |out r=>rfl
theorem anT(f:Int->Nat->Bool)(v:Int)(a:Nat):su f v a 0=f:=by funext w k;unfold su;rw[aO (by omega)]
theorem adX{γ:Type}(σ:Heap){vs:List Int}(hn:vs.Nodup)(f:Int->Nat->Bool)(u:iw)(a s:Nat)(ha:u.address=a)(hs:a+s<=513)(hm:u.univ∈vs)(K:aq->Heap->Option γ):
  (Y7 (λv11 mm=>
   ((Tv (aj v11 0)).bind λ_=>δ (3)).bind λp13=>
   ((Tv (aj v11 0)).bind λia=>Γ p13 ia).bind λcN=>
   (WE cN (.ah (s:Int))).bind λbO=>
   (YY (aj v11 1) bO).bind λcg=>
   φ cg (
    ((Tv (aj v11 0)).bind λ_=>δ (2)).bind λp18=>
    ((Tv (aj v11 0)).bind λiz=>Γ p18 iz).bind λcS=>
    (Yt .i (.om σ.length) cS aDa mm).bind λbL=>
    (ZP bL).bind λcI=>
    (A.Cc 513 1 cI (aj v11 1)).bind λep=>
    (XZ ep [Λ θ] mm).bind λiA=>
    (WE (aj v11 1) (ε 1)).bind λfH=>
    δ (Xv,[(aj v11 0),fH],iA)) (
    δ (Ξ 0,[(aj v11 0),(aj v11 1)],mm))) [.lbx (dh u),.ah (a:Int)] (kP σ vs f)).bind (λqN=>
 bif decide (qN.1=Ξ 0)then K qN.2.1 qN.2.2 else μ)=K [.lbx (dh u),.ah ((a:Int)+s)] (kP σ vs (su f u.univ a s)):=by
 have hw:ξ.wrap ((a:Int)+s)=(a:Int)+s:=cq (by unfold aY;omega)
 refine(oz (S:=Unit) (R:=Unit) (YO a s) (λ_ k(_:Unit)=>(Rd.go ():Rd Unit Unit))
  (λpre _=>[.lbx (dh u),.ah ((a:Int)+(pre.length:Int))]) (λpre _=>kP σ vs (su f u.univ a pre.length)) (λ_=>(.exit 0,[.lbx (dh u),.ah ((a:Int)+s)],kP σ vs (su f u.univ a s))) (λpre _ _=>(.ret,[],σ))
  (λ_ _=>True) () (λ_=>K [.lbx (dh u),.ah ((a:Int)+s)] (kP σ vs (su f u.univ a s))) (λ_=>μ) ?_ ?_ trivial (λ_ _ _ _ _ _ _ _=>trivial) ?_ ?_ (hv:=by simp) (iW:=by rw[UB,anT])).trans (R8 _ _ _ _)
 ·intro pre k rest t hl _;have hx:=oC hl;have hlt:=qv hl;rw[XO]at hlt
  obtain rfl:a+pre.length=k:=by have:=(bG.1 hx).2;simpa [aDm]using this
  have hlt':(a:Int)+(pre.length:Int)<(a:Int)+s:=by omega
  have hi1:ξ.wrap ((a:Int)+(pre.length:Int)+1)=(a:Int)+((pre.length:Int)+1):=by rw[cq (by unfold aY;omega)];omega
  have ecast:(a:Int)+(pre.length:Int)=((a+pre.length:Nat):Int):=by omega
  clear hl hx
  have X2:Yt .i (.om σ.length) (.ah u.univ) aDa (kP σ vs (su f u.univ a pre.length))=δ (.op (σ.length+1+vs.idxOf u.univ) 0):=by rw[EN .i rfl (RS σ vs _),Rw,aP hm];rfl
  have aw7:A.Cc 513 1 (.op (σ.length+1+vs.idxOf u.univ) 0) (.ah ((a+pre.length:Nat):Int))=δ (.op (σ.length+1+vs.idxOf u.univ) (a+pre.length)):=by
   have h1:A.idx 513 (.ah ((a+pre.length:Nat):Int))=δ (a+pre.length):=by show(if(0:Int)<=((a+pre.length:Nat):Int)/\((a+pre.length:Nat):Int)<((513:Nat):Int)then δ ((a+pre.length:Nat):Int).toNat else μ)=_;rw[aP ⟨by omega,by omega⟩];rfl
   unfold A.Cc;rw[h1];simp only[aJ,Nat.mul_one,YW]
  have hst:XZ (.op (σ.length+1+vs.idxOf u.univ) (a+pre.length)) [.bool θ] (kP σ vs (su f u.univ a pre.length))=δ (kP σ vs (su f u.univ a (pre.length+1))):=by
   simp only[XZ,afV σ _ hm]
   rw[apx _ (su f u.univ a (pre.length+1) u.univ) (by omega) (by unfold su;rw[aP ⟨rfl,by omega,by omega⟩]) (λj hj=>by
    unfold su;by_cases q:a<=j/\j<a+pre.length
    ·rw[aP ⟨rfl,by omega,by omega⟩,aP ⟨rfl,q.1,q.2⟩]
    ·rw[aO (by omega),aO (by omega)])]
   simp only[cR];rw[atI σ hn hm (λw hw=>by funext j;unfold su;rw[aO (λq=>hw q.1),aO (λq=>hw q.1)])]
  simp only[aI,reduceCtorEq,mH,mI,mJ,mK,mN,mM,mw,ha,hw,hlt',X2,show ZP (.op (σ.length+1+vs.idxOf u.univ) 0)=δ (.op (σ.length+1+vs.idxOf u.univ) 0)from rfl];rw[ecast,aw7];simp only[aI,reduceCtorEq,hst,<-ecast,hi1]
 ·intro t _;rw[XO];simp only[aI,reduceCtorEq,mH,mI,mJ,mK,mN,mM,mw,ha,hw,Xz]
 ·intro t _;simp only[aI,reduceCtorEq]
 ·intro pre x rest t r _ _ hb;cases hb
theorem atE(σ:Heap){vs:List Int}(hn:vs.Nodup)(f:Int->Nat->Bool)(u:iw)(a s:Nat)(ha:u.address=a)(hs:a+s<=513)(hf:u.univ∉vs->∀k,f u.univ k=ι):
  P5 [.om σ.length,.agg (dh u),.ah (s:Int)] (kP σ vs f)=δ (.aM [],kP σ (if u.univ∈vs then vs else vs++[u.univ]) (su f u.univ a s)):=by
 have e:LN (.om σ.length) (.agg (dh u)) (.ah (s:Int)) (kP σ vs f)=δ (.aM [],kP σ (if u.univ∈vs then vs else vs++[u.univ]) (su f u.univ a s)):=by
  unfold LN
  have X2:Yt .i (.om σ.length) (.ah u.univ) aDa (kP σ vs f)=δ (if u.univ∈vs then .op (σ.length+1+vs.idxOf u.univ) 0 else .np):=by rw[EN .i rfl (RS σ vs _),Rw];by_cases hm:u.univ∈vs<;>simp [hm]
  simp only[aI,reduceCtorEq,mH,mI,mJ,mK,mN,mM,mw,X2];by_cases hm:u.univ∈vs
  ·simp only[aP hm,show ZA .p (.op (σ.length+1+vs.idxOf u.univ) 0) aDa=δ (.bool ι)from rfl,aI,reduceCtorEq,mH,mI,mJ,mK,mN,mM,mw,ha];exact adX σ hn f u a s ha hs hm λ_ h=>δ (Yu [],h)
  ·have hup:A.jX .i (.om σ.length) (.ah u.univ) (.op (kP σ vs f).length 0) (kP σ vs f++[Vs (Z3 513 aR)])=δ (kP σ (vs++[u.univ]) f):=by rw[C0 .i rfl (es:=xU (σ.length+1) vs) (by rw[iS (by rw[afW];omega)];exact RS σ vs f),afU _ _ _ _ hm];rw[cR,afW,<-ae2,atH σ vs (hf hm)]
   simp only[aO hm,show ZA .p aDa aDa=δ (.bool θ)from rfl,aI,reduceCtorEq,mH,mI,mJ,mK,mN,mM,mw,hup,ha];exact adX σ (by rw[List.nodup_append];exact⟨hn,by simp,λx hx y hy e=>hm (by simp at hy;rw[<-hy,<-e];exact hx)⟩) f u a s ha hs (by simp) λ_ h=>δ (Yu [],h)
 unfold P5 Ω;rw[U7,bQ];show(LN (.om σ.length) (.agg (dh u)) (.ah (s:Int)) (kP σ vs f)).map _=_;rw[e];rfl
theorem BG(n:Int)(σ:Heap):EB [.ah n] σ=δ (.bool (aT n 0 65535),σ):=by refine wrap_eq rfl ?_ rfl;show U4 (.ah n) σ=_;unfold U4;simp only[aI,reduceCtorEq,qY]
theorem adV(x:ey)(σ:Heap):QE [.agg (cG x)] σ=δ (sl 1 oL (sw x.jS x.iy),σ):=by
 refine wrap_eq (v:=sl 1 oL (sw x.jS x.iy)) rfl ?_ rfl;show V3 (.agg (cG x)) σ=_;unfold V3 sw;simp only[aI,reduceCtorEq,qp,qS,qT,qU,qV,qW,qX,rj,qZ,nY]
 repeat' ((first|rw[oT]|rw[oS]|rw[oR]|rw[oK]|rw[oQ]|rw[oP]);split<;>try simp only[aI,reduceCtorEq, *])
 all_goals rfl
theorem aqp(σ:Heap)(l:List p7):(l9 (λpre(x:p7)(_:Unit)=>
    if aT x.low 0 65535=ι\/aT x.high 0 65535=ι\/x.high<x.low then(.out 1:Rd Unit Int)
    else if 0<pre.length/\x.low<=(pre.getLast?.map (·.high)).getD 0 then .out 7
    else if rF x.name=ι then .out 5
    else if gZ x.name (pre.map (·.name))=θ then .out 6 else .go ()) [] l ()).el (λ_=>δ (ε 0,σ)) (λr=>δ (ε r,σ))=δ (.ah (G8 [] l),σ):=by
 refine(EF (uP:=G8) ?_ ?_ (λn=>δ (ε n,σ)) l []).trans ?_
 ·intro pre;rfl
 ·intro pre x rest;rw[G8];simp only[B5,zy,zH]
 ·rfl
theorem akQ(x:ey)(hx:aCM x)(l:List ey)(hl:l.length<=aZ)(size:Int)(hf:∀y∈l,0<=y.iy)(σ:Heap):Uh [.agg (cG x),sl 7 cG l,.ah size] σ=δ (.ah (zU size l x),σ):=by
 refine wrap_eq rfl ?_ rfl;show Um (.agg (cG x)) (sl 7 cG l) (.ah size) σ=_;obtain⟨k1,k2,k3,k4,k5,k6⟩:=hx;have hN:=Qz _ k1;unfold Um zU;simp only[aI,reduceCtorEq,qp,qS,qT,qU,qV,qW,qX,rj,qZ,nY,hN];cases hn:rF x.name
 ·simp only[aI,reduceCtorEq]
 simp only[aI,reduceCtorEq];refine(BU l (λy=>decide (y.name=x.name)) (λi=>[.lbx (cG x),.ah 0,.ah (i:Int)]) σ (.exit 0,[.lbx (cG x),.ah 0,.ah (l.length:Int)],σ) (λi=>(.ret,[.lbx (cG x),.ah 6,.ah (i:Int)],σ)) _ (δ (.ah 6,σ)) ?_ ?_ rfl ?_).trans ?_
 ·intro i y hy;obtain⟨h1,h2,h3⟩:=zn 7 cG hy;have h3:=h3 hl;simp only[aI,reduceCtorEq,qp,qS,qT,qU,qV,qW,qX,rj,qZ,nY,h1,h2,h3]
  repeat' ((first|rw[oT]|rw[oS]|rw[oR]|rw[oK]|rw[oQ]|rw[oP]);split<;>try simp only[aI,reduceCtorEq, *])
 ·simp only[aI,reduceCtorEq,Xz]
 ·intro i;simp only[aI,reduceCtorEq]
 rw[<-Rk x.name (λy:ey=>y.name)];cases hm:gZ x.name (l.map (·.name))
 ·simp only[aI,reduceCtorEq,qp,qS,qT,qU,qV,qW,qX,rj,qZ,nY,qY,BG];cases hg:aT x.group 1 4
  ·simp only[aI,reduceCtorEq]
  simp only[aI,reduceCtorEq];by_cases hw:aT x.jS 1 size=ι\/aT x.iy 0 size=ι\/aT x.default 0 65535=ι
  ·rw[aP hw];cases ha:aT x.jS 1 size
   ·simp only[aI,reduceCtorEq]
   cases hb:aT x.iy 0 size
   ·simp only[aI,reduceCtorEq,qY,hb]
   ·have hc:aT x.default 0 65535=ι:=by simpa [ha,hb]using hw
    simp only[aI,reduceCtorEq,qY,BG,hb,hc]
  ·rw[aO hw];simp only[not_or,aDb]at hw;obtain⟨ha,hb,hc⟩:=hw;have hx0:0<=x.iy:=by simp [aT]at hb;exact hb.1
   simp only[aI,reduceCtorEq,qY,BG,ha,hb,hc];by_cases he:x.jS=x.iy
   ·simp only[aI,reduceCtorEq,he]
   simp only[aI,reduceCtorEq,he];refine(BU l (λy=>JV x.jS x.iy y.jS y.iy) (λi=>[.lbx (cG x),.ah 0,.ah (i:Int)]) σ (.exit 3,[.lbx (cG x),.ah 0,.ah (l.length:Int)],σ) (λi=>(.ret,[.lbx (cG x),.ah 12,.ah (i:Int)],σ)) _ (δ (.ah 12,σ)) ?_ ?_ rfl ?_).trans ?_
   ·intro i y hy;obtain⟨h1,h2,h3⟩:=zn 7 cG hy;have h3:=h3 hl;have mV:∀a b:Int,(sw a b).length<=aZ:=by intro a b;unfold sw aZ;split<;>simp
    simp only[aI,reduceCtorEq,qp,qS,qT,qU,qV,qW,qX,rj,qZ,nY,h1,h2,h3,adV];refine(BU (sw x.jS x.iy) (λs=>gZ s (sw y.jS y.iy)) (λj=>[.lbx (cG x),.ah 0,.lbx (cG y),.ah (j:Int)]) σ (.exit 5,[.lbx (cG x),.ah 0,.lbx (cG y),.ah ((sw x.jS x.iy).length:Int)],σ) (λj=>(.ret,[.lbx (cG x),.ah 12,.lbx (cG y),.ah (j:Int)],σ)) _ (δ (.ret,[.lbx (cG x),.ah 12,.ah (i:Int)],σ)) ?_ ?_ rfl ?_).trans ?_
    ·intro j s hs;obtain⟨g1,g2,g3⟩:=zn 1 oL hs;have g3:=g3 (mV _ _)
     have hc:∀σ,PF [sl 1 oL (sw y.jS y.iy),.ah s] σ=δ (.bool (gZ s (sw y.jS y.iy)),σ):=by intro σ;rw[aja _ (mV _ _) s σ];simp only[gZ];congr 4;funext z;rw[decide_eq_decide];exact eq_comm
     simp only[aI,reduceCtorEq,qp,qS,qT,qU,qV,qW,qX,rj,qZ,nY,g1,g2,g3,adV,hc];cases gZ s (sw y.jS y.iy)<;>simp only[aI,reduceCtorEq]
    ·simp only[aI,reduceCtorEq,Xz]
    ·intro j;simp only[aI,reduceCtorEq]
    ·simp only[aI,reduceCtorEq,JV,h3];rfl
   ·simp only[aI,reduceCtorEq,Xz]
   ·intro i;simp only[aI,reduceCtorEq]
   have iI:(l.any λy=>JV x.jS x.iy y.jS y.iy)=θ↔(gZ x.jS (slotsOf l)=θ\/(0<x.iy/\gZ x.iy (slotsOf l)=θ)):=ao6 hf hx0;by_cases KP:(l.any λy=>JV x.jS x.iy y.jS y.iy)=θ
   ·rw[aP KP,aP (iI.1 KP)]
   rw[aO KP,aO (λh=>KP (iI.2 h))];clear iI KP;simp only[aI,reduceCtorEq,qp,qS,qT,qU,qV,qW,qX,rj,qZ,nY];unfold BZ;by_cases D8:30<x.ranges.length
   ·have A5:(30:Int)<x.ranges.length:=by omega
    simp only[aI,reduceCtorEq,D8,A5]
   have A5:¬(30:Int)<x.ranges.length:=by omega
   simp only[aI,reduceCtorEq,D8,A5]
   refine(oz (S:=Unit) (R:=Int) x.ranges _
    (λpre _=>[.lbx (cG x),.ah 0,.ah (pre.length:Int)]) (λpre _=>σ)
    (λ_=>(.exit 7,[.lbx (cG x),.ah 0,.ah (x.ranges.length:Int)],σ)) (λpre _ r=>(.ret,[.lbx (cG x),.ah r,.ah (pre.length:Int)],σ))
    (λ_ _=>True) () (λ_=>δ (ε 0,σ)) (λr=>δ (ε r,σ)) ?_ ?_ trivial (λ_ _ _ _ _ _ _ _=>trivial) ?_ ?_).trans (aqp σ x.ranges)
   ·intro pre r rest u hl' _;have hr:=oC hl';have hlt:=qv hl';have hi1:ξ.wrap ((pre.length:Int)+1)=(pre.length:Int)+1:=cq (by unfold aY;omega);have hi2:ξ.wrap ((pre.length:Int) -1)=(pre.length:Int) -1:=cq (by unfold aY;omega);have hlt':(pre.length:Int)<(x.ranges.length:Int):=by omega
    have hnm:=(k6.2 r (by rw[hl'];simp)).2.2;have jy:=lG 3 lI x.ranges hr;have hNr:=Qz _ hnm;have hst:=λσ=>Gj 3 lI x.ranges (k:=pre.length) (by omega) (σ:=σ)
    rw[Rm hl']at hst;have hpl:pre.length<=aZ:=by unfold aZ;omega
    by_cases h0:0<pre.length
    ·obtain⟨y,hy,hy2⟩:=aCf hl' h0;have Hg:=EE 3 lI x.ranges h0 hy2;have mG:(0:Int)<pre.length:=by omega
     clear hl' hr hlt D8 A5 hy2 hnm k1 k2 k3 k4 k5 k6 hN hn hm hg ha hb hc hx0 he hf;simp only[aI,reduceCtorEq,BK,BL,BM,BQ,BO,BR,qp,qS,qT,qU,qV,qW,qX,rj,qZ,nY,hlt',jy,BG,hi1,hi2,hNr,mG,hy,h0]
     repeat' ((first|rw[oT]|rw[oS]|rw[oR]|rw[oK]|rw[oQ]|rw[oP]);split<;>try simp only[aI,reduceCtorEq,BK,BL,BM,BQ,BO,BR,qp,qS,qT,qU,qV,qW,qX,rj,qZ,nY,BG, *])
     all_goals first|rfl|(simp_all;done)|skip
     all_goals
      refine(BU pre (λz=>decide (z.name=r.name)) (λj=>[.lbx (cG x),.ah 0,.lbx (lI r),.ah (j:Int)]) σ (.exit 10,[.lbx (cG x),.ah 0,.lbx (lI r),.ah (pre.length:Int)],σ) (λj=>(.ret,[.lbx (cG x),.ah 6,.lbx (lI r),.ah (j:Int)],σ)) _ (δ (.ret,[.lbx (cG x),.ah 6,.ah (pre.length:Int)],σ)) ?_ ?_ rfl ?_).trans ?_
      ·intro j z hz;obtain⟨g1,g2,g3⟩:=zn 3 lI hz;have g3:=g3 hpl;simp only[aI,reduceCtorEq,BK,BL,BM,BQ,BO,BR,g1,g2,g3]
       repeat' ((first|rw[oT]|rw[oS]|rw[oR]|rw[oK]|rw[oQ]|rw[oP]);split<;>try simp only[aI,reduceCtorEq, *])
      ·simp only[aI,reduceCtorEq,Xz]
      ·intro j;simp only[aI,reduceCtorEq]
      ·rw[<-Rk r.name (λz:p7=>z.name)]
       simp_all [aI,reduceCtorEq]
       try (split<;>simp_all)
    ·have mG:¬(0:Int)<pre.length:=by omega
     clear hl' hr hlt D8 A5 hnm k1 k2 k3 k4 k5 k6 hN hn hm hg ha hb hc hx0 he hf;simp only[aI,reduceCtorEq,BK,BL,BM,BQ,BO,BR,qp,qS,qT,qU,qV,qW,qX,rj,qZ,nY,hlt',jy,BG,hi1,hi2,hNr,mG,h0]
     repeat' ((first|rw[oT]|rw[oS]|rw[oR]|rw[oK]|rw[oQ]|rw[oP]);split<;>try simp only[aI,reduceCtorEq,BK,BL,BM,BQ,BO,BR,qp,qS,qT,qU,qV,qW,qX,rj,qZ,nY,BG, *])
     all_goals first|rfl|(simp_all;done)|skip
     all_goals
      refine(BU pre (λz=>decide (z.name=r.name)) (λj=>[.lbx (cG x),.ah 0,.lbx (lI r),.ah (j:Int)]) σ (.exit 10,[.lbx (cG x),.ah 0,.lbx (lI r),.ah (pre.length:Int)],σ) (λj=>(.ret,[.lbx (cG x),.ah 6,.lbx (lI r),.ah (j:Int)],σ)) _ (δ (.ret,[.lbx (cG x),.ah 6,.ah (pre.length:Int)],σ)) ?_ ?_ rfl ?_).trans ?_
      ·intro j z hz;obtain⟨g1,g2,g3⟩:=zn 3 lI hz;have g3:=g3 hpl;simp only[aI,reduceCtorEq,BK,BL,BM,BQ,BO,BR,g1,g2,g3]
       repeat' ((first|rw[oT]|rw[oS]|rw[oR]|rw[oK]|rw[oQ]|rw[oP]);split<;>try simp only[aI,reduceCtorEq, *])
      ·simp only[aI,reduceCtorEq,Xz]
      ·intro j;simp only[aI,reduceCtorEq]
      ·rw[<-Rk r.name (λz:p7=>z.name)]
       simp_all [aI,reduceCtorEq]
       try (split<;>simp_all)
   ·intro u _;simp only[aI,reduceCtorEq,Xz]
   ·intro u _;simp only[aI,reduceCtorEq]
   ·intros;simp only[aI,reduceCtorEq]
 ·simp only[aI,reduceCtorEq]
theorem akl(p:cD)(hok:Gq p)(σ:Heap):TW [.agg (cz p)] σ=δ (.ah (p5 p),σ):=by
 refine wrap_eq rfl ?_ rfl;show aAT (.agg (cz p)) σ=_;obtain⟨pn,ps,l⟩:=p;obtain⟨hnm,hps,Hi⟩:=hok;simp only at hnm hps Hi;have hN:=Qz _ hnm;unfold aAT p5;simp only[aI,reduceCtorEq,nj,nI,nr,nK,nJ,mu,hN,qY];cases hn:rF pn
 ·simp only[aI,reduceCtorEq]
 cases hz:aT ps 1 512
 ·simp only[aI,reduceCtorEq]
 by_cases h0:l.length=0
 ·obtain rfl:l=[]:=xC h0;simp [aI,reduceCtorEq]
 have mG:¬(l.length:Int)=0:=by omega
 by_cases HU:40<l.length
 ·have DE:(40:Int)<l.length:=by omega
  simp only[aI,reduceCtorEq,h0,mG,HU,DE]
 have DE:¬(40:Int)<l.length:=by omega
 simp only[aI,reduceCtorEq,h0,mG,HU,DE]
 refine(oz (S:=Unit) (R:=Int) l (λpre x _=>if zU ps pre x=0 then .go ()else .out (zU ps pre x))
  (λpre _=>[.lbx (cz ⟨pn,ps,l⟩),.ah 0,.ah (pre.length:Int)]) (λpre _=>σ)
  (λ_=>(.exit 1,[.lbx (cz ⟨pn,ps,l⟩),.ah 0,.ah (l.length:Int)],σ))
  (λpre _ r=>(.ret,[.lbx (cz ⟨pn,ps,l⟩),.ah r,.ah (pre.length:Int)],σ))
  (λpre _=>∀y∈pre,0<=y.iy) () (λ_=>δ (ε 0,σ)) (λr=>δ (ε r,σ)) ?_ ?_ (by simp) ?_ ?_ ?_).trans ?_
 ·intro pre x rest u hl hpre;have hx:=oC hl;have hlt:=qv hl;have hi1:ξ.wrap ((pre.length:Int)+1)=(pre.length:Int)+1:=cq (by unfold aY;omega);have hi2:ξ.wrap ((pre.length:Int) -1)=(pre.length:Int) -1:=cq (by unfold aY;omega);have hlt':(pre.length:Int)<(l.length:Int):=by omega
  have hX:=akQ x (Hi.2 x (by rw[hl];simp)) pre (by unfold aZ;omega) ps hpre σ;have jy:=lG 7 cG l hx;have hst:=λσ=>Gj 7 cG l (k:=pre.length) (by omega) (σ:=σ)
  rw[Rm hl]at hst;clear hl hx hlt Hi HU DE h0 mG hnm hps hN hn hz hpre;simp only[aI,reduceCtorEq,qp,qS,qT,qU,qV,qW,qX,rj,qZ,nY,nj,nI,nr,nK,nJ,mu,hlt',jy,hst,hX,hi1]
  repeat' ((first|rw[oT]|rw[oS]|rw[oR]|rw[oK]|rw[oQ]|rw[oP]);split<;>try simp only[aI,reduceCtorEq,qp,qS,qT,qU,qV,qW,qX,rj,qZ,nY, *])
  all_goals first|with_reducible rfl|(simp [*];done)|(simp_all;done)|(simp_all;omega)|rfl
 ·intro u _;exact yg _ _ _
 ·intro pre x rest s s' hl hpre hb y hy;rcases jQ.1 hy with hy|hy
  ·exact hpre y hy
  ·simp at hy;subst hy;by_cases h:zU ps pre y=0
   ·exact ao5 h
   ·rw[aO h]at hb;cases hb
 ·intro u _;simp only[aI,reduceCtorEq]
 ·intros;simp only[aI,reduceCtorEq]
 ·refine(EF (uP:=AZ ps) ?_ ?_ (λn=>δ (ε n,σ)) l []).trans ?_
  ·intro pre;rfl
  ·intro pre x rest;rw[ac0];simp only[B5,zy,zH]
  ·rfl
theorem akk(l:List cD)(hok:fZ Gq l)(σ:Heap):aAV [sl 3 cz l] σ=δ (.ah (wE l),σ):=by
 refine wrap_eq rfl ?_ rfl;show aAA (sl 3 cz l) σ=_;unfold aAA wE;simp only[aI,reduceCtorEq];by_cases yT:60<l.length
 ·have sD:(60:Int)<l.length:=by omega
  simp only[aI,reduceCtorEq,yT,sD]
 have sD:¬(60:Int)<l.length:=by omega
 simp only[aI,reduceCtorEq,yT,sD]
 refine(oz (S:=Unit) (R:=Int) l (λpre x _=>if p5 x=0 then(if gZ x.name (pre.map (·.name))=θ then .out 6 else .go ())else .out (p5 x))
  (λpre _=>[.ah 0,.ah (pre.length:Int)]) (λpre _=>σ)
  (λ_=>(.exit 0,[.ah 0,.ah (l.length:Int)],σ)) (λpre _ r=>(.ret,[.ah r,.ah (pre.length:Int)],σ))
  (λ_ _=>True) () (λ_=>δ (ε 0,σ)) (λr=>δ (ε r,σ)) ?_ ?_ trivial (λ_ _ _ _ _ _ _ _=>trivial) ?_ ?_).trans ?_
 ·intro pre x rest u hl _;have hx:=oC hl;have hlt:=qv hl;have hi1:ξ.wrap ((pre.length:Int)+1)=(pre.length:Int)+1:=cq (by unfold aY;omega);have hi2:ξ.wrap ((pre.length:Int) -1)=(pre.length:Int) -1:=cq (by unfold aY;omega);have hlt':(pre.length:Int)<(l.length:Int):=by omega
  have hP:=akl x (hok.2 x (by rw[hl];simp));have jy:=lG 3 cz l hx;have hst:=λσ=>Gj 3 cz l (k:=pre.length) (by omega) (σ:=σ)
  rw[Rm hl]at hst;have hpl:pre.length<=aZ:=by unfold aZ;omega
  clear hl hx hlt hok yT sD;simp only[aI,reduceCtorEq,nj,nI,nr,nK,nJ,mu,hlt',jy,hi1,hst,hP];by_cases hp:p5 x=0
  ·simp only[aI,reduceCtorEq,hp];refine(BU pre (λz=>decide (z.name=x.name)) (λj=>[.ah 0,.lbx (cz x),.ah (j:Int)]) σ (.exit 2,[.ah 0,.lbx (cz x),.ah (pre.length:Int)],σ) (λj=>(.ret,[.ah 6,.lbx (cz x),.ah (j:Int)],σ)) _ (δ (.ret,[.ah 6,.ah (pre.length:Int)],σ)) ?_ ?_ rfl ?_).trans ?_
   ·intro j z hz;obtain⟨g1,g2,g3⟩:=zn 3 cz hz;have g3:=g3 hpl;simp only[aI,reduceCtorEq,nj,nI,nr,nK,nJ,mu,g1,g2,g3]
    repeat' ((first|rw[oT]|rw[oS]|rw[oR]|rw[oK]|rw[oQ]|rw[oP]);split<;>try simp only[aI,reduceCtorEq, *])
   ·simp only[aI,reduceCtorEq,Xz]
   ·intro j;simp only[aI,reduceCtorEq]
   ·rw[<-Rk x.name (λz:cD=>z.name)];simp only[aI,reduceCtorEq,hi1];cases gZ x.name (pre.map (·.name))<;>simp [Rd.el]
  ·simp only[aI,reduceCtorEq,hp]
 ·intro u _;exact yg _ _ _
 ·intro u _;simp only[aI,reduceCtorEq]
 ·intros;simp only[aI,reduceCtorEq]
 ·refine(EF (uP:=zS) ?_ ?_ (λn=>δ (ε n,σ)) l []).trans ?_
  ·intro pre;rfl
  ·intro pre x rest;rw[zS];simp only[B5,zy,zH]
  ·rfl
theorem aex(r:eU)(u:iw)(hl:r.bf.length<=aZ)(h:aY (u.address+(iB u.ga r.bf).1.size))(h':aY (lM r.bf u))(σ:Heap):Mo [.agg (eO r),.agg (dh u)] σ=δ (.ah (lM r.bf u),σ):=by refine wrap_eq rfl ?_ rfl;show Wt (.agg (eO r)) (.agg (dh u)) σ=_;unfold Wt;unfold lM at h' ⊢;simp only[aI,reduceCtorEq,ou,ow,oB,oA,oD,mH,mI,mJ,mK,mN,mM,mw,nj,nI,nr,nK,nJ,mu,Vi _ hl,cq h,cq h']
theorem acs{α:Type}(f:α->Int){l pre rest:List α}{x:α}(h:l=pre++x::rest)(n:Int):(∃y,0<pre.length/\l[pre.length-1]? =δ y/\Fv (pre.map f) n=decide (n<=f y))\/(¬0<pre.length/\Fv (pre.map f) n=ι):=by
 by_cases h0:0<pre.length
 ·obtain⟨y,hy,hy2⟩:=aCf h h0;exact .inl ⟨y,h0,hy2,by simp [Fv,List.getLast?_map,hy]⟩
 ·obtain rfl:pre=[]:=xC (by omega);exact .inr ⟨h0,rfl⟩
theorem aun{r:eU}{x:iw}(h:1<=x.address/\x.address<=lM r.bf x/\lM r.bf x<=512):aY (x.address+(iB x.ga r.bf).1.size)/\aY (lM r.bf x):=by unfold lM at h ⊢;unfold aY;omega
theorem alK(r:eU)(hok:rG r)(σ:Heap):aBt [.agg (eO r)] σ=δ (.ah (ji r),σ):=by
 refine wrap_eq rfl ?_ rfl;show UR (.agg (eO r)) σ=_;obtain⟨Kl,OM⟩:=hok;have Bq:=Kl.1;unfold UR ji;simp only[aI,reduceCtorEq,ou,ow,oB,oA,oD,akk _ Kl];by_cases hf:wE r.bf=0;case neg=>simp only[aI,reduceCtorEq,hf]
 by_cases h4:400<r.cV.length
 ·have h4':(400:Int)<r.cV.length:=by omega
  simp only[aI,reduceCtorEq,ou,ow,oB,oA,oD,hf,h4,h4']
 have h4':¬(400:Int)<r.cV.length:=by omega
 simp only[aI,reduceCtorEq,ou,ow,oB,oA,oD,hf,h4,h4'];have JY:=aco hf;generalize Ed:r.cV=l at *
 refine(oz (S:=Unit) (R:=Int) l (λpre u _=>if aT u.az 1 9999=ι then .out 1
    else if Fv (pre.map (·.az)) u.az=θ then .out 7
    else if(iB u.ga r.bf).2=ι then .out 5
    else if aT u.univ 1 64=ι\/aT u.address 1 512=ι\/512<lM r.bf u then .out 1
    else if EU r.bf u pre=θ then .out 12 else .go ())
  (λpre _=>[.lbx (eO r),.ah 0,.ah (pre.length:Int)]) (λpre _=>σ)
  (λ_=>(.exit 0,[.lbx (eO r),.ah 0,.ah (l.length:Int)],σ)) (λpre _ n=>(.ret,[.lbx (eO r),.ah n,.ah (pre.length:Int)],σ))
  (λpre _=>JH r.bf pre) () (λ_=>δ (ε 0,σ)) (λn=>δ (ε n,σ)) ?_ ?_ (by intro x hx;simp at hx) ?_ ?_ ?_).trans ?_
 ·intro pre u rest s hl hP;have hx:=oC hl;have hlt:=qv hl;have hi1:ξ.wrap ((pre.length:Int)+1)=(pre.length:Int)+1:=cq (by unfold aY;omega);have hi2:ξ.wrap ((pre.length:Int) -1)=(pre.length:Int) -1:=cq (by unfold aY;omega);have hlt':(pre.length:Int)<(l.length:Int):=by omega
  have hmp:pre.length<=aZ:=by unfold aZ;omega
  have jy:=lG 4 dh l hx;have hst:=λσ=>Gj 4 dh l (k:=pre.length) (by omega) (σ:=σ)
  rw[Rm hl]at hst;have KM:=Vi r.bf Bq u.ga;have ho:=acs (·.az) hl u.az;clear OM h4 h4' hl hx;simp only[aI,reduceCtorEq,mH,mI,mJ,mK,mN,mM,mw,ou,ow,oB,oA,oD,Ed,hlt',jy,KM,nj,nI,nr,nK,nJ,mu,qY];cases h1:aT u.az 1 9999
  ·simp only[aI,reduceCtorEq]
  simp only[aI,reduceCtorEq];rcases ho with⟨y,h0,hy,ho⟩|⟨h0,ho⟩
  case' inl=>
   have mG:(0:Int)<pre.length:=by omega
   have Hg:=EE 4 dh l h0 hy;by_cases hq:u.az<=y.az
   ·simp only[aI,reduceCtorEq,mH,mI,mJ,mK,mN,mM,mw,ou,ow,oB,oA,oD,Ed,mG,hi2,Hg,ho,hq]
   simp only[aI,reduceCtorEq,mH,mI,mJ,mK,mN,mM,mw,ou,ow,oB,oA,oD,Ed,mG,hi2,Hg,ho,hq]
  case' inr=>
   have mG:¬(0:Int)<pre.length:=by omega
   simp only[aI,reduceCtorEq,mG,ho]
  all_goals
   cases hp:(iB u.ga r.bf).2
   ·simp only[aI,reduceCtorEq]
   have hsz:=JY _ (Mg _ _ hp);cases hu:aT u.univ 1 64
   ·simp only[aI,reduceCtorEq,mH,mI,mJ,mK,mN,mM,mw,qY,hu]
   cases ha:aT u.address 1 512
   ·simp only[aI,reduceCtorEq,mH,mI,mJ,mK,mN,mM,mw,qY,hu,ha]
   have ha':1<=u.address/\u.address<=512:=by simpa [aT]using ha
   have Z9:=aex r u Bq (by unfold aY;omega) (by unfold lM aY;omega);by_cases h5:512<lM r.bf u
   ·simp only[aI,reduceCtorEq,mH,mI,mJ,mK,mN,mM,mw,ou,ow,oB,oA,oD,qY,hu,ha,Z9,h5]
   simp only[aI,reduceCtorEq,mH,mI,mJ,mK,mN,mM,mw,ou,ow,oB,oA,oD,qY,hu,ha,Z9,h5,Ed,hst];refine(BU pre (λx=>decide (x.univ=u.univ/\x.address<=lM r.bf u/\u.address<=lM r.bf x)) (λj=>[.lbx (eO r),.ah 0,.lbx (dh u),.ah (j:Int)]) σ (.exit 3,[.lbx (eO r),.ah 0,.lbx (dh u),.ah (pre.length:Int)],σ) (λj=>(.ret,[.lbx (eO r),.ah 12,.lbx (dh u),.ah (j:Int)],σ)) _ (δ (.ret,[.lbx (eO r),.ah 12,.ah (pre.length:Int)],σ)) ?_ ?_ rfl ?_).trans ?_
   ·intro j z hz;obtain⟨g1,g2,g3⟩:=zn 4 dh hz;have g3:=g3 hmp;have hzo:=aun (hP z (dm hz));have hLz:=aex r z Bq hzo.1 hzo.2;clear hP JY hz;simp only[aI,reduceCtorEq,mH,mI,mJ,mK,mN,mM,mw,ou,ow,oB,oA,oD,g1,g2,g3]
    repeat' ((first|rw[oT]|rw[oS]|rw[oR]|rw[oK]|rw[oQ]|rw[oP]);split<;>try simp only[aI,reduceCtorEq,mH,mI,mJ,mK,mN,mM,mw,ou,ow,oB,oA,oD,Z9,hLz, *])
    all_goals first|with_reducible rfl|(simp [*];done)|(simp_all;done)|(simp_all;omega)|rfl
   ·exact yg _ _ _
   ·intro j;simp only[aI,reduceCtorEq]
   ·unfold EU;simp only[aI,reduceCtorEq,hi1];cases pre.any (λx=>decide (x.univ=u.univ/\x.address<=lM r.bf u/\u.address<=lM r.bf x))<;>simp [Rd.el]
 ·intro u _;exact yg _ _ _
 ·intro pre u rest s s' hl hP hb;split at hb
  ·cases hb
  split at hb
  ·cases hb
  split at hb
  ·cases hb
  rename_i hp;split at hb
  ·cases hb
  rename_i hw;simp only[not_or,aDb,aT,jW,decide_eq_true_eq]at hw hp;have hsz:=JY _ (Mg _ _ (by simpa using hp));exact hP.snoc ⟨hw.2.1.1,by unfold lM;omega,by omega⟩
 ·intro u _;simp only[aI,reduceCtorEq]
 ·intros;simp only[aI,reduceCtorEq]
 ·refine(EF (uP:=Ff r.bf) ?_ ?_ (λn=>δ (ε n,σ)) l []).trans ?_
  ·intro pre;rfl
  ·intro pre x rest;rw[Ff];simp only[B5,zy,zH]
  ·rfl
theorem arD(σ:Heap)(vs:List Int)(f:Int->Nat->Bool)(v:Int):Yt .i (.om σ.length) (.ah v) aDa (kP σ vs f)=δ (if v∈vs then .op (σ.length+1+vs.idxOf v) 0 else .np):=by rw[EN .i rfl (RS σ vs _),Rw];by_cases hm:v∈vs<;>simp [hm]
theorem afi(σ:Heap)(vs:List Int)(f:Int->Nat->Bool)(n:Int):wh σ (.ah n) (kP σ vs f)=δ (.ah n,σ):=Xh _ _ _ _
theorem aCP(r:eU)(hok:rG r)(σ:Heap):PM [.agg (eO r)] σ=δ (.ah (ji r),σ):=by
 refine wrap_eq rfl ?_ rfl;show aAO (.agg (eO r)) σ=_;obtain⟨Kl,OM⟩:=hok;have Bq:=Kl.1;unfold aAO ji;simp only[aI,reduceCtorEq,ou,ow,oB,oA,oD,aku _ Kl];by_cases hf:wE r.bf=0;case neg=>simp only[aI,reduceCtorEq,hf]
 by_cases h4:400<r.cV.length
 ·have h4':(400:Int)<r.cV.length:=by omega
  simp only[aI,reduceCtorEq,ou,ow,oB,oA,oD,hf,h4,h4']
 have h4':¬(400:Int)<r.cV.length:=by omega
 simp only[aI,reduceCtorEq,ou,ow,oB,oA,oD,hf,h4,h4'];have JY:=aco hf;generalize Ed:r.cV=l at *
 refine(oz (S:=List Int×(Int->Nat->Bool)) (R:=Int) l (λpre u s=>if aT u.az 1 9999=ι then .out 1
    else if Fv (pre.map (·.az)) u.az=θ then .out 7
    else if(iB u.ga r.bf).2=ι then .out 5
    else if aT u.univ 1 64=ι\/aT u.address 1 512=ι\/512<lM r.bf u then .out 1
    else if EU r.bf u pre=θ then .out 12 else .go (if u.univ∈s.1 then s.1 else s.1++[u.univ],su s.2 u.univ u.address.toNat (iB u.ga r.bf).1.size.toNat))
  (λpre _=>[.lbx (eO r),.ah 0,.ah (pre.length:Int)]) (λpre s=>kP σ s.1 s.2)
  (λs=>(.exit 0,[.lbx (eO r),.ah 0,.ah (l.length:Int)],kP σ s.1 s.2)) (λpre s n=>(.ret,[.lbx (eO r),.ah n,.ah (pre.length:Int)],kP σ s.1 s.2))
  (λpre s=>JH r.bf pre/\ET r.bf pre s.2/\s.1.Nodup/\∀v,v∉s.1->∀k,s.2 v k=ι) ([],λ_ _=>ι) (λ_=>δ (ε 0,σ)) (λn=>δ (ε n,σ)) ?_ ?_ ⟨(by intro x hx;simp at hx),ET.nil _,List.nodup_nil,λ_ _ _=>rfl⟩ ?_ ?_ ?_).trans ?_
 ·intro pre u rest s hl hP;have hx:=oC hl;have hlt:=qv hl;have hi1:ξ.wrap ((pre.length:Int)+1)=(pre.length:Int)+1:=cq (by unfold aY;omega);have hi2:ξ.wrap ((pre.length:Int) -1)=(pre.length:Int) -1:=cq (by unfold aY;omega);have hlt':(pre.length:Int)<(l.length:Int):=by omega
  have hmp:pre.length<=aZ:=by unfold aZ;omega
  have jy:=lG 4 dh l hx;have KM:=acB r.bf Bq u.ga;have ho:=acs (·.az) hl u.az;obtain⟨vs,f⟩:=s;obtain⟨Oz,OA,KK,KL⟩:=hP;dsimp only at Oz OA KK KL ⊢;clear OM h4 h4' hl hx;simp only[aI,reduceCtorEq,mH,mI,mJ,mK,mN,mM,mw,ou,ow,oB,oA,oD,Ed,hlt',jy,KM,nj,nI,nr,nK,nJ,mu,mL];cases h1:aT u.az 1 9999
  ·simp only[aI,reduceCtorEq]
  simp only[aI,reduceCtorEq];rcases ho with⟨y,h0,hy,ho⟩|⟨h0,ho⟩
  case' inl=>
   have mG:(0:Int)<pre.length:=by omega
   have Hg:=EE 4 dh l h0 hy;by_cases hq:u.az<=y.az
   ·simp only[aI,reduceCtorEq,mH,mI,mJ,mK,mN,mM,mw,ou,ow,oB,oA,oD,Ed,mG,hi2,Hg,ho,hq]
   simp only[aI,reduceCtorEq,mH,mI,mJ,mK,mN,mM,mw,ou,ow,oB,oA,oD,Ed,mG,hi2,Hg,ho,hq]
  case' inr=>
   have mG:¬(0:Int)<pre.length:=by omega
   simp only[aI,reduceCtorEq,mG,ho]
  all_goals
   try simp only[aI,reduceCtorEq,mH,mI,mJ,mK,mN,mM,mw,ou,ow,oB,oA,oD,Ed,KM]
   cases hp:(iB u.ga r.bf).2
   ·simp only[aI,reduceCtorEq,nj,nI,nr,nK,nJ,mu]
   have hsz:=JY _ (Mg _ _ hp);try simp only[aI,reduceCtorEq,mH,mI,mJ,mK,mN,mM,mw,nj,nI,nr,nK,nJ,mu,mL]
   cases hu:aT u.univ 1 64
   ·simp only[aI,reduceCtorEq]
   cases ha:aT u.address 1 512
   ·simp only[aI,reduceCtorEq,mH,mI,mJ,mK,mN,mM,mw,mL,ha]
   have ha':1<=u.address/\u.address<=512:=by simpa [aT]using ha
   have hw1:ξ.wrap (u.address+(iB u.ga r.bf).1.size)=u.address+(iB u.ga r.bf).1.size:=cq (by unfold aY;omega);have hw2:ξ.wrap (u.address+(iB u.ga r.bf).1.size-1)=lM r.bf u:=cq (by unfold aY;omega);have hlu:lM r.bf u=u.address+(iB u.ga r.bf).1.size-1:=rfl;by_cases h5:512<lM r.bf u
   ·simp only[aI,reduceCtorEq,mH,mI,mJ,mK,mN,mM,mw,nj,nI,nr,nK,nJ,mu,mL,ha,hw1,hw2,h5]
   obtain⟨a,hae⟩:∃a:Nat,u.address=a:=⟨u.address.toNat,by omega⟩
   obtain⟨n,hne⟩:∃n:Nat,(iB u.ga r.bf).1.size=n:=⟨(iB u.ga r.bf).1.size.toNat,by omega⟩
   have SV:=anN OA Oz u a n hae (by omega) (by omega) (by omega)
   have hfree:ID [if u.univ∈vs then .op (σ.length+1+vs.idxOf u.univ) 0 else .np,.ah (a:Int),.ah (n:Int)] (kP σ vs f)=δ (.bool (!EU r.bf u pre),kP σ vs f):=by
    by_cases hm:u.univ∈vs
    ·rw[aP hm,asu (f u.univ) a n (by omega) (afV σ f hm),SV]
    ·rw[aO hm,ast a n (by unfold aY;omega) (by unfold aY;omega),<-SV];have e:zI (f u.univ) n a=θ:=(azW _ _ _).2 λk h1 h2=>⟨by omega,KL _ hm k⟩
     rw[e,show decide ((a:Int)+n-1<=512)=θ from cL (by omega)]
   have vW:=atE σ KK f u a n hae (by omega) (KL u.univ);simp only[aI,reduceCtorEq,mH,mI,mJ,mK,mN,mM,mw,nj,nI,nr,nK,nJ,mu,mL,ha,hw1,hw2,h5,arD];rw[hae,hne];simp only[aI,reduceCtorEq,hfree];cases hc:EU r.bf u pre
   ·simp only[aI,reduceCtorEq,mH,mI,mJ,mK,mN,mM,mw,nj,nI,nr,nK,nJ,mu,hne,vW,hi1,TS]
   ·simp only[aI,reduceCtorEq]
 ·intro s _;exact yg _ _ _
 ·intro pre u rest s s' hl hP hb;obtain⟨vs,f⟩:=s;obtain⟨Oz,OA,KK,KL⟩:=hP;dsimp only at Oz OA KK KL hb;split at hb
  ·cases hb
  split at hb
  ·cases hb
  split at hb
  ·cases hb
  rename_i hp;split at hb
  ·cases hb
  rename_i hw;split at hb
  ·cases hb
  injection hb with hb
  subst hb;simp only[not_or,aDb,aT,jW,decide_eq_true_eq]at hw hp;have hsz:=JY _ (Mg _ _ (by simpa using hp));have hlu:lM r.bf u=u.address+(iB u.ga r.bf).1.size-1:=rfl;refine⟨Oz.snoc ⟨hw.2.1.1,by omega,by omega⟩,OA.snoc u u.address.toNat _ (by omega) (by omega),?_,?_⟩
  ·dsimp only;split
   ·exact KK
   ·rename_i hm;rw[List.nodup_append];exact⟨KK,by simp,λx hx y hy e=>hm (by simp at hy;rw[<-hy,<-e];exact hx)⟩
  ·intro v hv k;dsimp only at hv ⊢
   have h1:v≠u.univ/\v∉vs:=by
    split at hv
    ·rename_i hm;exact⟨λe=>hv (e▸hm),hv⟩
    ·simp only[jQ,TV,not_or]at hv;exact⟨hv.2,hv.1⟩
   unfold su;rw[aO (λq=>h1.1 q.1)];exact KL v h1.2 k
 ·intro s _;simp only[aI,reduceCtorEq,afi]
 ·intros;simp only[aI,reduceCtorEq,afi]
 ·refine(acG (uP:=Ff r.bf) ?_ ?_ (λn=>δ (ε n,σ)) l [] _).trans ?_
  ·intro pre;rfl
  ·intro pre x rest s;rw[Ff];simp only[B5,zy,zH]
  ·rfl
def rX(jM:List cD)(u:iw):List aC:=(iB u.ga jM).1.params.map λx=>⟨u.az,x.name⟩
def nZ(r:eU):List aC:=r.cV.flatMap (rX r.bf)
theorem aaP{p:cD}(h:p5 p=0):p.params.length<=40:=by
 unfold p5 at h
 repeat' split at h
 all_goals first|(simp at h;done)|omega
theorem ab4:∀(l pre:List cD),zS pre l=0->∀p∈l,p5 p=0
 |[],pre,h,p,hp=>by simp at hp
 |q::rest,pre,h,p,hp=>by
  rw[zS]at h;by_cases e:p5 q=0
  ·rw[aP e]at h;by_cases e2:gZ q.name (pre.map (·.name))=θ
   ·rw[aP e2]at h;simp at h
   ·rw[aO e2]at h;simp only[jP]at hp;rcases hp with rfl|hp
    ·exact e
    ·exact ab4 rest _ h p hp
  ·rw[aO e]at h;exact absurd h e
theorem Mz{r:eU}(h:ji r=0):wE r.bf=0:=by
 unfold ji at h;split at h
 ·assumption
 ·rename_i h2;exact absurd h h2
theorem QD{l:List cD}(h:wE l=0):∀p∈l,p5 p=0:=by
 unfold wE at h;by_cases e:60<l.length
 ·rw[aP e]at h;simp at h
 ·rw[aO e]at h;exact ab4 l [] h
theorem QJ{r:eU}(h:ji r=0)(nm:ByteArray):(iB nm r.bf).1.params.length<=40:=by
 rw[CM];cases hf:r.bf.find? (λx:cD=>decide (x.name=nm))with
 |none=>exact kW _
 |some p=>exact aaP (QD (Mz h) p (xD hf))
theorem Vg{r:eU}(h:ji r=0):∀(l:List iw),(l.flatMap (rX r.bf)).length<=l.length*40
 |[]=>by simp
 |u::l=>by
  have h1:=QJ h u.ga;have h2:=Vg h l;rw[Xm,ZY,YZ,Nat.succ_mul];have h3:(rX r.bf u).length=(iB u.ga r.bf).1.params.length:=by simp [rX]
  omega
theorem auu(l:List aC)(n:Int):Y9 (.t [(.s 2),.k]) (.aM [if l=[]then .aA else sl 2 aS l,.ah n])=.aM [sl 2 aS l,.ah n]:=by show Yu [Y9 (.s 2) (if l=[]then .aA else sl 2 aS l),.ah n]=_;rw[auw]
theorem aBg{r:eU}(h:ji r=0):r.cV.length<=400:=by
 unfold ji at h;split at h
 ·split at h
  ·cases h
  ·omega
 ·rename_i h2;exact absurd h h2
theorem aCJ(r:eU)(hok:rG r)(σ:Heap):IV [.agg (eO r)] σ=δ (.aM [sl 2 aS (if ji r=0 then nZ r else[]),.ah (ji r)],σ):=by
 by_cases hf:ji r=0
 ·refine wrap_eq rfl (v:=.aM [if nZ r=[]then .aA else sl 2 aS (nZ r),.ah 0]) ?_ (by rw[aP hf,hf];exact auu _ _);show LM (.agg (eO r)) σ=_;unfold LM;have hu:=aBg hf;have Kl:=hok.1.2;simp only[aI,reduceCtorEq,ou,ow,oB,oA,oD,aCP r hok,hf]
  refine(oz (S:=Unit) (R:=Unit) r.cV (λpre u _=>(Rd.go ():Rd Unit Unit))
   (λpre _=>[.lbx (eO r),zZ σ.length 2 (pre.flatMap (rX r.bf)),.ah (pre.length:Int)]) (λpre _=>σ++wF 2 aS (pre.flatMap (rX r.bf)))
   (λ_=>(.exit 0,[.lbx (eO r),zZ σ.length 2 (nZ r),.ah (r.cV.length:Int)],σ++wF 2 aS (nZ r))) (λpre _ _=>(.ret,[],σ))
   (λ_ _=>True) () (λ_=>δ (Yu [if nZ r=[]then .aA else sl 2 aS (nZ r),.ah 0],σ)) (λ_=>μ) ?_ ?_ trivial (λ_ _ _ _ _ _ _ _=>trivial) ?_ ?_ (iW:=by simp [ara])).trans (R8 _ _ _ _)
  ·intro pre u rest s hl _;have hx:=oC hl;have hlt:=qv hl;have hi1:ξ.wrap ((pre.length:Int)+1)=(pre.length:Int)+1:=cq (by unfold aY;omega);have hlt':(pre.length:Int)<(r.cV.length:Int):=by omega
   have jy:=lG 4 dh r.cV hx;have KM:=acB r.bf hok.1.1 u.ga;have hps:=QJ hf u.ga;have wS:=Vg hf pre;have Eg:(pre++[u]).flatMap (rX r.bf)=pre.flatMap (rX r.bf)++rX r.bf u:=by simp
   have azr:pre.length<=399:=by omega
   generalize hK:pre.flatMap (rX r.bf)=K at *
   generalize hq:(iB u.ga r.bf).1=p at *
   simp only[aI,reduceCtorEq,mH,mI,mJ,mK,mN,mM,mw,ou,ow,oB,oA,oD,hlt',jy,KM,hq,nj,nI,nr,nK,nJ,mu]
   refine(oz (S:=Unit) (R:=Unit) p.params (λpre u _=>(Rd.go ():Rd Unit Unit))
    (λBv _=>[.lbx (eO r),zZ σ.length 2 (K++Bv.map λx=>(⟨u.az,x.name⟩:aC)),.lbx (dh u),.ah (Bv.length:Int)]) (λBv _=>σ++wF 2 aS (K++Bv.map λx=>(⟨u.az,x.name⟩:aC)))
    (λ_=>(.exit 2,[.lbx (eO r),zZ σ.length 2 (K++rX r.bf u),.lbx (dh u),.ah (p.params.length:Int)],σ++wF 2 aS (K++rX r.bf u))) (λpre _ _=>(.ret,[],σ))
    (λ_ _=>True) () (λ_=>δ (.normal,[.lbx (eO r),zZ σ.length 2 (K++rX r.bf u),.ah ((pre.length:Int)+1)],σ++wF 2 aS (K++rX r.bf u))) (λ_=>μ) ?_ ?_ trivial (λ_ _ _ _ _ _ _ _=>trivial) ?_ ?_ (hv:=by simp) (iW:=by simp)).trans ((R8 _ _ _ _).trans ?_)
   ·intro Bv x rest' s hl' _;have gx:=oC hl';have glt:=qv hl';have gi1:ξ.wrap ((Bv.length:Int)+1)=(Bv.length:Int)+1:=cq (by unfold aY;omega);have aw4:(Bv.length:Int)<(p.params.length:Int):=by omega
    have gia:=lG 7 cG p.params gx
    have hap:=anW (most:=140737488355328 / 24) (sz:=2) aS (K++Bv.map λx=>(⟨u.az,x.name⟩:aC)) ⟨u.az,x.name⟩ σ (by
     rw[ZY,X1]
     omega)
    have axE:(K++(Bv++[x]).map λx=>(⟨u.az,x.name⟩:aC))=(K++Bv.map λx=>(⟨u.az,x.name⟩:aC))++[⟨u.az,x.name⟩]:=by simp
    clear hl gx glt hx hlt wS hl';rw[axE];have hch:Yh 2 (iP 2 1 [ε u.az,Xo x.name])=.sl 2 [aS ⟨u.az,x.name⟩]:=rfl;simp only[aI,reduceCtorEq,qp,qS,qT,qU,qV,qW,qX,rj,qZ,nY,mH,mI,mJ,mK,mN,mM,mw,aw4,gia,gi1];show(WK 2 _ _ (Yh 2 [aS ⟨u.az,x.name⟩]) _).bind _=_;rw[hap];simp only[aI,reduceCtorEq,gi1]
   ·intro s _;refine(yg _ _ _).trans ?_;subst hq;rfl
   ·intro s _;simp only[aI,reduceCtorEq,hi1]
   ·intros;rename_i hb;cases hb
   ·rw[Eg]
  ·intro s _;exact yg _ _ _
  ·intro s _;simp only[aI,reduceCtorEq,aqK AG]
  ·intros;rename_i hb;cases hb
 ·refine wrap_eq rfl (v:=.aM [.aA,.ah (ji r)]) ?_ (by rw[aO hf];rfl);show LM (.agg (eO r)) σ=_;unfold LM;simp only[aI,reduceCtorEq,ou,ow,oB,oA,oD,aCP r hok,hf]
theorem abI(n:Int)(σ:Heap):P7 [.ah n] σ=δ (.bool (aT n 0 65535),σ):=by refine wrap_eq rfl ?_ rfl;show UI (.ah n) σ=_;unfold UI;simp only[aI,reduceCtorEq,mL]
def GD(s:ByteArray):Bool:=if s=⟨#[]⟩then θ else Cb s
theorem aqf(s:ByteArray)(hs:jF s)(σ:Heap):U0 [.str s] σ=δ (.bool (GD s),σ):=by
 refine wrap_eq rfl ?_ rfl;show U9 (.str s) σ=_;unfold U9 GD;by_cases h:s=⟨#[]⟩
 ·simp only[aI,reduceCtorEq,h]
 ·simp only[aI,reduceCtorEq,h,ad1 s hs]
def De:ey:=⟨⟨#[]⟩,0,0,0,0,ι,[]⟩
def zB(p:cD)(nm:ByteArray):ey×Bool:=(p.params.find? λx=>decide (x.name=nm)).elim (De,ι) λx=>(x,θ)
def lg(r:eU)(k:aC):ey×Bool:=(r.cV.find? λu=>decide (u.az=k.unit)).elim (De,ι) λu=>zB (iB u.ga r.bf).1 k.param
theorem arB(r:eU)(hl:r.cV.length<=aZ)(n:Int)(σ:Heap):aCs [.agg (eO r),.ah n] σ=δ (.ah (iT (λu:iw=>decide (u.az=n)) r.cV),σ):=by
 refine wrap_eq rfl ?_ rfl;show Wu (.agg (eO r)) (.ah n) σ=_;unfold Wu;simp only[aI,reduceCtorEq,ou,ow,oB,oA,oD];refine(aq4 r.cV (λu=>decide (u.az=n)) (λi=>[.ah 0,.ah (i:Int)]) σ (.exit 0,[.ah 0,.ah (r.cV.length:Int)],σ) (λi=>(.ret,[.ah (i:Int),.ah (i:Int)],σ)) (δ (ε (-1),σ)) (λi=>δ (ε i,σ)) ?_ ?_ ?_ ?_).trans ?_
 ·intro i x hx;obtain⟨g1,g2,g3⟩:=zn 4 dh hx;have g3:=g3 hl;simp only[aI,reduceCtorEq,mH,mI,mJ,mK,mN,mM,mw,g1,g2,g3]
  repeat' ((first|rw[oT]|rw[oS]|rw[oR]|rw[oK]|rw[oQ]|rw[oP]);split<;>try simp only[aI,reduceCtorEq, *])
 ·exact yg _ _ _
 ·simp only[aI,reduceCtorEq]
 ·intro i;simp only[aI,reduceCtorEq]
 ·split
  ·rename_i h;rw[h]
  ·rfl
theorem apK(p:cD)(hl:p.params.length<=aZ)(nm:ByteArray)(σ:Heap):adr [.agg (cz p),.str nm] σ=δ (.aM [.agg (cG (zB p nm).1),.bool (zB p nm).2],σ):=by
 have key:∃w,aBN (.agg (cz p)) (.str nm) σ=δ (w,σ)/\Y9 (.t [(.a qz),.k]) w=.aM [.agg (cG (zB p nm).1),.bool (zB p nm).2]:=by
  refine⟨(p.params.find? λx=>decide (x.name=nm)).elim (.aM [.agg [.str ⟨#[]⟩,.ah 0,.ah 0,.ah 0,.ah 0,.bool ι,.aA],.bool ι]) (λx=>.aM [.agg (cG x),.bool θ]),?_,?_⟩
  ·unfold aBN;simp only[aI,reduceCtorEq,nj,nI,nr,nK,nJ,mu]
   refine(adt p.params (λx=>decide (x.name=nm)) (λi=>[.lbx [.str ⟨#[]⟩,.ah 0,.ah 0,.ah 0,.ah 0,.bool ι,.aA],.bool ι,.ah (i:Int)]) σ (.exit 0,[.lbx [.str ⟨#[]⟩,.ah 0,.ah 0,.ah 0,.ah 0,.bool ι,.aA],.bool ι,.ah (p.params.length:Int)],σ) (λi x=>(.ret,[.lbx (cG x),.bool θ,.ah (i:Int)],σ))
    (δ (Yu [.agg [.str ⟨#[]⟩,.ah 0,.ah 0,.ah 0,.ah 0,.bool ι,.aA],.bool ι],σ)) (λx=>δ (Yu [.agg (cG x),.bool θ],σ)) ?_ ?_ ?_ ?_).trans ?_
   ·intro i x hx;obtain⟨g1,g2,g3⟩:=zn 7 cG hx;have g3:=g3 hl;simp only[aI,reduceCtorEq,qp,qS,qT,qU,qV,qW,qX,rj,qZ,nY,g1,g2,g3]
    repeat' ((first|rw[oT]|rw[oS]|rw[oR]|rw[oK]|rw[oQ]|rw[oP]);split<;>try simp only[aI,reduceCtorEq,qp,qS,qT,qU,qV,qW,qX,rj,qZ,nY, *])
    all_goals first|with_reducible rfl|(simp [*];done)|(simp_all;done)|(simp_all;omega)|rfl
   ·exact yg _ _ _
   ·simp only[aI,reduceCtorEq];rfl
   ·intro i x;simp only[aI,reduceCtorEq,qp,qS,qT,qU,qV,qW,qX,rj,qZ,nY]
   ·cases p.params.find? λx=>decide (x.name=nm)<;>rfl
  ·unfold zB;cases p.params.find? λx=>decide (x.name=nm)<;>rfl
 obtain⟨w,h1,h2⟩:=key;exact wrap_eq rfl h1 h2
theorem apP{l:List cD}(h:∀x∈l,Gq x)(nm:ByteArray):(iB nm l).1.params.length<=aZ:=by
 rw[CM];cases hf:l.find? (λx:cD=>decide (x.name=nm))with
 |none=>exact kW _
 |some p=>exact(h p (xD hf)).2.2.1
theorem Qm(r:eU)(hok:rG r)(k:aC)(σ:Heap):I6 [.agg (eO r),.agg (aS k)] σ=δ (.aM [.agg (cG (lg r k).1),.bool (lg r k).2],σ):=by
 have key:∃w,aCh (.agg (eO r)) (.agg (aS k)) σ=δ (w,σ)/\Y9 (.t [(.a qz),.k]) w=.aM [.agg (cG (lg r k).1),.bool (lg r k).2]:=by
  unfold aCh lg;simp only[aI,reduceCtorEq,ou,ow,oB,oA,oD,adD,adE,rB,BV,C4,arB r hok.2.1];rcases td (λu:iw=>decide (u.az=k.unit)) r.cV with⟨h1,_,h3⟩|⟨j,x,h1,h2,h3,h4,_⟩
  ·refine⟨.aM [.agg [.str ⟨#[]⟩,.ah 0,.ah 0,.ah 0,.ah 0,.bool ι,.aA],.bool ι],?_,?_⟩
   ·rw[h1];simp only[aI,reduceCtorEq,show((-1:Int)<0)from by decide];rfl
   ·rw[h3];rfl
  ·refine⟨.aM [.agg (cG (zB (iB x.ga r.bf).1 k.param).1),.bool (zB (iB x.ga r.bf).1 k.param).2],?_,?_⟩
   ·rw[h3];simp only[aI,reduceCtorEq,ou,ow,oB,oA,oD,adD,adE,rB,BV,C4,mH,mI,mJ,mK,mN,mM,mw,nj,nI,nr,nK,nJ,mu,qp,qS,qT,qU,qV,qW,qX,rj,qZ,nY,show ¬((j:Int)<0)from by omega,lG 4 dh r.cV h1,Vi _ hok.1.1,apK _ (apP hok.1.2 x.ga)]
   ·rw[h4];rfl
 obtain⟨w,h1,h2⟩:=key;exact wrap_eq rfl h1 h2
section
def aA5 (a0:Int):Option Bool:=δ (aT a0 0 36000000)
theorem I5{a0:Int}{σ:Heap}{r:Bool}(h:aA5 a0=δ r):EC [(ε a0)] σ=δ ((Λ r),σ):=by refine yj (f:=aBp) (y0:=(ε a0)) (enc:=λr:Bool=>(Λ r)) (T:=aA5 a0) rfl rfl ?_ r h;unfold aBp aA5;refine an _ (mL a0 0 36000000 σ) ?_;exact dI _ (bD _ _) ⟨rfl,rfl⟩
def I2 (a0:aC) (a1:aC):Option Int:=
 if ¬(a0.unit=a1.unit)then
  if a0.unit<a1.unit then
   δ (-1)
  else
  δ 1
 else
 δ (Xt a0.param.data.toList a1.param.data.toList)
theorem alr{a0:aC}{a1:aC}{σ:Heap}{r:Int}(h:I2 a0 a1=δ r):Qb [(Φ (aS a0)),(Φ (aS a1))] σ=δ ((ε r),σ):=by
 refine rW (f:=aCF) (y0:=(Φ (aS a0))) (y1:=(Φ (aS a1))) (enc:=λr:Int=>(ε r)) (T:=I2 a0 a1) rfl rfl ?_ r h;unfold aCF I2;refine an _ rfl<|an _ rfl<|an _ rfl<|an _ rfl<|an _ (fV _ _ _) ?_;refine jJ (p:=¬(a0.unit=a1.unit)) (λc2=>?_) (λc2=>?_)
 ·refine an _ rfl<|an _ rfl<|an _ rfl ?_;refine jJ (p:=a0.unit<a1.unit) (λc1=>?_) (λc1=>?_)
  ·exact dI _ (bD _ _) ⟨rfl,rfl⟩
  exact dI _ (bD _ _) ⟨rfl,rfl⟩
 refine an _ rfl<|an _ rfl<|an _ rfl ?_;exact dI _ (bD _ _) ⟨rfl,rfl⟩
def IQ (a0:(List gf)):Option Int:=
 kr a0 (λ(i8:Nat)e7(s1:Unit)=>(show Option (Lr Unit Unit Int)from
   if(!(aT e7.key.unit 1 9999))=θ then
    δ (.ret 1)
   else
   (tq (jF e7.key.param) (rF e7.key.param)).bind λr9=>
   if(!r9)=θ then
    δ (.ret 5)
   else
   if((e7.release&&(decide (¬(e7.value=(⟨0,0⟩:mz)))))||((decide (¬(e7.value.level=0)))&&(decide (¬(e7.value.fQ=0)))))=θ then
    δ (.ret 3)
   else
   if((!(aT e7.value.level 0 65535))||(!(aT e7.value.fQ 0 999)))=θ then
    δ (.ret 1)
   else
   if((!e7.zO)&&((decide (¬(e7.cB=0)))||(decide (¬(e7.time=0)))))=θ then
    δ (.ret 3)
   else
   if((!((aT e7.cB 0 36000000)))||(!((aT e7.time 0 36000000))))=θ then
    δ (.ret 1)
   else
   (if decide (0<(i8:Int))=θ then pU a0 (ξ.wrap ((i8:Int) -1))else δ default).bind λbl=>
   (if decide (0<(i8:Int))=θ then I2 bl.key e7.key else δ default).bind λdc=>
   if((decide (0<(i8:Int)))&&(decide (0<=dc)))=θ then
    δ (.ret 7)
   else
   δ (.go ()))) (λs1=>δ ()) () (λb2=>
  δ 0) (λb2=>
  δ b2)
theorem akm{a0:(List gf)}{σ:Heap}{r:Int}(h:IQ a0=δ r):Ub [(sl 8 ff a0)] σ=δ ((ε r),σ):=by
 refine yj (f:=aAB) (y0:=(sl 8 ff a0)) (enc:=λr:Int=>(ε r)) (T:=IQ a0) rfl rfl ?_ r h;unfold aAB IQ;refine an _ (fu _ _ _) ?_;refine mA (B:=Unit) (R:=Int) (λ(i8:Nat)(s1:Unit)v w3=>v=[(ε 0),(ε (i8:Int))]/\σ=w3) (λ(b2:Unit)(q:LS)=>∃u2 u7,q=((Ξ 0),([u2,u7]:aq),σ)) (λ(b2:Int)(q:LS)=>∃u7,q=(YP,([(ε b2),u7]:aq),σ)) ?_ ?_ ⟨rfl,rfl⟩ ?_ ?_
 ·intro sF i8 e7 s1 v w3 jZ hI;obtain⟨rfl,rfl⟩:=hI;refine an _ (iR jZ)<|mC<|an _ (gH jZ)<|an _ rfl<|an _ rfl<|an _ (Gy _ _ rfl)<|an _ rfl<|an _ (mL e7.key.unit 1 9999 σ)<|an _ rfl ?_;refine gy (c:=(!(aT e7.key.unit 1 9999))) (λig=>?_) (λig=>?_)
  ·exact bK (gd (by simp) ⟨_,rfl⟩)
  refine an _ rfl ?_;refine jK (λr9:Bool=>((Λ r9),σ)) (λr9 hr9=>(tJ (e:=λr:Bool=>((Λ r),σ)) (λhs=>Rx e7.key.param hs σ)) hr9) (λr9 hr9=>?_);refine an _ rfl ?_;refine gy (c:=(!r9)) (λlW=>?_) (λlW=>?_)
  ·exact bK (gd (by simp) ⟨_,rfl⟩)
  refine an _ rfl<|bX (Φ (tC e7.value)) (λhg=>rfl)<|bX (Φ (tC (⟨0,0⟩:mz))) (λhg=>rfl)<|bX (Λ (decide (¬(e7.value=(⟨0,0⟩:mz))))) (λhg=>by(try rw[hg]);exact(aeF _ _))<|an _ (mO _ _)<|ew (ε e7.value.level) (λhg=>rfl)<|ew (Λ (decide (¬(e7.value.level=0)))) (λhg=>by(try rw[hg]);exact(fV _ _ _))<|ew (Λ (decide (¬(e7.value.level=0)))) (λhg=>by(try rw[hg]);exact rfl)<|AO (ε e7.value.fQ) (λhg=>rfl)<|AO (Λ (decide (¬(e7.value.fQ=0)))) (λhg=>by(try rw[hg]);exact(fV _ _ _))<|ew (Λ ((decide (¬(e7.value.level=0)))&&(decide (¬(e7.value.fQ=0))))) (λhg=>by(try rw[hg]);exact(mO _ _))<|an _ (nO _ _) ?_;refine gy (c:=((e7.release&&(decide (¬(e7.value=(⟨0,0⟩:mz)))))||((decide (¬(e7.value.level=0)))&&(decide (¬(e7.value.fQ=0)))))) (λjY=>?_) (λjY=>?_)
  ·exact bK (gd (by simp) ⟨_,rfl⟩)
  refine an _ rfl<|an _ (mL e7.value.level 0 65535 σ)<|an _ rfl<|ew (ε e7.value.fQ) (λhg=>rfl)<|ew (Λ (aT e7.value.fQ 0 999)) (λhg=>by(try rw[hg]);exact(eH (mL e7.value.fQ 0 999 σ)))<|ew (Λ (!(aT e7.value.fQ 0 999))) (λhg=>by(try rw[hg]);exact rfl)<|an _ (nO _ _) ?_;refine gy (c:=((!(aT e7.value.level 0 65535))||(!(aT e7.value.fQ 0 999)))) (λjj=>?_) (λjj=>?_)
  ·exact bK (gd (by simp) ⟨_,rfl⟩)
  refine an _ rfl<|an _ rfl<|bX (ε e7.cB) (λhg=>rfl)<|bX (Λ (decide (¬(e7.cB=0)))) (λhg=>by(try rw[hg]);exact(fV _ _ _))<|bX (Λ (decide (¬(e7.cB=0)))) (λhg=>by(try rw[hg]);exact rfl)<|R7 (ε e7.time) (λhg=>rfl)<|R7 (Λ (decide (¬(e7.time=0)))) (λhg=>by(try rw[hg]);exact(fV _ _ _))<|bX (Λ ((decide (¬(e7.cB=0)))||(decide (¬(e7.time=0))))) (λhg=>by(try rw[hg]);exact(nO _ _))<|an _ (mO _ _) ?_;refine gy (c:=((!e7.zO)&&((decide (¬(e7.cB=0)))||(decide (¬(e7.time=0)))))) (λia=>?_) (λia=>?_)
  ·exact bK (gd (by simp) ⟨_,rfl⟩)
  refine an _ rfl<|an _ (I5 (σ:=σ) (r:=(aT e7.cB 0 36000000)) rfl)<|an _ rfl<|ew (ε e7.time) (λhg=>rfl)<|ew (Λ ((aT e7.time 0 36000000))) (λhg=>by(try rw[hg]);exact(eH (I5 (σ:=σ) (r:=(aT e7.time 0 36000000)) rfl)))<|ew (Λ (!((aT e7.time 0 36000000)))) (λhg=>by(try rw[hg]);exact rfl)<|an _ (nO _ _) ?_;refine gy (c:=((!((aT e7.cB 0 36000000)))||(!((aT e7.time 0 36000000))))) (λfU=>?_) (λfU=>?_)
  ·exact bK (gd (by simp) ⟨_,rfl⟩)
  refine an _ rfl<|bX (sl 8 ff a0) (λhg=>rfl)<|bX (ε (i8:Int)) (λhg=>rfl)<|bX (ε (ξ.wrap ((i8:Int) -1))) (λhg=>by(try rw[hg]);exact rfl) ?_;refine tE (ω:=gf) (λbl=>(ZN (ff bl))) (λhg bl NU=>by(try rw[hg]);exact xz NU) (λbl NU=>?_);refine bX (ZN (ff bl)) (λhg=>by(try rw[hg]);exact rfl)<|bX (Φ (aS bl.key)) (λhg=>by(try rw[hg]);exact rfl)<|bX (Φ (aS e7.key)) (λhg=>rfl) ?_;refine tE (ω:=Int) (λdc=>(ε dc)) (λhg dc xE=>by(try rw[hg]);exact(eH (alr xE))) (λdc xE=>?_);refine bX (Λ (decide (0<=dc))) (λhg=>by(try rw[hg]);exact rfl)<|an _ (mO _ _) ?_;refine gy (c:=((decide (0<(i8:Int)))&&(decide (0<=dc)))) (λcZ=>?_) (λcZ=>?_)
  ·exact bK (gd (by simp) ⟨_,rfl⟩)
  refine an _ (fT jZ sF) ?_;exact bK (l7 ⟨rfl,rfl⟩)
 ·intro hl s1 v w3 hI;obtain⟨rfl,rfl⟩:=hI;refine an _ (iQ _)<|mB ?_;exact bK ⟨by simp,⟨_,_,rfl⟩⟩
 ·intro hl b2 q hq;obtain⟨u2,u7,rfl⟩:=hq;refine gO rfl ?_;exact dI _ (bD _ _) ⟨rfl,rfl⟩
 ·intro hl b2 q hq;obtain⟨u7,rfl⟩:=hq;refine qc rfl<|gO rfl ?_;exact dI _ (bD _ _) ⟨rfl,rfl⟩
def Jq (a0:(List bA)):Option Int:=
 if 300<(a0.length:Int)then
  δ 2
 else
 kr a0 (λ(i8:Nat)e7(s1:Int)=>(show Option (Lr Int Int Int)from
   if(!(aT e7.az 1 9999999))=θ then
    δ (.ret 1)
   else
   (if decide (0<(i8:Int))=θ then pU a0 (ξ.wrap ((i8:Int) -1))else δ default).bind λx9=>
   if((decide (0<(i8:Int)))&&(decide (e7.az<=x9.az)))=θ then
    δ (.ret 7)
   else
   (if decide (¬(e7.title=(⟨#[]⟩:ByteArray)))=θ then tq (jF e7.title) (Cb e7.title)else δ default).bind λgR=>
   if((decide (¬(e7.title=(⟨#[]⟩:ByteArray))))&&(!gR))=θ then
    δ (.ret 3)
   else
   if(((((!((aT e7.cB 0 36000000)))||(!((aT e7.up 0 36000000))))||(!((aT e7.down 0 36000000))))||(!((aT e7.other 0 36000000))))||(!(aT e7.eM (-1) 36000000)))=θ then
    δ (.ret 1)
   else
   if ¬((pK e7.fM)=0)then
    δ (.ret (pK e7.fM))
   else
   if 2000<(e7.dF.length:Int)then
    δ (.ret 2)
   else
   (IQ e7.dF).bind λdc=>
   if ¬(dc=0)then
    δ (.ret dc)
   else
   δ (.go (ξ.wrap (s1+(e7.dF.length:Int)))))) (λs1=>δ s1) 0 (λb2=>
  δ (if(decide (10000<b2))=θ then 2 else 0)) (λb2=>
  δ b2)
theorem acm{a0:(List bA)}{σ:Heap}{r:Int}(h:Jq a0=δ r):Me [(sl 11 bg a0)] σ=δ ((ε r),σ):=by
 refine yj (f:=V6) (y0:=(sl 11 bg a0)) (enc:=λr:Int=>(ε r)) (T:=Jq a0) (dO (mT (λ_=>rfl) _) rfl) rfl ?_ r h;unfold V6 Jq;refine an _ (fu _ _ _)<|an _ rfl ?_;refine jJ (p:=300<(a0.length:Int)) (λiz=>?_) (λiz=>?_)
 ·exact dI _ (bD _ _) ⟨rfl,rfl⟩
 refine an _ (fu _ _ _) ?_;refine mA (B:=Int) (R:=Int) (λ(i8:Nat)(s1:Int)v w3=>v=[(ε 0),(ε s1),(ε (i8:Int))]/\σ=w3) (λ(b2:Int)(q:LS)=>∃u2 xT,q=((Ξ 0),([u2,(ε b2),xT]:aq),σ)) (λ(b2:Int)(q:LS)=>∃u3 xT,q=(YP,([(ε b2),u3,xT]:aq),σ)) ?_ ?_ ⟨rfl,rfl⟩ ?_ ?_
 ·intro sF i8 e7 s1 v w3 jZ hI;obtain⟨rfl,rfl⟩:=hI;refine an _ (iR jZ)<|mC<|an _ (gH jZ)<|an _ rfl<|an _ rfl<|an _ (C3 _ _ rfl)<|an _ rfl<|an _ (mL e7.az 1 9999999 σ)<|an _ rfl ?_;refine gy (c:=(!(aT e7.az 1 9999999))) (λig=>?_) (λig=>?_)
  ·exact bK (gd (by simp) ⟨_,_,rfl⟩)
  refine an _ rfl<|bX (ε e7.az) (λhg=>rfl)<|bX (sl 11 bg a0) (λhg=>rfl)<|bX (ε (i8:Int)) (λhg=>rfl)<|bX (ε (ξ.wrap ((i8:Int) -1))) (λhg=>by(try rw[hg]);exact rfl) ?_;refine tE (ω:=bA) (λx9=>(ZN (bg x9))) (λhg x9 Bu=>by(try rw[hg]);exact xz Bu) (λx9 Bu=>?_);refine bX (ZN (bg x9)) (λhg=>by(try rw[hg]);exact rfl)<|bX (ε x9.az) (λhg=>by(try rw[hg]);exact rfl)<|bX (Λ (decide (e7.az<=x9.az))) (λhg=>by(try rw[hg]);exact rfl)<|an _ (mO _ _) ?_;refine gy (c:=((decide (0<(i8:Int)))&&(decide (e7.az<=x9.az)))) (λlW=>?_) (λlW=>?_)
  ·exact bK (gd (by simp) ⟨_,_,rfl⟩)
  refine an _ rfl<|an _ (Nf _ _)<|bX (Xo e7.title) (λhg=>rfl) ?_;refine tE (ω:=Bool) (λgR=>(Λ gR)) (λhg gR Fm=>by(try rw[hg]);exact(eH ((tJ (e:=λr:Bool=>((Λ r),σ)) (λhs=>ad1 e7.title hs σ)) Fm))) (λgR Fm=>?_);refine bX (Λ (!gR)) (λhg=>by(try rw[hg]);exact rfl)<|an _ (mO _ _) ?_;refine gy (c:=((decide (¬(e7.title=(⟨#[]⟩:ByteArray))))&&(!gR))) (λjY=>?_) (λjY=>?_)
  ·exact bK (gd (by simp) ⟨_,_,rfl⟩)
  refine an _ rfl<|an _ (I5 (σ:=σ) (r:=(aT e7.cB 0 36000000)) rfl)<|an _ rfl<|ew (ε e7.up) (λhg=>rfl)<|ew (Λ ((aT e7.up 0 36000000))) (λhg=>by(try rw[hg]);exact(eH (I5 (σ:=σ) (r:=(aT e7.up 0 36000000)) rfl)))<|ew (Λ (!((aT e7.up 0 36000000)))) (λhg=>by(try rw[hg]);exact rfl)<|an _ (nO _ _)<|ew (ε e7.down) (λhg=>rfl)<|ew (Λ ((aT e7.down 0 36000000))) (λhg=>by(try rw[hg]);exact(eH (I5 (σ:=σ) (r:=(aT e7.down 0 36000000)) rfl)))<|ew (Λ (!((aT e7.down 0 36000000)))) (λhg=>by(try rw[hg]);exact rfl)<|an _ (nO _ _)<|ew (ε e7.other) (λhg=>rfl)<|ew (Λ ((aT e7.other 0 36000000))) (λhg=>by(try rw[hg]);exact(eH (I5 (σ:=σ) (r:=(aT e7.other 0 36000000)) rfl)))<|ew (Λ (!((aT e7.other 0 36000000)))) (λhg=>by(try rw[hg]);exact rfl)<|an _ (nO _ _)<|ew (ε e7.eM) (λhg=>rfl)<|ew (Λ (aT e7.eM (-1) 36000000)) (λhg=>by(try rw[hg]);exact(eH (mL e7.eM (-1) 36000000 σ)))<|ew (Λ (!(aT e7.eM (-1) 36000000))) (λhg=>by(try rw[hg]);exact rfl)<|an _ (nO _ _) ?_;refine gy (c:=(((((!((aT e7.cB 0 36000000)))||(!((aT e7.up 0 36000000))))||(!((aT e7.down 0 36000000))))||(!((aT e7.other 0 36000000))))||(!(aT e7.eM (-1) 36000000)))) (λjj=>?_) (λjj=>?_)
  ·exact bK (gd (by simp) ⟨_,_,rfl⟩)
  refine an _ rfl<|an _ (aa1 e7.fM σ)<|an _ (fV _ _ _) ?_;refine jJ (p:=¬((pK e7.fM)=0)) (λia=>?_) (λia=>?_)
  ·exact bK (gd (by simp) ⟨_,_,rfl⟩)
  refine an (sl 8 ff e7.dF) rfl<|an _ (fu _ _ _)<|an _ rfl ?_;refine jJ (p:=2000<(e7.dF.length:Int)) (λfU=>?_) (λfU=>?_)
  ·exact bK (gd (by simp) ⟨_,_,rfl⟩)
  refine an (sl 8 ff e7.dF) rfl ?_;refine jK (λdc:Int=>((ε dc),σ)) (λdc xE=>akm xE) (λdc xE=>?_);refine an _ (fV _ _ _) ?_;refine jJ (p:=¬(dc=0)) (λcZ=>?_) (λcZ=>?_)
  ·exact bK (gd (by simp) ⟨_,_,rfl⟩)
  refine an (sl 8 ff e7.dF) rfl<|an _ (fu _ _ _)<|an _ rfl<|an _ (fT jZ sF) ?_;exact bK (l7 ⟨rfl,rfl⟩)
 ·intro hl s1 v w3 hI;obtain⟨rfl,rfl⟩:=hI;refine an _ (iQ _)<|mB ?_;exact bK ⟨by simp,⟨_,_,rfl⟩⟩
 ·intro hl b2 q hq;obtain⟨u2,xT,rfl⟩:=hq;refine gO rfl<|an _ rfl<|an _ (yl (decide (10000<b2)) 2 σ) ?_;exact dI _ (bD _ _) ⟨rfl,rfl⟩
 ·intro hl b2 q hq;obtain⟨u3,xT,rfl⟩:=hq;refine qc rfl<|gO rfl ?_;exact dI _ (bD _ _) ⟨rfl,rfl⟩
def Jh (a0:eU):Option (List (aC×Bool)):=
 (tq (rG a0) (((if ji a0=0 then nZ a0 else[]:List aC),ji a0))).bind λr1=>
 kr r1.1 (λ(uT:Nat)iV(s4:(List (aC×Bool)))=>(show Option (Lr (List (aC×Bool)) (List (aC×Bool)) Unit)from
   δ (.go (fJ iV θ s4)))) (λs4=>δ s4) ([]:List (aC×Bool)) (λb5=>
  δ b5) (λb5=>
  μ)
theorem amD{a0:eU}{σ:Heap}{r:(List (aC×Bool))}(h:Jh a0=δ r):Vr [(Φ (eO a0))] σ=δ ((yS (λx=>(Φ (aS x))) (λx=>(Λ x)) r),σ):=by
 refine yj (f:=anc) (y0:=(Φ (eO a0))) (enc:=λr:(List (aC×Bool))=>(yS (λx=>(Φ (aS x))) (λx=>(Λ x)) r)) (T:=Jh a0) rfl rfl ?_ r h;unfold anc Jh;refine an _ rfl<|an _ rfl ?_;refine jK (λr1:((List aC)×Int)=>((Yu [(sl 2 aS r1.1),(ε r1.2)]),σ)) (λr1 jE=>(tJ (e:=λr:((List aC)×Int)=>((Yu [(sl 2 aS r.1),(ε r.2)]),σ)) (λhs=>aCJ a0 hs σ)) jE) (λr1 jE=>?_);refine an (sl 2 aS r1.1) rfl<|an _ rfl ?_;have hp2:Hp σ σ []:=MP σ;have hp3:Hp σ (σ++[Z0 []]) [((XP σ.length),(aC8 (Y0 (λp=>((λx=>(Φ (aS x))) p.1,(λx=>(Λ x)) p.2)) ([]:List (aC×Bool)))))]:=aAt hp2;refine an _ (fu _ _ _) ?_;refine mA (B:=(List (aC×Bool))) (R:=Unit) (λ(uT:Nat)(s4:(List (aC×Bool)))v w6=>v=[(ε (uT:Int))]/\Hp σ w6 [((XP σ.length),(aC8 (Y0 (λp=>((λx=>(Φ (aS x))) p.1,(λx=>(Λ x)) p.2)) s4)))]) (λ(b5:(List (aC×Bool)))(q:LS)=>∃u16 w7,q=((Ξ 0),([u16]:aq),w7)/\Hp σ w7 [((XP σ.length),(aC8 (Y0 (λp=>((λx=>(Φ (aS x))) p.1,(λx=>(Λ x)) p.2)) b5)))]) (λ(b5:Unit)(q:LS)=>False) ?_ ?_ ⟨rfl,hp3⟩ ?_ ?_
 ·intro M1 uT iV s4 v w6 A6 hI;obtain⟨rfl,rU⟩:=hI;refine an _ (iR A6)<|mC<|an _ (gH A6)<|an _ rfl<|an _ rfl<|an _ (C4 _ _ rfl)<|an _ rfl ?_;obtain⟨w12,e14,ahO⟩:=aCo (ek:=(.s [0,2])) (eK:=(λx=>(Φ (aS x)))) (eV:=(λx=>(Λ x))) rU 0 rfl vq iV θ rfl;change Hp σ w12 [((XP σ.length),(aC8 (Y0 (λp=>((λx=>(Φ (aS x))) p.1,(λx=>(Λ x)) p.2)) (fJ iV θ s4))))]at ahO;refine an w12 e14<|an _ (fT A6 M1) ?_;exact bK (l7 ⟨rfl,ahO⟩)
 ·intro hl s4 v w6 hI;obtain⟨rfl,rU⟩:=hI;refine an _ (iQ _)<|mB ?_;exact bK ⟨by simp,⟨_,_,rfl,rU⟩⟩
 ·intro hl b5 q hq;obtain⟨u16,w7,rfl,OK⟩:=hq;refine gO rfl ?_;exact dI _ (JX OK (agk OK (k:=0) rfl (by intro p hp;obtain⟨x,_,rfl⟩:=gh.1 hp;exact⟨(wq (AG _)),(BY _)⟩))) ⟨rfl,rfl⟩
 ·intro hl b5 q hq;exact aC6 hq
def I3 (a0:aC) (a1:aC):Option Bool:=
 if ¬(a0.unit=a1.unit)then
  δ (decide (a0.unit<a1.unit))
 else
 δ (decide ((Xt a0.param.data.toList a1.param.data.toList)<0))
theorem alu{a0:aC}{a1:aC}{σ:Heap}{r:Bool}(h:I3 a0 a1=δ r):az8 [(Φ (aS a0)),(Φ (aS a1))] σ=δ ((Λ r),σ):=by
 refine rW (f:=aAo) (y0:=(Φ (aS a0))) (y1:=(Φ (aS a1))) (enc:=λr:Bool=>(Λ r)) (T:=I3 a0 a1) rfl rfl ?_ r h;unfold aAo I3;refine an _ rfl<|an _ rfl<|an _ rfl<|an _ rfl<|an _ (fV _ _ _) ?_;refine jJ (p:=¬(a0.unit=a1.unit)) (λc1=>?_) (λc1=>?_)
 ·refine an _ rfl<|an _ rfl<|an _ rfl ?_;exact dI _ (bD _ _) ⟨rfl,rfl⟩
 refine an _ rfl<|an _ rfl<|an _ rfl<|an _ rfl ?_;exact dI _ (bD _ _) ⟨rfl,rfl⟩
def F6 (a0:eU) (a1:(List fL)):Option Int:=
 (tq (rG a0) (ji a0)).bind λr1=>
 (tq (([r1,(if(decide (200<(a1.length:Int)))=θ then 2 else 0)]:(List Int)).length<=aZ) ((([r1,(if(decide (200<(a1.length:Int)))=θ then 2 else 0)]:(List Int)).find? λn=>decide (¬n=0)).getD 0)).bind λr2=>
 if ¬(r2=0)then
  δ r2
 else
 (Jh a0).bind λr3=>
 kr a1 (λ(uT:Nat)iV(s4:Unit)=>(show Option (Lr Unit Unit Int)from
   if(!(aT iV.az 1 999))=θ then
    δ (.ret 1)
   else
   (if decide (0<(uT:Int))=θ then pU a1 (ξ.wrap ((uT:Int) -1))else δ default).bind λbR=>
   if((decide (0<(uT:Int)))&&(decide (iV.az<=bR.az)))=θ then
    δ (.ret 7)
   else
   (tq (jF iV.title) (GD iV.title)).bind λjU=>
   if(!jU)=θ then
    δ (.ret 3)
   else
   if 2000<(iV.jN.length:Int)then
    δ (.ret 2)
   else
   kr iV.jN (λ(i21:Nat)D5(Bz:Unit)=>(show Option (Lr Unit Unit Int)from
     if(!((dQ D5.key r3).getD ι))=θ then
      δ (.ret 8)
     else
     if(!(aT D5.level 0 65535))=θ then
      δ (.ret 1)
     else
     (if decide (0<(i21:Int))=θ then pU iV.jN (ξ.wrap ((i21:Int) -1))else δ default).bind λcI=>
     (if decide (0<(i21:Int))=θ then I3 cI.key D5.key else δ default).bind λmY=>
     if((decide (0<(i21:Int)))&&(!mY))=θ then
      δ (.ret 7)
     else
     δ (.go ()))) (λBz=>δ ()) () (λHH=>
    δ (.go ())) (λHH=>
    δ (.ret HH)))) (λs4=>δ ()) () (λb5=>
  δ 0) (λb5=>
  δ b5)
theorem aat{a0:eU}{a1:(List fL)}{σ:Heap}{r:Int}(h:F6 a0 a1=δ r):PK [(Φ (eO a0)),(sl 3 dX a1)] σ=δ ((ε r),σ):=by
 refine rW (f:=TJ) (y0:=(Φ (eO a0))) (y1:=(sl 3 dX a1)) (enc:=λr:Int=>(ε r)) (T:=F6 a0 a1) rfl rfl ?_ r h;unfold TJ F6;refine an _ rfl<|an _ rfl ?_;refine jK (λr1:Int=>((ε r1),σ)) (λr1 jE=>(tJ (e:=λr:Int=>((ε r),σ)) (λhs=>aCP a0 hs σ)) jE) (λr1 jE=>?_);refine an _ (fu _ _ _)<|an _ rfl<|an _ (yl (decide (200<(a1.length:Int))) 2 σ)<|an (sl 1 oL ([r1,(if(decide (200<(a1.length:Int)))=θ then 2 else 0)]:(List Int))) rfl ?_;refine jK (λr2:Int=>((ε r2),σ)) (λr2 tY=>(tJ (e:=λr:Int=>((ε r),σ)) (λhs=>EL ([r1,(if(decide (200<(a1.length:Int)))=θ then 2 else 0)]:(List Int)) hs σ)) tY) (λr2 tY=>?_);refine an _ (fV _ _ _) ?_;refine jJ (p:=¬(r2=0)) (λqD=>?_) (λqD=>?_)
 ·exact dI _ (bD _ _) ⟨rfl,rfl⟩
 refine an _ rfl ?_;refine jK (λr3:(List (aC×Bool))=>((yS (λx=>(Φ (aS x))) (λx=>(Λ x)) r3),σ)) (λr3 KW=>amD KW) (λr3 KW=>?_);refine an _ (fu _ _ _) ?_;refine mA (B:=Unit) (R:=Int) (λ(uT:Nat)(s4:Unit)v w6=>∃u4,v=[u4,(ε (uT:Int))]/\σ=w6) (λ(b5:Unit)(q:LS)=>∃u4 O7,q=((Ξ 0),([u4,O7]:aq),σ)) (λ(b5:Int)(q:LS)=>∃O7,q=(YP,([(ε b5),O7]:aq),σ)) ?_ ?_ ⟨_,rfl,rfl⟩ ?_ ?_
 ·intro M1 uT iV s4 v w6 A6 hI;obtain⟨u4,rfl,rfl⟩:=hI;refine an _ (iR A6)<|mC<|an _ (gH A6)<|an _ rfl<|an _ rfl<|an _ (Jo _ _ rfl)<|an _ rfl<|an _ (mL iV.az 1 999 σ)<|an _ rfl ?_;refine gy (c:=(!(aT iV.az 1 999))) (λsJ=>?_) (λsJ=>?_)
  ·exact bK (gd (by simp) ⟨_,rfl⟩)
  refine an _ rfl<|bX (ε iV.az) (λhg=>rfl)<|bX (sl 3 dX a1) (λhg=>rfl)<|bX (ε (uT:Int)) (λhg=>rfl)<|bX (ε (ξ.wrap ((uT:Int) -1))) (λhg=>by(try rw[hg]);exact rfl) ?_;refine tE (ω:=fL) (λbR=>(ZN (dX bR))) (λhg bR ahZ=>by(try rw[hg]);exact xz ahZ) (λbR ahZ=>?_);refine bX (ZN (dX bR)) (λhg=>by(try rw[hg]);exact rfl)<|bX (ε bR.az) (λhg=>by(try rw[hg]);exact rfl)<|bX (Λ (decide (iV.az<=bR.az))) (λhg=>by(try rw[hg]);exact rfl)<|an _ (mO _ _) ?_;refine gy (c:=((decide (0<(uT:Int)))&&(decide (iV.az<=bR.az)))) (λqC=>?_) (λqC=>?_)
  ·exact bK (gd (by simp) ⟨_,rfl⟩)
  refine an _ rfl ?_;refine jK (λjU:Bool=>((Λ jU),σ)) (λjU NP=>(tJ (e:=λr:Bool=>((Λ r),σ)) (λhs=>aqf iV.title hs σ)) NP) (λjU NP=>?_);refine an _ rfl ?_;refine gy (c:=(!jU)) (λme=>?_) (λme=>?_)
  ·exact bK (gd (by simp) ⟨_,rfl⟩)
  refine an (sl 3 dW iV.jN) rfl<|an _ (fu _ _ _)<|an _ rfl ?_;refine jJ (p:=2000<(iV.jN.length:Int)) (λkU=>?_) (λkU=>?_)
  ·exact bK (gd (by simp) ⟨_,rfl⟩)
  refine an (sl 3 dW iV.jN) rfl<|an _ (fu _ _ _) ?_;refine mA (B:=Unit) (R:=Int) (λ(i21:Nat)(Bz:Unit)v w16=>∃u4,v=[u4,(VD (dX iV)),(ε (i21:Int))]/\σ=w16) (λ(HH:Unit)(q:LS)=>∃u4 u8 Pf,q=((Ξ 3),([u4,u8,Pf]:aq),σ)) (λ(HH:Int)(q:LS)=>∃u8 Pf,q=(YP,([(ε HH),u8,Pf]:aq),σ)) ?_ ?_ ⟨_,rfl,rfl⟩ ?_ ?_
  ·intro avo i21 D5 Bz v w16 aAf hI;obtain⟨u4,rfl,rfl⟩:=hI;refine an _ (iR aAf)<|mC<|an _ (gH aAf)<|an _ rfl<|an _ rfl<|an _ (Qy _ _ rfl)<|an _ rfl<|an _ (aqN (ek:=(.s [0,2])) (eK:=(λx=>(Φ (aS x)))) (eV:=(λx=>(Λ x))) vq D5.key ι rfl)<|an _ rfl ?_;refine gy (c:=(!((dQ D5.key r3).getD ι))) (λjv=>?_) (λjv=>?_)
   ·exact bK (gd (by simp) ⟨_,_,rfl⟩)
   refine an _ rfl<|an _ (abI D5.level σ)<|an _ rfl ?_;refine gy (c:=(!(aT D5.level 0 65535))) (λiA=>?_) (λiA=>?_)
   ·exact bK (gd (by simp) ⟨_,_,rfl⟩)
   refine an _ rfl<|an _ rfl<|bX (sl 3 dW iV.jN) (λhg=>rfl)<|bX (ε (i21:Int)) (λhg=>rfl)<|bX (ε (ξ.wrap ((i21:Int) -1))) (λhg=>by(try rw[hg]);exact rfl) ?_;refine tE (ω:=gE) (λcI=>(ZN (dW cI))) (λhg cI ah2=>by(try rw[hg]);exact xz ah2) (λcI ah2=>?_);refine bX (ZN (dW cI)) (λhg=>by(try rw[hg]);exact rfl)<|bX (Φ (aS cI.key)) (λhg=>by(try rw[hg]);exact rfl)<|bX (Φ (aS D5.key)) (λhg=>rfl) ?_;refine tE (ω:=Bool) (λmY=>(Λ mY)) (λhg mY ahS=>by(try rw[hg]);exact(eH (alu ahS))) (λmY ahS=>?_);refine bX (Λ (!mY)) (λhg=>by(try rw[hg]);exact rfl)<|an _ (mO _ _) ?_;refine gy (c:=((decide (0<(i21:Int)))&&(!mY))) (λfW=>?_) (λfW=>?_)
   ·exact bK (gd (by simp) ⟨_,_,rfl⟩)
   refine an _ (fT aAf avo) ?_;exact bK (l7 ⟨_,rfl,rfl⟩)
  ·intro hl Bz v w16 hI;obtain⟨u4,rfl,rfl⟩:=hI;refine an _ (iQ _)<|mB ?_;exact bK ⟨by simp,⟨_,_,_,rfl⟩⟩
  ·intro hl HH q hq;obtain⟨u4,u8,Pf,rfl⟩:=hq;refine gO rfl<|an _ (fT A6 M1) ?_;exact bK (l7 ⟨_,rfl,rfl⟩)
  ·intro hl HH q hq;obtain⟨u8,Pf,rfl⟩:=hq;refine qc rfl<|gO rfl ?_;exact bK (gd (by simp) ⟨_,rfl⟩)
 ·intro hl s4 v w6 hI;obtain⟨u4,rfl,rfl⟩:=hI;refine an _ (iQ _)<|mB ?_;exact bK ⟨by simp,⟨_,_,rfl⟩⟩
 ·intro hl b5 q hq;obtain⟨u4,O7,rfl⟩:=hq;refine gO rfl ?_;exact dI _ (bD _ _) ⟨rfl,rfl⟩
 ·intro hl b5 q hq;obtain⟨O7,rfl⟩:=hq;refine qc rfl<|gO rfl ?_;exact dI _ (bD _ _) ⟨rfl,rfl⟩
def Ja (a0:(List fL)) (a1:aC) (a2:mz):Option (Int×Int):=
 if((decide (¬(a2.level=0)))&&(decide (¬(a2.fQ=0))))=θ then
  δ (0,3)
 else
 if(!(aT a2.level 0 65535))=θ then
  δ (0,1)
 else
 if a2.fQ=0 then
  δ (a2.level,0)
 else
 kr a0 (λ(i8:Nat)e7(s1:Unit)=>(show Option (Lr Unit Unit Int)from
   if ¬(e7.az=a2.fQ)then
    δ (.go ())
   else
   kr e7.jN (λ(i16:Nat)SN(s9:Unit)=>(show Option (Lr Unit Unit Int)from
     if SN.key=a1 then
      δ (.ret SN.level)
     else
     δ (.go ()))) (λs9=>δ ()) () (λHG=>
    δ (.brk ())) (λHG=>
    δ (.ret HG)))) (λs1=>δ ()) () (λb2=>
  δ (0,8)) (λb2=>
  δ (b2,0))
theorem abh{a0:(List fL)}{a1:aC}{a2:mz}{σ:Heap}{r:(Int×Int)}(h:Ja a0 a1 a2=δ r):LX [(sl 3 dX a0),(Φ (aS a1)),(Φ (tC a2))] σ=δ ((Yu [(ε r.1),(ε r.2)]),σ):=by
 refine My (f:=aAZ) (y0:=(sl 3 dX a0)) (y1:=(Φ (aS a1))) (y2:=(Φ (tC a2))) (enc:=λr:(Int×Int)=>(Yu [(ε r.1),(ε r.2)])) (T:=Ja a0 a1 a2) rfl rfl ?_ r h;unfold aAZ Ja;refine an _ rfl<|an _ rfl<|an _ rfl<|an _ (fV _ _ _)<|bX (ε a2.fQ) (λhg=>rfl)<|bX (Λ (decide (¬(a2.fQ=0)))) (λhg=>by(try rw[hg]);exact(fV _ _ _))<|an _ (mO _ _) ?_;refine gy (c:=((decide (¬(a2.level=0)))&&(decide (¬(a2.fQ=0))))) (λij=>?_) (λij=>?_)
 ·exact dI _ (bD _ _) ⟨rfl,rfl⟩
 refine an _ rfl<|an _ (abI a2.level σ)<|an _ rfl ?_;refine gy (c:=(!(aT a2.level 0 65535))) (λiH=>?_) (λiH=>?_)
 ·exact dI _ (bD _ _) ⟨rfl,rfl⟩
 refine an _ rfl<|an _ (jL _ _ _) ?_;refine jJ (p:=a2.fQ=0) (λiz=>?_) (λiz=>?_)
 ·refine an _ rfl ?_;exact dI _ (bD _ _) ⟨rfl,rfl⟩
 refine an _ (fu _ _ _) ?_;refine mA (B:=Unit) (R:=Int) (λ(i8:Nat)(s1:Unit)v w3=>v=[(VD (aS a1)),(VD (tC a2)),(ε 0),(ε 0),(ε (i8:Int))]/\σ=w3) (λ(b2:Unit)(q:LS)=>∃u4 u5 u6 u7 Pa,q=((Ξ 0),([u4,u5,u6,u7,Pa]:aq),σ)) (λ(b2:Int)(q:LS)=>∃u4 u5 Pa,q=(YP,([u4,u5,(ε b2),(ε 0),Pa]:aq),σ)) ?_ ?_ ⟨rfl,rfl⟩ ?_ ?_
 ·intro sF i8 e7 s1 v w3 jZ hI;obtain⟨rfl,rfl⟩:=hI;refine an _ (iR jZ)<|mC<|an _ (gH jZ)<|an _ rfl<|an _ rfl<|an _ (Jo _ _ rfl)<|an _ rfl<|an _ rfl<|an _ rfl<|an _ (fV _ _ _) ?_;refine jJ (p:=¬(e7.az=a2.fQ)) (λig=>?_) (λig=>?_)
  ·refine an _ (fT jZ sF) ?_;exact bK (l7 ⟨rfl,rfl⟩)
  refine an (sl 3 dW e7.jN) rfl<|an _ (fu _ _ _) ?_;refine mA (B:=Unit) (R:=Int) (λ(i16:Nat)(s9:Unit)v w11=>v=[(VD (aS a1)),(ε 0),(ε 0),(ε (i16:Int))]/\σ=w11) (λ(HG:Unit)(q:LS)=>∃u4 u6 u7 Pb,q=((Ξ 2),([u4,u6,u7,Pb]:aq),σ)) (λ(HG:Int)(q:LS)=>∃u4 Pb,q=(YP,([u4,(ε HG),(ε 0),Pb]:aq),σ)) ?_ ?_ ⟨rfl,rfl⟩ ?_ ?_
  ·intro avn i16 SN s9 v w11 aAj hI;obtain⟨rfl,rfl⟩:=hI;refine an _ (iR aAj)<|mC<|an _ (gH aAj)<|an _ rfl<|an _ rfl<|an _ (Qy _ _ rfl)<|an _ rfl<|an _ rfl<|an _ (R1 _ _) ?_;refine jJ (p:=SN.key=a1) (λlW=>?_) (λlW=>?_)
   ·refine an _ rfl ?_;exact bK (gd (by simp) ⟨_,_,rfl⟩)
   refine an _ (fT aAj avn) ?_;exact bK (l7 ⟨rfl,rfl⟩)
  ·intro hl s9 v w11 hI;obtain⟨rfl,rfl⟩:=hI;refine an _ (iQ _)<|mB ?_;exact bK ⟨by simp,⟨_,_,_,_,rfl⟩⟩
  ·intro hl HG q hq;obtain⟨u4,u6,u7,Pb,rfl⟩:=hq;refine gO rfl ?_;exact bK (afQ (by simp) ⟨_,_,_,_,_,rfl⟩)
  ·intro hl HG q hq;obtain⟨u4,Pb,rfl⟩:=hq;refine qc rfl<|gO rfl ?_;exact bK (gd (by simp) ⟨_,_,_,rfl⟩)
 ·intro hl s1 v w3 hI;obtain⟨rfl,rfl⟩:=hI;refine an _ (iQ _)<|mB ?_;exact bK ⟨by simp,⟨_,_,_,_,_,rfl⟩⟩
 ·intro hl b2 q hq;obtain⟨u4,u5,u6,u7,Pa,rfl⟩:=hq;refine gO rfl ?_;exact dI _ (bD _ _) ⟨rfl,rfl⟩
 ·intro hl b2 q hq;obtain⟨u4,u5,Pa,rfl⟩:=hq;refine qc rfl<|gO rfl ?_;exact dI _ (bD _ _) ⟨rfl,rfl⟩
def IU (a0:eU) (a1:(List fL)) (a2:(List bA)):Option Int:=
 (F6 a0 a1).bind λr1=>
 (Jq a2).bind λr2=>
 (tq (([r1,r2]:(List Int)).length<=aZ) ((([r1,r2]:(List Int)).find? λn=>decide (¬n=0)).getD 0)).bind λr3=>
 if ¬(r3=0)then
  δ r3
 else
 (tq (rG a0) (((if ji a0=0 then nZ a0 else[]:List aC),ji a0))).bind λr4=>
 kr r4.1 (λ(i14:Nat)SM(s7:(List (aC×Bool)))=>(show Option (Lr (List (aC×Bool)) (List (aC×Bool)) Unit)from
   δ (.go (fJ SM θ s7)))) (λs7=>δ s7) ([]:List (aC×Bool)) (λb8=>
  kr a2 (λ(i25:Nat)Ot(Ap:Unit)=>(show Option (Lr Unit Unit Int)from
    kr Ot.dF (λ(i33:Nat)KE(Te:Unit)=>(show Option (Lr Unit Unit Int)from
      if(!((dQ KE.key b8).getD ι))=θ then
       δ (.ret 8)
      else
      (Ja a1 KE.key KE.value).bind λkG=>
      if ¬(kG.2=0)then
       δ (.ret kG.2)
      else
      δ (.go ()))) (λTe=>δ ()) () (λHK=>
     δ (.go ())) (λHK=>
     δ (.ret HK)))) (λAp=>δ ()) () (λHJ=>
   δ 0) (λHJ=>
   δ HJ)) (λb8=>
  μ)
theorem aky{a0:eU}{a1:(List fL)}{a2:(List bA)}{σ:Heap}{r:Int}(h:IU a0 a1 a2=δ r):aBI [(Φ (eO a0)),(sl 3 dX a1),(sl 11 bg a2)] σ=δ ((ε r),σ):=by
 refine My (f:=aAu) (y0:=(Φ (eO a0))) (y1:=(sl 3 dX a1)) (y2:=(sl 11 bg a2)) (enc:=λr:Int=>(ε r)) (T:=IU a0 a1 a2) (dO (nT (dO (mT (λ_=>(dO rfl (dO rfl (dO (mT (λ_=>rfl) _) oH)))) _) (dO rfl oH))) (dO (mT (λ_=>rfl) _) (dO (mT (λ_=>rfl) _) rfl))) rfl ?_ r h;unfold aAu IU;refine an _ rfl<|an _ rfl ?_;refine jK (λr1:Int=>((ε r1),σ)) (λr1 jE=>aat jE) (λr1 jE=>?_);refine jK (λr2:Int=>((ε r2),σ)) (λr2 tY=>acm tY) (λr2 tY=>?_);refine an (sl 1 oL ([r1,r2]:(List Int))) rfl ?_;refine jK (λr3:Int=>((ε r3),σ)) (λr3 KW=>(tJ (e:=λr:Int=>((ε r),σ)) (λhs=>EL ([r1,r2]:(List Int)) hs σ)) KW) (λr3 KW=>?_);refine an _ (fV _ _ _) ?_;refine jJ (p:=¬(r3=0)) (λlN=>?_) (λlN=>?_)
 ·exact dI _ (bD _ _) ⟨rfl,rfl⟩
 refine an _ rfl ?_;refine jK (λr4:((List aC)×Int)=>((Yu [(sl 2 aS r4.1),(ε r4.2)]),σ)) (λr4 hr4=>(tJ (e:=λr:((List aC)×Int)=>((Yu [(sl 2 aS r.1),(ε r.2)]),σ)) (λhs=>aCJ a0 hs σ)) hr4) (λr4 hr4=>?_);refine an (sl 2 aS r4.1) rfl<|an _ rfl ?_;have hp5:Hp σ σ []:=MP σ;have hp6:Hp σ (σ++[Z0 []]) [((XP σ.length),(aC8 (Y0 (λp=>((λx=>(Φ (aS x))) p.1,(λx=>(Λ x)) p.2)) ([]:List (aC×Bool)))))]:=aAt hp5;refine an _ (fu _ _ _) ?_;refine mA (B:=(List (aC×Bool))) (R:=Unit) (λ(i14:Nat)(s7:(List (aC×Bool)))v w9=>v=[(ε (i14:Int))]/\Hp σ w9 [((XP σ.length),(aC8 (Y0 (λp=>((λx=>(Φ (aS x))) p.1,(λx=>(Λ x)) p.2)) s7)))]) (λ(b8:(List (aC×Bool)))(q:LS)=>∃F1 w10,q=((Ξ 0),([F1]:aq),w10)/\Hp σ w10 [((XP σ.length),(aC8 (Y0 (λp=>((λx=>(Φ (aS x))) p.1,(λx=>(Λ x)) p.2)) b8)))]) (λ(b8:Unit)(q:LS)=>False) ?_ ?_ ⟨rfl,hp6⟩ ?_ ?_
 ·intro avm i14 SM s7 v w9 au6 hI;obtain⟨rfl,aAX⟩:=hI;refine an _ (iR au6)<|mC<|an _ (gH au6)<|an _ rfl<|an _ rfl<|an _ (C4 _ _ rfl)<|an _ rfl ?_;obtain⟨Lg,lz,Fk⟩:=aCo (ek:=(.s [0,2])) (eK:=(λx=>(Φ (aS x)))) (eV:=(λx=>(Λ x))) aAX 0 rfl vq SM θ rfl;change Hp σ Lg [((XP σ.length),(aC8 (Y0 (λp=>((λx=>(Φ (aS x))) p.1,(λx=>(Λ x)) p.2)) (fJ SM θ s7))))]at Fk;refine an Lg lz<|an _ (fT au6 avm) ?_;exact bK (l7 ⟨rfl,Fk⟩)
 ·intro hl s7 v w9 hI;obtain⟨rfl,aAX⟩:=hI;refine an _ (iQ _)<|mB ?_;exact bK ⟨by simp,⟨_,_,rfl,aAX⟩⟩
 ·intro hl b8 q hq;obtain⟨F1,w10,rfl,axw⟩:=hq;refine gO rfl<|an _ (fu _ _ _) ?_;refine mA (B:=Unit) (R:=Int) (λ(i25:Nat)(Ap:Unit)v Iu=>∃u6,v=[u6,(ε (i25:Int))]/\Hp σ Iu [((XP σ.length),(aC8 (Y0 (λp=>((λx=>(Φ (aS x))) p.1,(λx=>(Λ x)) p.2)) b8)))]) (λ(HJ:Unit)(q:LS)=>∃u6 Pd Iv,q=((Ξ 2),([u6,Pd]:aq),Iv)/\Hp σ Iv [((XP σ.length),(aC8 (Y0 (λp=>((λx=>(Φ (aS x))) p.1,(λx=>(Λ x)) p.2)) b8)))]) (λ(HJ:Int)(q:LS)=>∃Pd Iv,q=(YP,([(ε HJ),Pd]:aq),Iv)/\Hp σ Iv []) ?_ ?_ ⟨_,rfl,axw⟩ ?_ ?_
  ·intro avp i25 Ot Ap v Iu Y2 hI;obtain⟨u6,rfl,Za⟩:=hI;refine an _ (iR Y2)<|mC<|an _ (gH Y2)<|an _ rfl<|an _ rfl<|an _ (C3 _ _ rfl)<|an (sl 8 ff Ot.dF) rfl<|an _ (fu _ _ _) ?_;refine mA (B:=Unit) (R:=Int) (λ(i33:Nat)(Te:Unit)v Tj=>∃u6,v=[u6,(ε (i33:Int))]/\Hp σ Tj [((XP σ.length),(aC8 (Y0 (λp=>((λx=>(Φ (aS x))) p.1,(λx=>(Λ x)) p.2)) b8)))]) (λ(HK:Unit)(q:LS)=>∃u6 Pe Iw,q=((Ξ 4),([u6,Pe]:aq),Iw)/\Hp σ Iw [((XP σ.length),(aC8 (Y0 (λp=>((λx=>(Φ (aS x))) p.1,(λx=>(Λ x)) p.2)) b8)))]) (λ(HK:Int)(q:LS)=>∃Pe Iw,q=(YP,([(ε HK),Pe]:aq),Iw)/\Hp σ Iw []) ?_ ?_ ⟨_,rfl,Za⟩ ?_ ?_
   ·intro avq i33 KE Te v Tj Y3 hI;obtain⟨u6,rfl,Kp⟩:=hI;refine an _ (iR Y3)<|mC<|an _ (gH Y3)<|an _ rfl<|an _ rfl<|an _ (Gy _ _ rfl)<|an _ rfl<|an _ (aqT (ek:=(.s [0,2])) (eK:=(λx=>(Φ (aS x)))) (eV:=(λx=>(Λ x))) Kp 0 rfl vq KE.key ι rfl)<|an _ rfl ?_;refine gy (c:=(!((dQ KE.key b8).getD ι))) (λnD=>?_) (λnD=>?_)
    ·exact bK (gd (by simp) ⟨_,_,rfl,(Xk Kp)⟩)
    refine an _ rfl<|an _ rfl ?_;refine jK (λkG:(Int×Int)=>((Yu [(ε kG.1),(ε kG.2)]),Tj)) (λkG ahU=>abh ahU) (λkG ahU=>?_);refine an _ rfl<|an _ rfl<|an _ (fV _ _ _) ?_;refine jJ (p:=¬(kG.2=0)) (λkX=>?_) (λkX=>?_)
    ·exact bK (gd (by simp) ⟨_,_,rfl,(Xk Kp)⟩)
    refine an _ (fT Y3 avq) ?_;exact bK (l7 ⟨_,rfl,Kp⟩)
   ·intro hl Te v Tj hI;obtain⟨u6,rfl,Kp⟩:=hI;refine an _ (iQ _)<|mB ?_;exact bK ⟨by simp,⟨_,_,_,rfl,Kp⟩⟩
   ·intro hl HK q hq;obtain⟨u6,Pe,Iw,rfl,aBe⟩:=hq;refine gO rfl<|an _ (fT Y2 avp) ?_;exact bK (l7 ⟨_,rfl,aBe⟩)
   ·intro hl HK q hq;obtain⟨Pe,Iw,rfl,aBe⟩:=hq;refine qc rfl<|gO rfl ?_;exact bK (gd (by simp) ⟨_,_,rfl,(Xk aBe)⟩)
  ·intro hl Ap v Iu hI;obtain⟨u6,rfl,Za⟩:=hI;refine an _ (iQ _)<|mB ?_;exact bK ⟨by simp,⟨_,_,_,rfl,Za⟩⟩
  ·intro hl HJ q hq;obtain⟨u6,Pd,Iv,rfl,Ko⟩:=hq;refine gO rfl ?_;exact dI _ (JX Ko (XH (eE _ _))) ⟨rfl,rfl⟩
  ·intro hl HJ q hq;obtain⟨Pd,Iv,rfl,Ko⟩:=hq;refine qc rfl<|gO rfl ?_;exact dI _ (JX Ko (XH (eE _ _))) ⟨rfl,rfl⟩
 ·intro hl b8 q hq;exact aC6 hq
def I1 (a0:(List fL)) (a1:Int):Option (fL×Bool):=
 kr a0 (λ(i8:Nat)e7(s1:Unit)=>(show Option (Lr Unit Unit (fL×Bool))from
   if e7.az=a1 then
    δ (.ret (e7,θ))
   else
   δ (.go ()))) (λs1=>δ ()) () (λb2=>
  δ ((⟨0,(⟨#[]⟩:ByteArray),[]⟩:fL),ι)) (λb2=>
  δ (b2.1,b2.2))
theorem alq{a0:(List fL)}{a1:Int}{σ:Heap}{r:(fL×Bool)}(h:I1 a0 a1=δ r):UO [(sl 3 dX a0),(ε a1)] σ=δ ((Yu [(Φ (dX r.1)),(Λ r.2)]),σ):=by
 refine rW (f:=aCG) (y0:=(sl 3 dX a0)) (y1:=(ε a1)) (enc:=λr:(fL×Bool)=>(Yu [(Φ (dX r.1)),(Λ r.2)])) (T:=I1 a0 a1) rfl rfl ?_ r h;unfold aCG I1;refine an _ (fu _ _ _) ?_;refine mA (B:=Unit) (R:=(fL×Bool)) (λ(i8:Nat)(s1:Unit)v w3=>v=[(VD [(ε 0),(Xo (⟨#[]⟩:ByteArray)),Zg]),aR,(ε (i8:Int))]/\σ=w3) (λ(b2:Unit)(q:LS)=>∃u5 uX,q=((Ξ 0),([(VD [(ε 0),(Xo (⟨#[]⟩:ByteArray)),Zg]),u5,uX]:aq),σ)) (λ(b2:(fL×Bool))(q:LS)=>∃uX,q=(YP,([(VD (dX b2.1)),(Λ b2.2),uX]:aq),σ)) ?_ ?_ ⟨rfl,rfl⟩ ?_ ?_
 ·intro sF i8 e7 s1 v w3 jZ hI;obtain⟨rfl,rfl⟩:=hI;refine an _ (iR jZ)<|mC<|an _ (gH jZ)<|an _ rfl<|an _ rfl<|an _ (Jo _ _ rfl)<|an _ rfl<|an _ (jL _ _ _) ?_;refine jJ (p:=e7.az=a1) (λc9=>?_) (λc9=>?_)
  ·refine an _ rfl<|an _ rfl<|an _ rfl<|an _ (Jo _ _ rfl) ?_;exact bK (gd (by simp) ⟨_,rfl⟩)
  refine an _ (fT jZ sF) ?_;exact bK (l7 ⟨rfl,rfl⟩)
 ·intro hl s1 v w3 hI;obtain⟨rfl,rfl⟩:=hI;refine an _ (iQ _)<|mB ?_;exact bK ⟨by simp,⟨_,_,rfl⟩⟩
 ·intro hl b2 q hq;obtain⟨u5,uX,rfl⟩:=hq;refine gO rfl<|an _ rfl<|an [(ε 0),(Xo (⟨#[]⟩:ByteArray)),Zg] rfl<|an [(ε 0),(Xo (⟨#[]⟩:ByteArray)),Zg] rfl<|an (Φ [(ε 0),(Xo (⟨#[]⟩:ByteArray)),Zg]) rfl ?_;exact dI _ (bD _ _) ⟨(Fu (dO (nT (dO rfl (dO rfl (dO (by first|rfl|exact RL _ _) oH)))) (dO rfl oH))),rfl⟩
 ·intro hl b2 q hq;obtain⟨uX,rfl⟩:=hq;refine qc rfl<|gO rfl<|an _ rfl ?_;exact dI _ (bD _ _) ⟨(Fu (dO (nT rfl) (dO rfl oH))),rfl⟩
def VO (a0:aC) (a1:aC):Option Bool:=δ ((decide (a0.unit<a1.unit))||((decide (a0.unit=a1.unit))&&(WR a0.param.toList a1.param.toList)))
theorem az6{a0:aC}{a1:aC}{σ:Heap}{r:Bool}(h:VO a0 a1=δ r):L3 [(Φ (aS a0)),(Φ (aS a1))] σ=δ ((Λ r),σ):=by refine rW (f:=aB4) (y0:=(Φ (aS a0))) (y1:=(Φ (aS a1))) (enc:=λr:Bool=>(Λ r)) (T:=VO a0 a1) rfl rfl ?_ r h;unfold aB4 VO;refine an _ rfl<|an _ rfl<|an _ rfl<|an _ rfl<|an _ rfl<|ew (ε a0.unit) (λhg=>rfl)<|ew (ε a1.unit) (λhg=>rfl)<|ew (Λ (decide (a0.unit=a1.unit))) (λhg=>by(try rw[hg]);exact(jL _ _ _))<|ew (Λ (decide (a0.unit=a1.unit))) (λhg=>by(try rw[hg]);exact rfl)<|AO (Xo a0.param) (λhg=>rfl)<|AO (Xo a1.param) (λhg=>rfl)<|AO (Λ (WR a0.param.toList a1.param.toList)) (λhg=>by(try rw[hg]);exact rfl)<|ew (Λ ((decide (a0.unit=a1.unit))&&(WR a0.param.toList a1.param.toList))) (λhg=>by(try rw[hg]);exact(mO _ _))<|an _ (nO _ _) ?_;exact dI _ (bD _ _) ⟨rfl,rfl⟩
def II (a0:eU) (a1:(List fL)):Option Int:=
 (tq (rG a0) (ji a0)).bind λr1=>
 if ¬(r1=0)then
  δ r1
 else
 if 200<(a1.length:Int)then
  δ 2
 else
 kr a1 (λ(i9:Nat)e8(s2:Unit)=>(show Option (Lr Unit Unit Int)from
   if(!(aT e8.az 1 999))=θ then
    δ (.ret 1)
   else
   (if decide (0<(i9:Int))=θ then pU a1 (ξ.wrap ((i9:Int) -1))else δ default).bind λbl=>
   if((decide (0<(i9:Int)))&&(decide (e8.az<=bl.az)))=θ then
    δ (.ret 7)
   else
   (if decide (¬(e8.title=(⟨#[]⟩:ByteArray)))=θ then tq (jF e8.title) (Cb e8.title)else δ default).bind λdc=>
   if((decide (¬(e8.title=(⟨#[]⟩:ByteArray))))&&(!dc))=θ then
    δ (.ret 3)
   else
   if 2000<(e8.jN.length:Int)then
    δ (.ret 2)
   else
   kr e8.jN (λ(yX:Nat)mg(mm:Unit)=>(show Option (Lr Unit Unit Int)from
     (tq (rG a0) (lg a0 mg.key)).bind λiX=>
     if(!iX.2)=θ then
      δ (.ret 8)
     else
     if(!(aT mg.level 0 65535))=θ then
      δ (.ret 1)
     else
     (if decide (0<(yX:Int))=θ then pU e8.jN (ξ.wrap ((yX:Int) -1))else δ default).bind λbL=>
     if((decide (0<(yX:Int)))&&(!(((decide (bL.key.unit<mg.key.unit))||((decide (bL.key.unit=mg.key.unit))&&(WR bL.key.param.toList mg.key.param.toList))))))=θ then
      δ (.ret 7)
     else
     δ (.go ()))) (λmm=>δ ()) () (λwK=>
    δ (.go ())) (λwK=>
    δ (.ret wK)))) (λs2=>δ ()) () (λb3=>
  δ 0) (λb3=>
  δ b3)
theorem aj3{a0:eU}{a1:(List fL)}{σ:Heap}{r:Int}(h:II a0 a1=δ r):TX [(Φ (eO a0)),(sl 3 dX a1)] σ=δ ((ε r),σ):=by
 refine rW (f:=T3) (y0:=(Φ (eO a0))) (y1:=(sl 3 dX a1)) (enc:=λr:Int=>(ε r)) (T:=II a0 a1) rfl rfl ?_ r h;unfold T3 II;refine an _ rfl<|an _ rfl ?_;refine jK (λr1:Int=>((ε r1),σ)) (λr1 jE=>(tJ (e:=λr:Int=>((ε r),σ)) (λhs=>alK a0 hs σ)) jE) (λr1 jE=>?_);refine an _ (fV _ _ _) ?_;refine jJ (p:=¬(r1=0)) (λsJ=>?_) (λsJ=>?_)
 ·exact dI _ (bD _ _) ⟨rfl,rfl⟩
 refine an _ (fu _ _ _)<|an _ rfl ?_;refine jJ (p:=200<(a1.length:Int)) (λqC=>?_) (λqC=>?_)
 ·exact dI _ (bD _ _) ⟨rfl,rfl⟩
 refine an _ (fu _ _ _) ?_;refine mA (B:=Unit) (R:=Int) (λ(i9:Nat)(s2:Unit)v w4=>∃u4,v=[(VD (eO a0)),u4,(ε (i9:Int))]/\σ=w4) (λ(b3:Unit)(q:LS)=>∃u2 u4 O6,q=((Ξ 0),([u2,u4,O6]:aq),σ)) (λ(b3:Int)(q:LS)=>∃u2 O6,q=(YP,([u2,(ε b3),O6]:aq),σ)) ?_ ?_ ⟨_,rfl,rfl⟩ ?_ ?_
 ·intro aA1 i9 e8 s2 v w4 HX hI;obtain⟨u4,rfl,rfl⟩:=hI;refine an _ (iR HX)<|mC<|an _ (gH HX)<|an _ rfl<|an _ rfl<|an _ (Jo _ _ rfl)<|an _ rfl<|an _ (qY e8.az 1 999 σ)<|an _ rfl ?_;refine gy (c:=(!(aT e8.az 1 999))) (λme=>?_) (λme=>?_)
  ·exact bK (gd (by simp) ⟨_,_,rfl⟩)
  refine an _ rfl<|bX (ε e8.az) (λhg=>rfl)<|bX (sl 3 dX a1) (λhg=>rfl)<|bX (ε (i9:Int)) (λhg=>rfl)<|bX (ε (ξ.wrap ((i9:Int) -1))) (λhg=>by(try rw[hg]);exact rfl) ?_;refine tE (ω:=fL) (λbl=>(ZN (dX bl))) (λhg bl NU=>by(try rw[hg]);exact xz NU) (λbl NU=>?_);refine bX (ZN (dX bl)) (λhg=>by(try rw[hg]);exact rfl)<|bX (ε bl.az) (λhg=>by(try rw[hg]);exact rfl)<|bX (Λ (decide (e8.az<=bl.az))) (λhg=>by(try rw[hg]);exact rfl)<|an _ (mO _ _) ?_;refine gy (c:=((decide (0<(i9:Int)))&&(decide (e8.az<=bl.az)))) (λkU=>?_) (λkU=>?_)
  ·exact bK (gd (by simp) ⟨_,_,rfl⟩)
  refine an _ rfl<|an _ (Nf _ _)<|bX (Xo e8.title) (λhg=>rfl) ?_;refine tE (ω:=Bool) (λdc=>(Λ dc)) (λhg dc xE=>by(try rw[hg]);exact(eH ((tJ (e:=λr:Bool=>((Λ r),σ)) (λhs=>abv e8.title hs σ)) xE))) (λdc xE=>?_);refine bX (Λ (!dc)) (λhg=>by(try rw[hg]);exact rfl)<|an _ (mO _ _) ?_;refine gy (c:=((decide (¬(e8.title=(⟨#[]⟩:ByteArray))))&&(!dc))) (λjv=>?_) (λjv=>?_)
  ·exact bK (gd (by simp) ⟨_,_,rfl⟩)
  refine an (sl 3 dW e8.jN) rfl<|an _ (fu _ _ _)<|an _ rfl ?_;refine jJ (p:=2000<(e8.jN.length:Int)) (λiA=>?_) (λiA=>?_)
  ·exact bK (gd (by simp) ⟨_,_,rfl⟩)
  refine an (sl 3 dW e8.jN) rfl<|an _ (fu _ _ _) ?_;refine mA (B:=Unit) (R:=Int) (λ(yX:Nat)(mm:Unit)v BA=>∃u4,v=[(VD (eO a0)),u4,(VD (dX e8)),(ε (yX:Int))]/\σ=BA) (λ(wK:Unit)(q:LS)=>∃u4 u7 u64,q=((Ξ 3),([(VD (eO a0)),u4,u7,u64]:aq),σ)) (λ(wK:Int)(q:LS)=>∃u2 u7 u64,q=(YP,([u2,(ε wK),u7,u64]:aq),σ)) ?_ ?_ ⟨_,rfl,rfl⟩ ?_ ?_
  ·intro azY yX mg mm v BA Hf hI;obtain⟨u4,rfl,rfl⟩:=hI;refine an _ (iR Hf)<|mC<|an _ (gH Hf)<|an _ rfl<|an _ rfl<|an _ (Qy _ _ rfl)<|an _ rfl<|an _ rfl ?_;refine jK (λiX:(ey×Bool)=>((Yu [(Φ (cG iX.1)),(Λ iX.2)]),σ)) (λiX NQ=>(tJ (e:=λr:(ey×Bool)=>((Yu [(Φ (cG r.1)),(Λ r.2)]),σ)) (λhs=>Qm a0 hs mg.key σ)) NQ) (λiX NQ=>?_);refine an _ rfl<|an _ rfl<|an _ rfl<|an _ (nY _ _ rfl)<|an _ rfl ?_;refine gy (c:=(!iX.2)) (λfW=>?_) (λfW=>?_)
   ·exact bK (gd (by simp) ⟨_,_,_,rfl⟩)
   refine an _ rfl<|an _ (BG mg.level σ)<|an _ rfl ?_;refine gy (c:=(!(aT mg.level 0 65535))) (λgj=>?_) (λgj=>?_)
   ·exact bK (gd (by simp) ⟨_,_,_,rfl⟩)
   refine an _ rfl<|an _ rfl<|bX (sl 3 dW e8.jN) (λhg=>rfl)<|bX (ε (yX:Int)) (λhg=>rfl)<|bX (ε (ξ.wrap ((yX:Int) -1))) (λhg=>by(try rw[hg]);exact rfl) ?_;refine tE (ω:=gE) (λbL=>(ZN (dW bL))) (λhg bL ah1=>by(try rw[hg]);exact xz ah1) (λbL ah1=>?_);refine bX (ZN (dW bL)) (λhg=>by(try rw[hg]);exact rfl)<|bX (Φ (aS bL.key)) (λhg=>by(try rw[hg]);exact rfl)<|bX (Φ (aS mg.key)) (λhg=>rfl)<|bX (Λ (((decide (bL.key.unit<mg.key.unit))||((decide (bL.key.unit=mg.key.unit))&&(WR bL.key.param.toList mg.key.param.toList))))) (λhg=>by(try rw[hg]);exact(eH (az6 (σ:=σ) (r:=((decide (bL.key.unit<mg.key.unit))||((decide (bL.key.unit=mg.key.unit))&&(WR bL.key.param.toList mg.key.param.toList)))) rfl)))<|bX (Λ (!(((decide (bL.key.unit<mg.key.unit))||((decide (bL.key.unit=mg.key.unit))&&(WR bL.key.param.toList mg.key.param.toList)))))) (λhg=>by(try rw[hg]);exact rfl)<|an _ (mO _ _) ?_;refine gy (c:=((decide (0<(yX:Int)))&&(!(((decide (bL.key.unit<mg.key.unit))||((decide (bL.key.unit=mg.key.unit))&&(WR bL.key.param.toList mg.key.param.toList))))))) (λiL=>?_) (λiL=>?_)
   ·exact bK (gd (by simp) ⟨_,_,_,rfl⟩)
   refine an _ (fT Hf azY) ?_;exact bK (l7 ⟨_,rfl,rfl⟩)
  ·intro hl mm v BA hI;obtain⟨u4,rfl,rfl⟩:=hI;refine an _ (iQ _)<|mB ?_;exact bK ⟨by simp,⟨_,_,_,rfl⟩⟩
  ·intro hl wK q hq;obtain⟨u4,u7,u64,rfl⟩:=hq;refine gO rfl<|an _ (fT HX aA1) ?_;exact bK (l7 ⟨_,rfl,rfl⟩)
  ·intro hl wK q hq;obtain⟨u2,u7,u64,rfl⟩:=hq;refine qc rfl<|gO rfl ?_;exact bK (gd (by simp) ⟨_,_,rfl⟩)
 ·intro hl s2 v w4 hI;obtain⟨u4,rfl,rfl⟩:=hI;refine an _ (iQ _)<|mB ?_;exact bK ⟨by simp,⟨_,_,_,rfl⟩⟩
 ·intro hl b3 q hq;obtain⟨u2,u4,O6,rfl⟩:=hq;refine gO rfl ?_;exact dI _ (bD _ _) ⟨rfl,rfl⟩
 ·intro hl b3 q hq;obtain⟨u2,O6,rfl⟩:=hq;refine qc rfl<|gO rfl ?_;exact dI _ (bD _ _) ⟨rfl,rfl⟩
def EG (a0:(List fL)) (a1:aC) (a2:mz):Option (Int×Int):=
 if((decide (¬(a2.level=0)))&&(decide (¬(a2.fQ=0))))=θ then
  δ (0,3)
 else
 if(!(aT a2.level 0 65535))=θ then
  δ (0,1)
 else
 if a2.fQ=0 then
  δ (a2.level,0)
 else
 (I1 a0 a2.fQ).bind λr1=>
 if(!r1.2)=θ then
  δ (0,8)
 else
 kr r1.1.jN (λ(i9:Nat)e8(s2:Unit)=>(show Option (Lr Unit Unit Int)from
   if e8.key=a1 then
    δ (.ret e8.level)
   else
   δ (.go ()))) (λs2=>δ ()) () (λb3=>
  δ (0,8)) (λb3=>
  δ (b3,0))
theorem acj{a0:(List fL)}{a1:aC}{a2:mz}{σ:Heap}{r:(Int×Int)}(h:EG a0 a1 a2=δ r):QF [(sl 3 dX a0),(Φ (aS a1)),(Φ (tC a2))] σ=δ ((Yu [(ε r.1),(ε r.2)]),σ):=by
 refine My (f:=aCr) (y0:=(sl 3 dX a0)) (y1:=(Φ (aS a1))) (y2:=(Φ (tC a2))) (enc:=λr:(Int×Int)=>(Yu [(ε r.1),(ε r.2)])) (T:=EG a0 a1 a2) rfl rfl ?_ r h;unfold aCr EG;refine an _ rfl<|an _ rfl<|an _ rfl<|an _ (fV _ _ _)<|bX (ε a2.fQ) (λhg=>rfl)<|bX (Λ (decide (¬(a2.fQ=0)))) (λhg=>by(try rw[hg]);exact(fV _ _ _))<|an _ (mO _ _) ?_;refine gy (c:=((decide (¬(a2.level=0)))&&(decide (¬(a2.fQ=0))))) (λia=>?_) (λia=>?_)
 ·exact dI _ (bD _ _) ⟨rfl,rfl⟩
 refine an _ rfl<|an _ (BG a2.level σ)<|an _ rfl ?_;refine gy (c:=(!(aT a2.level 0 65535))) (λfU=>?_) (λfU=>?_)
 ·exact dI _ (bD _ _) ⟨rfl,rfl⟩
 refine an _ rfl<|an _ (jL _ _ _) ?_;refine jJ (p:=a2.fQ=0) (λcZ=>?_) (λcZ=>?_)
 ·refine an _ rfl ?_;exact dI _ (bD _ _) ⟨rfl,rfl⟩
 refine an _ rfl ?_;refine jK (λr1:(fL×Bool)=>((Yu [(Φ (dX r1.1)),(Λ r1.2)]),σ)) (λr1 jE=>alq jE) (λr1 jE=>?_);refine an _ rfl<|an _ rfl<|an _ rfl<|an _ (Jo _ _ rfl)<|an _ rfl ?_;refine gy (c:=(!r1.2)) (λfq=>?_) (λfq=>?_)
 ·exact dI _ (bD _ _) ⟨rfl,rfl⟩
 refine an (sl 3 dW r1.1.jN) rfl<|an _ (fu _ _ _) ?_;refine mA (B:=Unit) (R:=Int) (λ(i9:Nat)(s2:Unit)v w4=>v=[(VD (aS a1)),(ε 0),(ε 0),(ε (i9:Int))]/\σ=w4) (λ(b3:Unit)(q:LS)=>∃u4 u6 u7 Pc,q=((Ξ 1),([u4,u6,u7,Pc]:aq),σ)) (λ(b3:Int)(q:LS)=>∃u4 Pc,q=(YP,([u4,(ε b3),(ε 0),Pc]:aq),σ)) ?_ ?_ ⟨rfl,rfl⟩ ?_ ?_
 ·intro aA1 i9 e8 s2 v w4 HX hI;obtain⟨rfl,rfl⟩:=hI;refine an _ (iR HX)<|mC<|an _ (gH HX)<|an _ rfl<|an _ rfl<|an _ (Qy _ _ rfl)<|an _ rfl<|an _ rfl<|an _ (R1 _ _) ?_;refine jJ (p:=e8.key=a1) (λeR=>?_) (λeR=>?_)
  ·refine an _ rfl ?_;exact bK (gd (by simp) ⟨_,_,rfl⟩)
  refine an _ (fT HX aA1) ?_;exact bK (l7 ⟨rfl,rfl⟩)
 ·intro hl s2 v w4 hI;obtain⟨rfl,rfl⟩:=hI;refine an _ (iQ _)<|mB ?_;exact bK ⟨by simp,⟨_,_,_,_,rfl⟩⟩
 ·intro hl b3 q hq;obtain⟨u4,u6,u7,Pc,rfl⟩:=hq;refine gO rfl ?_;exact dI _ (bD _ _) ⟨rfl,rfl⟩
 ·intro hl b3 q hq;obtain⟨u4,Pc,rfl⟩:=hq;refine qc rfl<|gO rfl ?_;exact dI _ (bD _ _) ⟨rfl,rfl⟩
def IY (a0:gf) (a1:(List gf)):Option Int:=
 if(!(aT a0.key.unit 1 9999))=θ then
  δ 1
 else
 (tq (jF a0.key.param) (rF a0.key.param)).bind λr1=>
 if(!r1)=θ then
  δ 5
 else
 if((a0.release&&(decide (¬(a0.value=(⟨0,0⟩:mz)))))||((decide (¬(a0.value.level=0)))&&(decide (¬(a0.value.fQ=0)))))=θ then
  δ 3
 else
 if((!(aT a0.value.level 0 65535))||(!(aT a0.value.fQ 0 999)))=θ then
  δ 1
 else
 if((!a0.zO)&&((decide (¬(a0.cB=0)))||(decide (¬(a0.time=0)))))=θ then
  δ 3
 else
 if((!(aT a0.cB 0 36000000))||(!(aT a0.time 0 36000000)))=θ then
  δ 1
 else
 (if decide (0<(a1.length:Int))=θ then pU a1 (ξ.wrap ((a1.length:Int) -1))else δ default).bind λx2=>
 if((decide (0<(a1.length:Int)))&&(!(((decide (x2.key.unit<a0.key.unit))||((decide (x2.key.unit=a0.key.unit))&&(WR x2.key.param.toList a0.key.param.toList))))))=θ then
  δ 7
 else
 δ 0
theorem akV{a0:gf}{a1:(List gf)}{σ:Heap}{r:Int}(h:IY a0 a1=δ r):aCC [(Φ (ff a0)),(sl 8 ff a1)] σ=δ ((ε r),σ):=by
 refine rW (f:=aAR) (y0:=(Φ (ff a0))) (y1:=(sl 8 ff a1)) (enc:=λr:Int=>(ε r)) (T:=IY a0 a1) rfl rfl ?_ r h;unfold aAR IY;refine an _ rfl<|an _ rfl<|an _ (qY a0.key.unit 1 9999 σ)<|an _ rfl ?_;refine gy (c:=(!(aT a0.key.unit 1 9999))) (λc9=>?_) (λc9=>?_)
 ·exact dI _ (bD _ _) ⟨rfl,rfl⟩
 refine an _ rfl ?_;refine jK (λr1:Bool=>((Λ r1),σ)) (λr1 jE=>(tJ (e:=λr:Bool=>((Λ r),σ)) (λhs=>Qz a0.key.param hs σ)) jE) (λr1 jE=>?_);refine an _ rfl ?_;refine gy (c:=(!r1)) (λc8=>?_) (λc8=>?_)
 ·exact dI _ (bD _ _) ⟨rfl,rfl⟩
 refine an _ rfl<|bX (Φ (tC a0.value)) (λhg=>rfl)<|bX (Φ (tC (⟨0,0⟩:mz))) (λhg=>rfl)<|bX (Λ (decide (¬(a0.value=(⟨0,0⟩:mz))))) (λhg=>by(try rw[hg]);exact(aeF _ _))<|an _ (mO _ _)<|ew (ε a0.value.level) (λhg=>rfl)<|ew (Λ (decide (¬(a0.value.level=0)))) (λhg=>by(try rw[hg]);exact(fV _ _ _))<|ew (Λ (decide (¬(a0.value.level=0)))) (λhg=>by(try rw[hg]);exact rfl)<|AO (ε a0.value.fQ) (λhg=>rfl)<|AO (Λ (decide (¬(a0.value.fQ=0)))) (λhg=>by(try rw[hg]);exact(fV _ _ _))<|ew (Λ ((decide (¬(a0.value.level=0)))&&(decide (¬(a0.value.fQ=0))))) (λhg=>by(try rw[hg]);exact(mO _ _))<|an _ (nO _ _) ?_;refine gy (c:=((a0.release&&(decide (¬(a0.value=(⟨0,0⟩:mz)))))||((decide (¬(a0.value.level=0)))&&(decide (¬(a0.value.fQ=0)))))) (λc7=>?_) (λc7=>?_)
 ·exact dI _ (bD _ _) ⟨rfl,rfl⟩
 refine an _ rfl<|an _ (BG a0.value.level σ)<|an _ rfl<|ew (ε a0.value.fQ) (λhg=>rfl)<|ew (Λ (aT a0.value.fQ 0 999)) (λhg=>by(try rw[hg]);exact(eH (qY a0.value.fQ 0 999 σ)))<|ew (Λ (!(aT a0.value.fQ 0 999))) (λhg=>by(try rw[hg]);exact rfl)<|an _ (nO _ _) ?_;refine gy (c:=((!(aT a0.value.level 0 65535))||(!(aT a0.value.fQ 0 999)))) (λc6=>?_) (λc6=>?_)
 ·exact dI _ (bD _ _) ⟨rfl,rfl⟩
 refine an _ rfl<|an _ rfl<|bX (ε a0.cB) (λhg=>rfl)<|bX (Λ (decide (¬(a0.cB=0)))) (λhg=>by(try rw[hg]);exact(fV _ _ _))<|bX (Λ (decide (¬(a0.cB=0)))) (λhg=>by(try rw[hg]);exact rfl)<|R7 (ε a0.time) (λhg=>rfl)<|R7 (Λ (decide (¬(a0.time=0)))) (λhg=>by(try rw[hg]);exact(fV _ _ _))<|bX (Λ ((decide (¬(a0.cB=0)))||(decide (¬(a0.time=0))))) (λhg=>by(try rw[hg]);exact(nO _ _))<|an _ (mO _ _) ?_;refine gy (c:=((!a0.zO)&&((decide (¬(a0.cB=0)))||(decide (¬(a0.time=0)))))) (λc5=>?_) (λc5=>?_)
 ·exact dI _ (bD _ _) ⟨rfl,rfl⟩
 refine an _ rfl<|an _ (Jj a0.cB σ)<|an _ rfl<|ew (ε a0.time) (λhg=>rfl)<|ew (Λ (aT a0.time 0 36000000)) (λhg=>by(try rw[hg]);exact(eH (Jj a0.time σ)))<|ew (Λ (!(aT a0.time 0 36000000))) (λhg=>by(try rw[hg]);exact rfl)<|an _ (nO _ _) ?_;refine gy (c:=((!(aT a0.cB 0 36000000))||(!(aT a0.time 0 36000000)))) (λc4=>?_) (λc4=>?_)
 ·exact dI _ (bD _ _) ⟨rfl,rfl⟩
 refine an _ (fu _ _ _)<|an _ rfl<|bX (sl 8 ff a1) (λhg=>rfl)<|bX (sl 8 ff a1) (λhg=>rfl)<|bX (ε (a1.length:Int)) (λhg=>by(try rw[hg]);exact(fu _ _ _))<|bX (ε (ξ.wrap ((a1.length:Int) -1))) (λhg=>by(try rw[hg]);exact rfl) ?_;refine tE (ω:=gf) (λx2=>(ZN (ff x2))) (λhg x2 hx2=>by(try rw[hg]);exact xz hx2) (λx2 hx2=>?_);refine bX (ZN (ff x2)) (λhg=>by(try rw[hg]);exact rfl)<|bX (Φ (aS x2.key)) (λhg=>by(try rw[hg]);exact rfl)<|bX (Φ (aS a0.key)) (λhg=>rfl)<|bX (Λ (((decide (x2.key.unit<a0.key.unit))||((decide (x2.key.unit=a0.key.unit))&&(WR x2.key.param.toList a0.key.param.toList))))) (λhg=>by(try rw[hg]);exact(eH (az6 (σ:=σ) (r:=((decide (x2.key.unit<a0.key.unit))||((decide (x2.key.unit=a0.key.unit))&&(WR x2.key.param.toList a0.key.param.toList)))) rfl)))<|bX (Λ (!(((decide (x2.key.unit<a0.key.unit))||((decide (x2.key.unit=a0.key.unit))&&(WR x2.key.param.toList a0.key.param.toList)))))) (λhg=>by(try rw[hg]);exact rfl)<|an _ (mO _ _) ?_;refine gy (c:=((decide (0<(a1.length:Int)))&&(!(((decide (x2.key.unit<a0.key.unit))||((decide (x2.key.unit=a0.key.unit))&&(WR x2.key.param.toList a0.key.param.toList))))))) (λc3=>?_) (λc3=>?_)
 ·exact dI _ (bD _ _) ⟨rfl,rfl⟩
 exact dI _ (bD _ _) ⟨rfl,rfl⟩
def IT (a0:(List gf)):Option Int:=
 if 2000<(a0.length:Int)then
  δ 2
 else
 kr a0 (λ(i8:Nat)e7(s1:Unit)=>(show Option (Lr Unit Unit Int)from
   (O3 a0 μ (δ (i8:Int))).bind λx9=>
   (IY e7 x9).bind λgR=>
   if ¬(gR=0)then
    δ (.ret gR)
   else
   δ (.go ()))) (λs1=>δ ()) () (λb2=>
  δ 0) (λb2=>
  δ b2)
theorem akx{a0:(List gf)}{σ:Heap}{r:Int}(h:IT a0=δ r):Ui [(sl 8 ff a0)] σ=δ ((ε r),σ):=by
 refine yj (f:=aBA) (y0:=(sl 8 ff a0)) (enc:=λr:Int=>(ε r)) (T:=IT a0) rfl rfl ?_ r h;unfold aBA IT;refine an _ (fu _ _ _)<|an _ rfl ?_;refine jJ (p:=2000<(a0.length:Int)) (λcZ=>?_) (λcZ=>?_)
 ·exact dI _ (bD _ _) ⟨rfl,rfl⟩
 refine an _ (fu _ _ _) ?_;refine mA (B:=Unit) (R:=Int) (λ(i8:Nat)(s1:Unit)v w3=>v=[(ε 0),(ε (i8:Int))]/\σ=w3) (λ(b2:Unit)(q:LS)=>∃u2 F0,q=((Ξ 0),([u2,F0]:aq),σ)) (λ(b2:Int)(q:LS)=>∃F0,q=(YP,([(ε b2),F0]:aq),σ)) ?_ ?_ ⟨rfl,rfl⟩ ?_ ?_
 ·intro sF i8 e7 s1 v w3 jZ hI;obtain⟨rfl,rfl⟩:=hI;refine an _ (iR jZ)<|mC<|an _ (gH jZ)<|an _ rfl<|an _ rfl<|an _ (Gy _ _ rfl)<|an _ rfl ?_;refine jK (λx9:(List gf)=>(sl 8 ff x9)) (λx9 Bu=>(auQ Bu)) (λx9 Bu=>?_);refine jK (λgR:Int=>(ε gR)) (λgR Fm=>(eH (akV Fm))) (λgR Fm=>?_);refine an _ (fV _ _ _) ?_;refine jJ (p:=¬(gR=0)) (λfq=>?_) (λfq=>?_)
  ·exact bK (gd (by simp) ⟨_,rfl⟩)
  refine an _ (fT jZ sF) ?_;exact bK (l7 ⟨rfl,rfl⟩)
 ·intro hl s1 v w3 hI;obtain⟨rfl,rfl⟩:=hI;refine an _ (iQ _)<|mB ?_;exact bK ⟨by simp,⟨_,_,rfl⟩⟩
 ·intro hl b2 q hq;obtain⟨u2,F0,rfl⟩:=hq;refine gO rfl ?_;exact dI _ (bD _ _) ⟨rfl,rfl⟩
 ·intro hl b2 q hq;obtain⟨F0,rfl⟩:=hq;refine qc rfl<|gO rfl ?_;exact dI _ (bD _ _) ⟨rfl,rfl⟩
def IX (a0:(List bA)):Option Int:=
 if 300<(a0.length:Int)then
  δ 2
 else
 kr a0 (λ(i8:Nat)e7(s1:Int)=>(show Option (Lr Int Int Int)from
   if(!(aT e7.az 1 9999999))=θ then
    δ (.ret 1)
   else
   (if decide (0<(i8:Int))=θ then pU a0 (ξ.wrap ((i8:Int) -1))else δ default).bind λx9=>
   if((decide (0<(i8:Int)))&&(decide (e7.az<=x9.az)))=θ then
    δ (.ret 7)
   else
   (if decide (¬(e7.title=(⟨#[]⟩:ByteArray)))=θ then tq (jF e7.title) (Cb e7.title)else δ default).bind λgR=>
   if((decide (¬(e7.title=(⟨#[]⟩:ByteArray))))&&(!gR))=θ then
    δ (.ret 3)
   else
   if(((((!(aT e7.cB 0 36000000))||(!(aT e7.up 0 36000000)))||(!(aT e7.down 0 36000000)))||(!(aT e7.other 0 36000000)))||(!(aT e7.eM (-1) 36000000)))=θ then
    δ (.ret 1)
   else
   if ¬((pK e7.fM)=0)then
    δ (.ret (pK e7.fM))
   else
   (IT e7.dF).bind λdc=>
   if ¬(dc=0)then
    δ (.ret dc)
   else
   δ (.go (ξ.wrap (s1+(e7.dF.length:Int)))))) (λs1=>δ s1) 0 (λb2=>
  if 10000<b2 then
   δ 2
  else
  δ 0) (λb2=>
  δ b2)
theorem akT{a0:(List bA)}{σ:Heap}{r:Int}(h:IX a0=δ r):Uw [(sl 11 bg a0)] σ=δ ((ε r),σ):=by
 refine yj (f:=UC) (y0:=(sl 11 bg a0)) (enc:=λr:Int=>(ε r)) (T:=IX a0) (dO (mT (λ_=>rfl) _) rfl) rfl ?_ r h;unfold UC IX;refine an _ (fu _ _ _)<|an _ rfl ?_;refine jJ (p:=300<(a0.length:Int)) (λiz=>?_) (λiz=>?_)
 ·exact dI _ (bD _ _) ⟨rfl,rfl⟩
 refine an _ (fu _ _ _) ?_;refine mA (B:=Int) (R:=Int) (λ(i8:Nat)(s1:Int)v w3=>v=[(ε 0),(ε s1),(ε (i8:Int))]/\σ=w3) (λ(b2:Int)(q:LS)=>∃u2 xT,q=((Ξ 0),([u2,(ε b2),xT]:aq),σ)) (λ(b2:Int)(q:LS)=>∃u3 xT,q=(YP,([(ε b2),u3,xT]:aq),σ)) ?_ ?_ ⟨rfl,rfl⟩ ?_ ?_
 ·intro sF i8 e7 s1 v w3 jZ hI;obtain⟨rfl,rfl⟩:=hI;refine an _ (iR jZ)<|mC<|an _ (gH jZ)<|an _ rfl<|an _ rfl<|an _ (C3 _ _ rfl)<|an _ rfl<|an _ (qY e7.az 1 9999999 σ)<|an _ rfl ?_;refine gy (c:=(!(aT e7.az 1 9999999))) (λlW=>?_) (λlW=>?_)
  ·exact bK (gd (by simp) ⟨_,_,rfl⟩)
  refine an _ rfl<|bX (ε e7.az) (λhg=>rfl)<|bX (sl 11 bg a0) (λhg=>rfl)<|bX (ε (i8:Int)) (λhg=>rfl)<|bX (ε (ξ.wrap ((i8:Int) -1))) (λhg=>by(try rw[hg]);exact rfl) ?_;refine tE (ω:=bA) (λx9=>(ZN (bg x9))) (λhg x9 Bu=>by(try rw[hg]);exact xz Bu) (λx9 Bu=>?_);refine bX (ZN (bg x9)) (λhg=>by(try rw[hg]);exact rfl)<|bX (ε x9.az) (λhg=>by(try rw[hg]);exact rfl)<|bX (Λ (decide (e7.az<=x9.az))) (λhg=>by(try rw[hg]);exact rfl)<|an _ (mO _ _) ?_;refine gy (c:=((decide (0<(i8:Int)))&&(decide (e7.az<=x9.az)))) (λjY=>?_) (λjY=>?_)
  ·exact bK (gd (by simp) ⟨_,_,rfl⟩)
  refine an _ rfl<|an _ (Nf _ _)<|bX (Xo e7.title) (λhg=>rfl) ?_;refine tE (ω:=Bool) (λgR=>(Λ gR)) (λhg gR Fm=>by(try rw[hg]);exact(eH ((tJ (e:=λr:Bool=>((Λ r),σ)) (λhs=>abv e7.title hs σ)) Fm))) (λgR Fm=>?_);refine bX (Λ (!gR)) (λhg=>by(try rw[hg]);exact rfl)<|an _ (mO _ _) ?_;refine gy (c:=((decide (¬(e7.title=(⟨#[]⟩:ByteArray))))&&(!gR))) (λjj=>?_) (λjj=>?_)
  ·exact bK (gd (by simp) ⟨_,_,rfl⟩)
  refine an _ rfl<|an _ (Jj e7.cB σ)<|an _ rfl<|ew (ε e7.up) (λhg=>rfl)<|ew (Λ (aT e7.up 0 36000000)) (λhg=>by(try rw[hg]);exact(eH (Jj e7.up σ)))<|ew (Λ (!(aT e7.up 0 36000000))) (λhg=>by(try rw[hg]);exact rfl)<|an _ (nO _ _)<|ew (ε e7.down) (λhg=>rfl)<|ew (Λ (aT e7.down 0 36000000)) (λhg=>by(try rw[hg]);exact(eH (Jj e7.down σ)))<|ew (Λ (!(aT e7.down 0 36000000))) (λhg=>by(try rw[hg]);exact rfl)<|an _ (nO _ _)<|ew (ε e7.other) (λhg=>rfl)<|ew (Λ (aT e7.other 0 36000000)) (λhg=>by(try rw[hg]);exact(eH (Jj e7.other σ)))<|ew (Λ (!(aT e7.other 0 36000000))) (λhg=>by(try rw[hg]);exact rfl)<|an _ (nO _ _)<|ew (ε e7.eM) (λhg=>rfl)<|ew (Λ (aT e7.eM (-1) 36000000)) (λhg=>by(try rw[hg]);exact(eH (qY e7.eM (-1) 36000000 σ)))<|ew (Λ (!(aT e7.eM (-1) 36000000))) (λhg=>by(try rw[hg]);exact rfl)<|an _ (nO _ _) ?_;refine gy (c:=(((((!(aT e7.cB 0 36000000))||(!(aT e7.up 0 36000000)))||(!(aT e7.down 0 36000000)))||(!(aT e7.other 0 36000000)))||(!(aT e7.eM (-1) 36000000)))) (λia=>?_) (λia=>?_)
  ·exact bK (gd (by simp) ⟨_,_,rfl⟩)
  refine an _ rfl<|an _ (akN e7.fM σ)<|an _ (fV _ _ _) ?_;refine jJ (p:=¬((pK e7.fM)=0)) (λfU=>?_) (λfU=>?_)
  ·exact bK (gd (by simp) ⟨_,_,rfl⟩)
  refine an (sl 8 ff e7.dF) rfl ?_;refine jK (λdc:Int=>((ε dc),σ)) (λdc xE=>akx xE) (λdc xE=>?_);refine an _ (fV _ _ _) ?_;refine jJ (p:=¬(dc=0)) (λcZ=>?_) (λcZ=>?_)
  ·exact bK (gd (by simp) ⟨_,_,rfl⟩)
  refine an (sl 8 ff e7.dF) rfl<|an _ (fu _ _ _)<|an _ rfl<|an _ (fT jZ sF) ?_;exact bK (l7 ⟨rfl,rfl⟩)
 ·intro hl s1 v w3 hI;obtain⟨rfl,rfl⟩:=hI;refine an _ (iQ _)<|mB ?_;exact bK ⟨by simp,⟨_,_,rfl⟩⟩
 ·intro hl b2 q hq;obtain⟨u2,xT,rfl⟩:=hq;refine gO rfl<|an _ rfl ?_;refine jJ (p:=10000<b2) (λig=>?_) (λig=>?_)
  ·exact dI _ (bD _ _) ⟨rfl,rfl⟩
  exact dI _ (bD _ _) ⟨rfl,rfl⟩
 ·intro hl b2 q hq;obtain⟨u3,xT,rfl⟩:=hq;refine qc rfl<|gO rfl ?_;exact dI _ (bD _ _) ⟨rfl,rfl⟩
def LO (a0:eU) (a1:(List fL)) (a2:(List bA)):Option Int:=
 (II a0 a1).bind λr1=>
 if ¬(r1=0)then
  δ r1
 else
 (IX a2).bind λr2=>
 if ¬(r2=0)then
  δ r2
 else
 kr a2 (λ(qK:Nat)e9(s3:Unit)=>(show Option (Lr Unit Unit Int)from
   kr e9.dF (λ(Ib:Nat)lz(pS:Unit)=>(show Option (Lr Unit Unit Int)from
     (tq (rG a0) (lg a0 lz.key)).bind λkN=>
     if(!kN.2)=θ then
      δ (.ret 8)
     else
     (EG a1 lz.key lz.value).bind λiX=>
     if ¬(iX.2=0)then
      δ (.ret iX.2)
     else
     δ (.go ()))) (λpS=>δ ()) () (λwJ=>
    δ (.go ())) (λwJ=>
    δ (.ret wJ)))) (λs3=>δ ()) () (λb4=>
  δ 0) (λb4=>
  δ b4)
theorem akU{a0:eU}{a1:(List fL)}{a2:(List bA)}{σ:Heap}{r:Int}(h:LO a0 a1 a2=δ r):Ux [(Φ (eO a0)),(sl 3 dX a1),(sl 11 bg a2)] σ=δ ((ε r),σ):=by
 refine My (f:=apC) (y0:=(Φ (eO a0))) (y1:=(sl 3 dX a1)) (y2:=(sl 11 bg a2)) (enc:=λr:Int=>(ε r)) (T:=LO a0 a1 a2) (dO (nT (dO (mT (λ_=>(dO rfl (dO rfl (dO (mT (λ_=>rfl) _) oH)))) _) (dO rfl oH))) (dO (mT (λ_=>rfl) _) (dO (mT (λ_=>rfl) _) rfl))) rfl ?_ r h;unfold apC LO;refine an _ rfl<|an _ rfl ?_;refine jK (λr1:Int=>((ε r1),σ)) (λr1 jE=>aj3 jE) (λr1 jE=>?_);refine an _ (fV _ _ _) ?_;refine jJ (p:=¬(r1=0)) (λfW=>?_) (λfW=>?_)
 ·exact dI _ (bD _ _) ⟨rfl,rfl⟩
 refine jK (λr2:Int=>((ε r2),σ)) (λr2 tY=>akT tY) (λr2 tY=>?_);refine an _ (fV _ _ _) ?_;refine jJ (p:=¬(r2=0)) (λgj=>?_) (λgj=>?_)
 ·exact dI _ (bD _ _) ⟨rfl,rfl⟩
 refine an _ (fu _ _ _) ?_;refine mA (B:=Unit) (R:=Int) (λ(qK:Nat)(s3:Unit)v w5=>∃u6,v=[(VD (eO a0)),u6,(ε (qK:Int))]/\σ=w5) (λ(b4:Unit)(q:LS)=>∃u3 u6 O9,q=((Ξ 0),([u3,u6,O9]:aq),σ)) (λ(b4:Int)(q:LS)=>∃u3 O9,q=(YP,([u3,(ε b4),O9]:aq),σ)) ?_ ?_ ⟨_,rfl,rfl⟩ ?_ ?_
 ·intro Hh qK e9 s3 v w5 wR hI;obtain⟨u6,rfl,rfl⟩:=hI;refine an _ (iR wR)<|mC<|an _ (gH wR)<|an _ rfl<|an _ rfl<|an _ (C3 _ _ rfl)<|an (sl 8 ff e9.dF) rfl<|an _ (fu _ _ _) ?_;refine mA (B:=Unit) (R:=Int) (λ(Ib:Nat)(pS:Unit)v Is=>∃u6,v=[(VD (eO a0)),u6,(ε (Ib:Int))]/\σ=Is) (λ(wJ:Unit)(q:LS)=>∃u6 F1,q=((Ξ 2),([(VD (eO a0)),u6,F1]:aq),σ)) (λ(wJ:Int)(q:LS)=>∃u3 F1,q=(YP,([u3,(ε wJ),F1]:aq),σ)) ?_ ?_ ⟨_,rfl,rfl⟩ ?_ ?_
  ·intro X0 Ib lz pS v Is He hI;obtain⟨u6,rfl,rfl⟩:=hI;refine an _ (iR He)<|mC<|an _ (gH He)<|an _ rfl<|an _ rfl<|an _ (Gy _ _ rfl)<|an _ rfl<|an _ rfl ?_;refine jK (λkN:(ey×Bool)=>((Yu [(Φ (cG kN.1)),(Λ kN.2)]),σ)) (λkN ahR=>(tJ (e:=λr:(ey×Bool)=>((Yu [(Φ (cG r.1)),(Λ r.2)]),σ)) (λhs=>Qm a0 hs lz.key σ)) ahR) (λkN ahR=>?_);refine an _ rfl<|an _ rfl<|an _ rfl<|an _ (nY _ _ rfl)<|an _ rfl ?_;refine gy (c:=(!kN.2)) (λiL=>?_) (λiL=>?_)
   ·exact bK (gd (by simp) ⟨_,_,rfl⟩)
   refine an _ rfl<|an _ rfl ?_;refine jK (λiX:(Int×Int)=>((Yu [(ε iX.1),(ε iX.2)]),σ)) (λiX NQ=>acj NQ) (λiX NQ=>?_);refine an _ rfl<|an _ rfl<|an _ (fV _ _ _) ?_;refine jJ (p:=¬(iX.2=0)) (λij=>?_) (λij=>?_)
   ·exact bK (gd (by simp) ⟨_,_,rfl⟩)
   refine an _ (fT He X0) ?_;exact bK (l7 ⟨_,rfl,rfl⟩)
  ·intro hl pS v Is hI;obtain⟨u6,rfl,rfl⟩:=hI;refine an _ (iQ _)<|mB ?_;exact bK ⟨by simp,⟨_,_,rfl⟩⟩
  ·intro hl wJ q hq;obtain⟨u6,F1,rfl⟩:=hq;refine gO rfl<|an _ (fT wR Hh) ?_;exact bK (l7 ⟨_,rfl,rfl⟩)
  ·intro hl wJ q hq;obtain⟨u3,F1,rfl⟩:=hq;refine qc rfl<|gO rfl ?_;exact bK (gd (by simp) ⟨_,_,rfl⟩)
 ·intro hl s3 v w5 hI;obtain⟨u6,rfl,rfl⟩:=hI;refine an _ (iQ _)<|mB ?_;exact bK ⟨by simp,⟨_,_,_,rfl⟩⟩
 ·intro hl b4 q hq;obtain⟨u3,u6,O9,rfl⟩:=hq;refine gO rfl ?_;exact dI _ (bD _ _) ⟨rfl,rfl⟩
 ·intro hl b4 q hq;obtain⟨u3,O9,rfl⟩:=hq;refine qc rfl<|gO rfl ?_;exact dI _ (bD _ _) ⟨rfl,rfl⟩
end
section
def aBZ (a0:jl) (a1:Int):Option Bool:=δ (decide (a0.az=a1))
theorem akA{a0:jl}{a1:Int}{σ:Heap}{r:Bool}(h:aBZ a0 a1=δ r):LI [(Φ (fc a0)),(ZN [(ε a1)])] σ=δ ((Λ r),σ):=by refine rW (f:=Us) (y0:=(Φ (fc a0))) (y1:=(ZN [(ε a1)])) (enc:=λr:Bool=>(Λ r)) (T:=aBZ a0 a1) rfl rfl ?_ r h;unfold Us aBZ;refine an _ rfl<|an _ rfl<|an _ rfl<|an _ (jL _ _ _) ?_;exact dI _ (bD _ _) ⟨rfl,rfl⟩
def Ji (a0:i7) (a1:Int):Option (jl×Bool):=
 (tq (a0.dJ.length<=aZ) (iT (λx=>(decide (x.az=a1))) a0.dJ)).bind λr1=>
 if r1<0 then
  δ ((⟨0,[]⟩:jl),ι)
 else
 (pU a0.dJ r1).bind λx2=>
 δ (x2,θ)
theorem abH{a0:i7}{a1:Int}{σ:Heap}{r:(jl×Bool)}(h:Ji a0 a1=δ r):L5 [(Φ (cm a0)),(ε a1)] σ=δ ((Yu [(Φ (fc r.1)),(Λ r.2)]),σ):=by
 refine rW (f:=Qx) (y0:=(Φ (cm a0))) (y1:=(ε a1)) (enc:=λr:(jl×Bool)=>(Yu [(Φ (fc r.1)),(Λ r.2)])) (T:=Ji a0 a1) rfl rfl ?_ r h;unfold Qx Ji;refine an _ rfl<|an _ rfl<|an (sl 2 fc a0.dJ) rfl ?_;refine jK (λr1:Int=>((ε r1),σ)) (λr1 jE=>(tJ (e:=λr:Int=>((ε r),σ)) (λhs=>aiu _ a0.dJ hs _ _ (λx=>(decide (x.az=a1))) σ (λx hx=>akA (σ:=σ) (r:=(decide (x.az=a1))) rfl))) jE) (λr1 jE=>?_);refine an _ rfl ?_;refine jJ (p:=r1<0) (λc3=>?_) (λc3=>?_)
 ·refine an [(ε 0),Zg] rfl<|an [(ε 0),Zg] rfl<|an _ rfl ?_;exact dI _ (bD _ _) ⟨(Fu (dO (nT (dO rfl (dO (by first|rfl|exact RL _ _) oH))) (dO rfl oH))),rfl⟩
 refine an (sl 2 fc a0.dJ) rfl ?_;refine jK (λx2:jl=>(ZN (fc x2))) (λx2 hx2=>xz hx2) (λx2 hx2=>?_);refine an _ rfl<|an _ rfl<|an _ (JG _ _ rfl)<|an _ rfl ?_;exact dI _ (bD _ _) ⟨(Fu (dO (nT (dO rfl (dO (mT (λ_=>rfl) _) oH))) (dO rfl oH))),rfl⟩
def LG (a0:i7):Option Int:=
 (F6 a0.bk a0.bn).bind λr1=>
 (tq (([r1,(if(decide (30<(a0.dJ.length:Int)))=θ then 2 else 0)]:(List Int)).length<=aZ) ((([r1,(if(decide (30<(a0.dJ.length:Int)))=θ then 2 else 0)]:(List Int)).find? λn=>decide (¬n=0)).getD 0)).bind λr2=>
 if ¬(r2=0)then
  δ r2
 else
 kr a0.dJ (λ(qK:Nat)e9(s3:Unit)=>(show Option (Lr Unit Unit Int)from
   if(!(aT e9.az 1 999))=θ then
    δ (.ret 1)
   else
   (if decide (0<(qK:Int))=θ then pU a0.dJ (ξ.wrap ((qK:Int) -1))else δ default).bind λbT=>
   if((decide (0<(qK:Int)))&&(decide (e9.az<=bT.az)))=θ then
    δ (.ret 7)
   else
   (IU a0.bk a0.bn e9.bH).bind λiM=>
   if ¬(iM=0)then
    δ (.ret iM)
   else
   δ (.go ()))) (λs3=>δ ()) () (λb4=>
  if 40<(a0.bM.length:Int)then
   δ 2
  else
  kr a0.bM (λ(i23:Nat)vN(wZ:Unit)=>(show Option (Lr Unit Unit Int)from
    if(!(aT vN.az 1 40))=θ then
     δ (.ret 1)
    else
    (if decide (0<(i23:Int))=θ then pU a0.bM (ξ.wrap ((i23:Int) -1))else δ default).bind λx24=>
    if((decide (0<(i23:Int)))&&(decide (vN.az<=x24.az)))=θ then
     δ (.ret 7)
    else
    (Ji a0 vN.list).bind λoW=>
    if(!oW.2)=θ then
     δ (.ret 8)
    else
    if(!(aT vN.kD 0 100))=θ then
     δ (.ret 1)
    else
    δ (.go ()))) (λwZ=>δ ()) () (λHI=>
   δ 0) (λHI=>
   δ HI)) (λb4=>
  δ b4)
theorem aaC{a0:i7}{σ:Heap}{r:Int}(h:LG a0=δ r):PW [(Φ (cm a0))] σ=δ ((ε r),σ):=by
 refine yj (f:=T8) (y0:=(Φ (cm a0))) (enc:=λr:Int=>(ε r)) (T:=LG a0) rfl rfl ?_ r h;unfold T8 LG;refine an _ rfl<|an _ rfl<|an (sl 3 dX a0.bn) rfl ?_;refine jK (λr1:Int=>(ε r1)) (λr1 jE=>(eH (aat jE))) (λr1 jE=>?_);refine an (sl 2 fc a0.dJ) rfl<|an _ (fu _ _ _)<|an _ rfl<|an _ (eH (yl (decide (30<(a0.dJ.length:Int))) 2 σ))<|an (sl 1 oL ([r1,(if(decide (30<(a0.dJ.length:Int)))=θ then 2 else 0)]:(List Int))) rfl ?_;refine jK (λr2:Int=>(ε r2)) (λr2 tY=>(eH ((tJ (e:=λr:Int=>((ε r),σ)) (λhs=>EL ([r1,(if(decide (30<(a0.dJ.length:Int)))=θ then 2 else 0)]:(List Int)) hs σ)) tY))) (λr2 tY=>?_);refine an _ (fV _ _ _) ?_;refine jJ (p:=¬(r2=0)) (λqD=>?_) (λqD=>?_)
 ·exact dI _ (bD _ _) ⟨rfl,rfl⟩
 refine an (sl 2 fc a0.dJ) rfl<|an _ (fu _ _ _) ?_;refine mA (B:=Unit) (R:=Int) (λ(qK:Nat)(s3:Unit)v w5=>v=[(VD (cm a0)),(ε 0),(ε (qK:Int))]/\σ=w5) (λ(b4:Unit)(q:LS)=>∃u2 O8,q=((Ξ 0),([(VD (cm a0)),u2,O8]:aq),σ)) (λ(b4:Int)(q:LS)=>∃u1 O8,q=(YP,([u1,(ε b4),O8]:aq),σ)) ?_ ?_ ⟨rfl,rfl⟩ ?_ ?_
 ·intro Hh qK e9 s3 v w5 wR hI;obtain⟨rfl,rfl⟩:=hI;refine an _ (iR wR)<|mC<|an _ (gH wR)<|an _ rfl<|an _ rfl<|an _ (JG _ _ rfl)<|an _ rfl<|an _ (mL e9.az 1 999 σ)<|an _ rfl ?_;refine gy (c:=(!(aT e9.az 1 999))) (λjj=>?_) (λjj=>?_)
  ·exact bK (gd (by simp) ⟨_,_,rfl⟩)
  refine an _ rfl<|bX (ε e9.az) (λhg=>rfl)<|an _ rfl<|bX (sl 2 fc a0.dJ) (λhg=>rfl)<|bX (ε (qK:Int)) (λhg=>rfl)<|bX (ε (ξ.wrap ((qK:Int) -1))) (λhg=>by(try rw[hg]);exact rfl) ?_;refine tE (ω:=jl) (λbT=>(ZN (fc bT))) (λhg bT ahY=>by(try rw[hg]);exact xz ahY) (λbT ahY=>?_);refine bX (ZN (fc bT)) (λhg=>by(try rw[hg]);exact rfl)<|bX (ε bT.az) (λhg=>by(try rw[hg]);exact rfl)<|bX (Λ (decide (e9.az<=bT.az))) (λhg=>by(try rw[hg]);exact rfl)<|an _ (mO _ _) ?_;refine gy (c:=((decide (0<(qK:Int)))&&(decide (e9.az<=bT.az)))) (λia=>?_) (λia=>?_)
  ·exact bK (gd (by simp) ⟨_,_,rfl⟩)
  refine an _ rfl<|an _ rfl<|an _ rfl<|an (sl 3 dX a0.bn) rfl<|an (sl 11 bg e9.bH) rfl ?_;refine jK (λiM:Int=>((ε iM),σ)) (λiM NO=>aky NO) (λiM NO=>?_);refine an _ (fV _ _ _) ?_;refine jJ (p:=¬(iM=0)) (λfU=>?_) (λfU=>?_)
  ·exact bK (gd (by simp) ⟨_,_,rfl⟩)
  refine an _ (fT wR Hh) ?_;exact bK (l7 ⟨rfl,rfl⟩)
 ·intro hl s3 v w5 hI;obtain⟨rfl,rfl⟩:=hI;refine an _ (iQ _)<|mB ?_;exact bK ⟨by simp,⟨_,_,rfl⟩⟩
 ·intro hl b4 q hq;obtain⟨u2,O8,rfl⟩:=hq;refine gO rfl<|an _ rfl<|an (sl 3 dA a0.bM) rfl<|an _ (fu _ _ _)<|an _ rfl ?_;refine jJ (p:=40<(a0.bM.length:Int)) (λsJ=>?_) (λsJ=>?_)
  ·exact dI _ (bD _ _) ⟨rfl,rfl⟩
  refine an _ rfl<|an (sl 3 dA a0.bM) rfl<|an _ (fu _ _ _) ?_;refine mA (B:=Unit) (R:=Int) (λ(i23:Nat)(wZ:Unit)v It=>∃u2,v=[(VD (cm a0)),u2,(ε (i23:Int))]/\σ=It) (λ(HI:Unit)(q:LS)=>∃u1 u2 Pg,q=((Ξ 2),([u1,u2,Pg]:aq),σ)) (λ(HI:Int)(q:LS)=>∃u1 Pg,q=(YP,([u1,(ε HI),Pg]:aq),σ)) ?_ ?_ ⟨_,rfl,rfl⟩ ?_ ?_
  ·intro hle22 i23 vN wZ v It Y1 hI;obtain⟨u2,rfl,rfl⟩:=hI;refine an _ (iR Y1)<|mC<|an _ (gH Y1)<|an _ rfl<|an _ rfl<|an _ (abr _ _ rfl)<|an _ rfl<|an _ (mL vN.az 1 40 σ)<|an _ rfl ?_;refine gy (c:=(!(aT vN.az 1 40))) (λqC=>?_) (λqC=>?_)
   ·exact bK (gd (by simp) ⟨_,_,rfl⟩)
   refine an _ rfl<|bX (ε vN.az) (λhg=>rfl)<|an _ rfl<|bX (sl 3 dA a0.bM) (λhg=>rfl)<|bX (ε (i23:Int)) (λhg=>rfl)<|bX (ε (ξ.wrap ((i23:Int) -1))) (λhg=>by(try rw[hg]);exact rfl) ?_;refine tE (ω:=pH) (λx24=>(ZN (dA x24))) (λhg x24 ah3=>by(try rw[hg]);exact xz ah3) (λx24 ah3=>?_);refine bX (ZN (dA x24)) (λhg=>by(try rw[hg]);exact rfl)<|bX (ε x24.az) (λhg=>by(try rw[hg]);exact rfl)<|bX (Λ (decide (vN.az<=x24.az))) (λhg=>by(try rw[hg]);exact rfl)<|an _ (mO _ _) ?_;refine gy (c:=((decide (0<(i23:Int)))&&(decide (vN.az<=x24.az)))) (λme=>?_) (λme=>?_)
   ·exact bK (gd (by simp) ⟨_,_,rfl⟩)
   refine an _ rfl<|an _ rfl ?_;refine jK (λoW:(jl×Bool)=>((Yu [(Φ (fc oW.1)),(Λ oW.2)]),σ)) (λoW ahT=>abH ahT) (λoW ahT=>?_);refine an _ rfl<|an _ rfl<|an _ rfl<|an _ (JG _ _ rfl)<|an _ rfl ?_;refine gy (c:=(!oW.2)) (λkU=>?_) (λkU=>?_)
   ·exact bK (gd (by simp) ⟨_,_,rfl⟩)
   refine an _ rfl<|an _ (mL vN.kD 0 100 σ)<|an _ rfl ?_;refine gy (c:=(!(aT vN.kD 0 100))) (λjv=>?_) (λjv=>?_)
   ·exact bK (gd (by simp) ⟨_,_,rfl⟩)
   refine an _ (fT Y1 hle22) ?_;exact bK (l7 ⟨_,rfl,rfl⟩)
  ·intro hl wZ v It hI;obtain⟨u2,rfl,rfl⟩:=hI;refine an _ (iQ _)<|mB ?_;exact bK ⟨by simp,⟨_,_,_,rfl⟩⟩
  ·intro hl HI q hq;obtain⟨u1,u2,Pg,rfl⟩:=hq;refine gO rfl ?_;exact dI _ (bD _ _) ⟨rfl,rfl⟩
  ·intro hl HI q hq;obtain⟨u1,Pg,rfl⟩:=hq;refine qc rfl<|gO rfl ?_;exact dI _ (bD _ _) ⟨rfl,rfl⟩
 ·intro hl b4 q hq;obtain⟨u1,O8,rfl⟩:=hq;refine qc rfl<|gO rfl ?_;exact dI _ (bD _ _) ⟨rfl,rfl⟩
def L8 (a0:(List jl)) (a1:Int):Option (jl×Bool):=
 kr a0 (λ(i8:Nat)e7(s1:Unit)=>(show Option (Lr Unit Unit (jl×Bool))from
   if e7.az=a1 then
    δ (.ret (e7,θ))
   else
   δ (.go ()))) (λs1=>δ ()) () (λb2=>
  δ ((⟨0,[]⟩:jl),ι)) (λb2=>
  δ (b2.1,b2.2))
theorem amB{a0:(List jl)}{a1:Int}{σ:Heap}{r:(jl×Bool)}(h:L8 a0 a1=δ r):Vq [(sl 2 fc a0),(ε a1)] σ=δ ((Yu [(Φ (fc r.1)),(Λ r.2)]),σ):=by
 refine rW (f:=aBc) (y0:=(sl 2 fc a0)) (y1:=(ε a1)) (enc:=λr:(jl×Bool)=>(Yu [(Φ (fc r.1)),(Λ r.2)])) (T:=L8 a0 a1) rfl rfl ?_ r h;unfold aBc L8;refine an _ (fu _ _ _) ?_;refine mA (B:=Unit) (R:=(jl×Bool)) (λ(i8:Nat)(s1:Unit)v w3=>v=[(VD [(ε 0),Zg]),aR,(ε (i8:Int))]/\σ=w3) (λ(b2:Unit)(q:LS)=>∃u5 uX,q=((Ξ 0),([(VD [(ε 0),Zg]),u5,uX]:aq),σ)) (λ(b2:(jl×Bool))(q:LS)=>∃uX,q=(YP,([(VD (fc b2.1)),(Λ b2.2),uX]:aq),σ)) ?_ ?_ ⟨rfl,rfl⟩ ?_ ?_
 ·intro sF i8 e7 s1 v w3 jZ hI;obtain⟨rfl,rfl⟩:=hI;refine an _ (iR jZ)<|mC<|an _ (gH jZ)<|an _ rfl<|an _ rfl<|an _ (JG _ _ rfl)<|an _ rfl<|an _ (jL _ _ _) ?_;refine jJ (p:=e7.az=a1) (λc9=>?_) (λc9=>?_)
  ·refine an _ rfl<|an _ rfl<|an _ rfl<|an _ (JG _ _ rfl) ?_;exact bK (gd (by simp) ⟨_,rfl⟩)
  refine an _ (fT jZ sF) ?_;exact bK (l7 ⟨rfl,rfl⟩)
 ·intro hl s1 v w3 hI;obtain⟨rfl,rfl⟩:=hI;refine an _ (iQ _)<|mB ?_;exact bK ⟨by simp,⟨_,_,rfl⟩⟩
 ·intro hl b2 q hq;obtain⟨u5,uX,rfl⟩:=hq;refine gO rfl<|an _ rfl<|an [(ε 0),Zg] rfl<|an [(ε 0),Zg] rfl<|an _ rfl ?_;exact dI _ (bD _ _) ⟨(Fu (dO (nT (dO rfl (dO (by first|rfl|exact RL _ _) oH))) (dO rfl oH))),rfl⟩
 ·intro hl b2 q hq;obtain⟨uX,rfl⟩:=hq;refine qc rfl<|gO rfl<|an _ rfl ?_;exact dI _ (bD _ _) ⟨(Fu (dO (nT (dO rfl (dO (mT (λ_=>rfl) _) oH))) (dO rfl oH))),rfl⟩
end
section
section
variable {κ ν : Type} [DecidableEq κ]
theorem Wd(k a:κ)(v:ν):∀(l:List (κ×ν)),dQ k (fJ a v l)=if k=a then δ v else dQ k l
 |[]=>by simp [fJ,dQ]
 |(b,w)::l=>by
  rw[fJ];by_cases h:a=b
  ·subst h;rw[aP rfl,dQ,dQ];split<;>rfl
  ·rw[aO h,dQ,dQ,Wd k a v l];by_cases h2:k=b
   ·subst h2;rw[aP rfl,aP rfl,aO (λe=>h e.symm)]
   ·rw[aO h2,aO h2]
theorem azV(k:κ):∀(l:List κ)(s:List (κ×Bool)),(dQ k (l.foldl (λs x=>fJ x θ s) s)).getD ι=(decide (k∈l)||(dQ k s).getD ι)
 |[],s=>by simp
 |x::l,s=>by
  rw[V4,azV k l,Wd];by_cases h:k=x
  ·simp [h]
  ·simp [h]
end
theorem anh{l:List Int}{n:Int}(h:l.Pairwise (·<·))(k:Fv l n=ι):(l++[n]).Pairwise (·<·):=by
 rw[aDK];refine⟨h,by simp,λa ha b hb=>?_⟩;simp at hb;subst hb;unfold Fv at k;cases hl:l.getLast? with
 |none=>rw[List.getLast?_eq_none_iff]at hl;subst hl;simp at ha
 |some m=>
  rw[hl]at k;simp at k;obtain⟨ys,rfl⟩:=List.getLast?_eq_some_iff.1 hl;rw[aDK]at h;rcases jQ.1 ha with ha|ha
  ·have:=h.2.2 a ha m (by simp);omega
  ·simp at ha;omega
theorem abz{jM:List cD}:∀(rest pre:List iw),Ff jM pre rest=0->(pre.map (·.az)).Pairwise (·<·)->((pre++rest).map (·.az)).Pairwise (·<·)
 |[],pre,_,h=>by simpa using h
 |u::rest,pre,hc,h=>by
  rw[Ff]at hc;split at hc
  ·cases hc
  split at hc
  ·cases hc
  rename_i ho;split at hc
  ·cases hc
  split at hc
  ·cases hc
  split at hc
  ·cases hc
  have:=abz rest (pre++[u]) hc (by rw[Z6];exact anh h (by simpa using ho));simpa using this
theorem aCg{r:eU}(h:ji r=0):(r.cV.map (·.az)).Pairwise (·<·):=by
 unfold ji at h;split at h
 ·split at h
  ·cases h
  ·simpa using abz r.cV [] h (by simp)
 ·rename_i h2;exact absurd h h2
theorem aob(p:cD)(nm:ByteArray):(zB p nm).2=θ↔∃x∈p.params,x.name=nm:=by
 unfold zB;cases h:p.params.find? λx=>decide (x.name=nm)with
 |none=>simp only[Option.elim_none,YQ,false_iff];rintro⟨x,hx,e⟩;have:=T0.1 h x hx;simp [e]at this
 |some x=>simp only[aDn,true_iff];exact⟨x,xD h,by simpa using aEg h⟩
theorem ap7{l:List iw}(h:(l.map (·.az)).Pairwise (·<·)){u v:iw}(hu:u∈l)(hv:v∈l)(e:u.az=v.az):u=v:=by
 induction l with
 |nil=>simp at hu
 |cons x l ih=>
  rw[eP,YE]at h;rcases jP.1 hu with H9|H9<;>rcases jP.1 hv with ON|ON
  ·rw[H9,ON]
  ·have:=h.1 v.az (gh.2 ⟨v,ON,rfl⟩);rw[<-H9]at this;omega
  ·have:=h.1 u.az (gh.2 ⟨u,H9,rfl⟩);rw[<-ON]at this;omega
  ·exact ih h.2 H9 ON
def zX(r:eU)(k:aC):Bool:=(lg r k).2
theorem aes{r:eU}(h:ji r=0)(k:aC):zX r k=decide (k∈nZ r):=by
 rw[pM,decide_eq_true_iff];unfold zX lg nZ;rw[aDl];cases hf:r.cV.find? λu=>decide (u.az=k.unit)with
 |none=>simp only[Option.elim_none,YQ,false_iff];rintro⟨u,hu,hk⟩;obtain⟨x,_,rfl⟩:=gh.1 hk;have:=T0.1 hf u hu;simp at this
 |some u=>
  have hu:=xD hf;have hn:u.az=k.unit:=by simpa using aEg hf
  simp only[aDn,aob];constructor
  ·rintro⟨x,hx,e⟩;exact⟨u,hu,gh.2 ⟨x,hx,by rw[hn,e]⟩⟩
  ·rintro⟨v,hv,hk⟩;obtain⟨x,hx,rfl⟩:=gh.1 hk;obtain rfl:=ap7 (aCg h) hu hv hn;exact⟨x,hx,rfl⟩
theorem Rj{r:eU}(h:ji r=0):(nZ r).length<=16000:=by have h1:=Vg h r.cV;have h2:=aBg h;show(r.cV.flatMap (rX r.bf)).length<=_;omega
theorem Gw{α:Type}{p:Prop}[Decidable p](a b:α):(if p then δ a else δ b)=δ (if p then a else b):=by split<;>rfl
theorem Mi{α β:Type}{p:Prop}[Decidable p](a b:α)(f:α->Option β):(if p then δ a else δ b).bind f=f (if p then a else b):=by split<;>rfl
theorem before_eq(a b:aC):I3 a b=δ (gK a b):=by
 unfold I3 gK;by_cases h:a.unit=b.unit
 ·simp [h,Rv,Xc]
 ·by_cases h2:a.unit<b.unit<;>simp [h,h2]
theorem compare_eq(a b:aC):I2 a b=δ (zV a b):=by
 unfold I2 zV;by_cases h:a.unit=b.unit
 ·simp [h]
 ·by_cases h2:a.unit<b.unit<;>simp [h,h2]
def Kb(has:aC->Bool)(l:List gE)(i:Nat)(x:gE):Int:=
 if(!has x.key)=θ then 8
 else if(!(aT x.level 0 65535))=θ then 1
 else if(decide (0<(i:Int))&&!gK (pv l i).key x.key)=θ then 7 else 0
def JR(has:aC->Bool)(l:List fL)(i:Nat)(p:fL):Int:=
 if(!(aT p.az 1 999))=θ then 1
 else if(decide (0<(i:Int))&&decide (p.az<=(pv l i).az))=θ then 7
 else if(!(GD p.title))=θ then 3
 else if 2000<(p.jN.length:Int)then 2
 else jR (Kb has p.jN) p.jN 0
def ru(r:eU)(l:List fL):Int:=
 if ¬(ji r=0)then ji r else if 200<(l.length:Int)then 2 else jR (JR (zX r) l) l 0
theorem alW(c:Bool)(a b:aC):(c&&!(if c=θ then gK a b else(default:Bool)))=(c&&!gK a b):=by cases c<;>rfl
theorem apl(c:Bool)(a b:aC):(c&&decide (0<=(if c=θ then zV a b else(default:Int))))=(c&&!gK a b):=by
 cases c
 ·rfl
 ·simp only[if_true,aDh];exact ar8 a b
theorem aBS(s:ByteArray):(decide (¬(s=(⟨#[]⟩:ByteArray)))&&!(if decide (¬(s=(⟨#[]⟩:ByteArray)))=θ then Cb s else(default:Bool)))=!GD s:=by unfold GD;by_cases h:s=⟨#[]⟩<;>simp [h]
theorem aaU(r:eU)(l:List fL)(hr:rG r)(hl:fZ xk l):F6 r l=δ (ru r l):=by
 unfold F6 ru;simp only[tF hr,aJ];rw[tF (by show 2<=aZ;unfold aZ;omega)];simp only[aB6,aJ];by_cases h0:ji r=0;case neg=>simp [h0]
 by_cases h1:200<(l.length:Int)
 ·simp [h0,h1]
 have hk:Jh r=δ ((nZ r).foldl (λs x=>fJ x θ s) []):=by unfold Jh;have:=Rj h0;simp only[tF hr,aJ,h0,if_true];rw[Gm (λs x=>fJ x θ s) (λ_ _=>True) (by unfold aZ;omega) trivial (λ_ _ _ _ _=>trivial) (λ_ _ _ _ _=>rfl)];rfl
 simp only[h0,h1,not_true_eq_false,if_false,decide_false,YQ,hk,aJ]
 have has:∀k,(dQ k ((nZ r).foldl (λs x=>fJ x θ s) [])).getD ι=zX r k:=by intro k;rw[azV,aes h0];simp [dQ]
 rw[yc (f:=JR (zX r) l) hl.1 ?_]
 ·split
  ·rename_i h;rw[h]
  ·rfl
 intro i p hp;have FR:=hl.2 p (dm hp);obtain⟨_,ht,hs⟩:=FR;simp only[C2 hp hl.1,aJ,tF ht,has];rw[yc (f:=Kb (zX r) p.jN) hs.1 ?_]
 ·unfold JR;repeat first|exact Ra _|exact go_ret|refine CY (by decide) ?_
 intro j x hx;simp only[C2 hx hs.1,aJ,before_eq,Mi,alW];unfold Kb;repeat first|exact go_ret|refine CY (by decide) ?_
theorem akv(r:eU)(l:List fL)(hr:rG r)(hl:fZ xk l):II r l=δ (ru r l):=by
 unfold II ru;simp only[tF hr,aJ];by_cases h0:ji r=0;case neg=>simp [h0]
 by_cases h1:200<(l.length:Int)
 ·simp [h0,h1]
 simp only[h0,h1,not_true_eq_false,if_false];rw[yc (f:=JR (zX r) l) hl.1 ?_]
 ·split
  ·rename_i h;rw[h]
  ·rfl
 intro i p hp;have FR:=hl.2 p (dm hp);obtain⟨_,ht,hs⟩:=FR;simp only[C2 hp hl.1,aJ,tF ht,Mi,aBS];rw[yc (f:=Kb (zX r) p.jN) hs.1 ?_]
 ·unfold JR;repeat first|exact Ra _|exact go_ret|refine CY (by decide) ?_
 intro j x hx;simp only[C2 hx hs.1,aJ];unfold Kb gK zX;repeat first|exact go_ret|refine CY (by decide) ?_
def aBK(l:List fL)(n:Int):fL×Bool:=match l.find? λp=>decide (p.az=n)with|some p=>(p,θ)|none=>(⟨0,⟨#[]⟩,[]⟩,ι)
def xq(l:List fL)(k:aC)(v:mz):Int×Int:=
 if(decide (¬(v.level=0))&&decide (¬(v.fQ=0)))=θ then(0,3)
 else if(!(aT v.level 0 65535))=θ then(0,1)
 else if v.fQ=0 then(v.level,0)
 else match l.find? λp=>decide (p.az=v.fQ)with
  |none=>(0,8)
  |some p=>match p.jN.find? λs=>decide (s.key=k)with|none=>(0,8)|some s=>(s.level,0)
theorem ant(l:List fL)(hl:l.length<=aZ)(n:Int):I1 l n=δ (aBK l n):=by unfold I1 aBK;rw[Mj (p:=λp=>decide (p.az=n)) (r:=λp=>(p,θ)) hl (by intro i x _;simp only[decide_eq_true_eq,Gw])];cases l.find? λp=>decide (p.az=n)<;>rfl
theorem ad0(l:List fL)(hl:fZ xk l)(k:aC)(v:mz):EG l k v=δ (xq l k v):=by
 unfold EG xq;simp only[ant l hl.1,aJ];split
 ·rfl
 split
 ·rfl
 split
 ·rfl
 unfold aBK;cases hf:l.find? λp=>decide (p.az=v.fQ)with
 |none=>rfl
 |some p=>have hp:=hl.2 p (xD hf);simp only[Ur,YQ,if_false];rw[Mj (p:=λs=>decide (s.key=k)) (r:=λs=>s.level) hp.2.2.1 (by intro i x _;simp only[decide_eq_true_eq,Gw])];cases p.jN.find? λs=>decide (s.key=k)<;>rfl
theorem anM{α γ R:Type}{p:α->Bool}{l:List α}{body:Nat->α->Unit->Option (Lr Unit Unit R)}{r:α->Option R}{fin:Unit->Option Unit}{s:Unit}{K1:Unit->Option γ}{K2:R->Option γ}(hl:l.length<=aZ)(hb:∀i x,l[i]? =δ x->body i x ()=if p x=θ then δ (match r x with|some q=>.ret q|none=>.brk ())else δ (.go ()))(hf:fin ()=δ ():=by rfl):kr l body fin s K1 K2=match l.find? p with|some x=>(match r x with|some q=>K2 q|none=>K1 ())|none=>K1 ():=by
 rw[JM hl]
 have key:∀(rest pre:List α),l=pre++rest->oM body fin rest pre.length ()=δ (match rest.find? p with|some x=>(match r x with|some q=>.inr q|none=>.inl ())|none=>.inl ()):=by
  intro rest;induction rest with
  |nil=>intro pre _;simp [oM,hf]
  |cons x rest ih=>
   intro pre hp;rw[oM,hb pre.length x (by rw[hp];simp),aDr];cases h:p x
   ·simp only[YQ,if_false,aJ];have:=ih (pre++[x]) (by simpa using hp);simpa using this
   ·simp only[if_true,aJ];cases r x<;>rfl
 have k:=key l [] rfl;rw[UB]at k;rw[show s=()from rfl,k,aJ];cases l.find? p with
 |none=>rfl
 |some x=>simp only;cases r x<;>rfl
theorem ae6(l:List fL)(hl:fZ xk l)(k:aC)(v:mz):Ja l k v=δ (xq l k v):=by
 unfold Ja xq;split
 ·rfl
 split
 ·rfl
 split
 ·rfl
 rw[anM (p:=λp=>decide (p.az=v.fQ)) (r:=λp=>(p.jN.find? λs=>decide (s.key=k)).map (·.level)) hl.1 ?_]
 ·cases hf:l.find? λp=>decide (p.az=v.fQ)with
  |none=>rfl
  |some p=>simp only;cases p.jN.find? λs=>decide (s.key=k)<;>rfl
 intro i p hp;have FR:=hl.2 p (dm hp);by_cases hn:p.az=v.fQ
 ·simp only[hn,not_true_eq_false,if_false,decide_true,if_true];rw[Mj (p:=λs=>decide (s.key=k)) (r:=λs=>s.level) FR.2.2.1 (by intro i x _;simp only[decide_eq_true_eq,Gw])];cases p.jN.find? λs=>decide (s.key=k)<;>rfl
 ·simp [hn]
def Cf(l:List gf)(i:Nat)(m:gf):Int:=
 if(!(aT m.key.unit 1 9999))=θ then 1
 else if(!(rF m.key.param))=θ then 5
 else if((m.release&&(decide (¬(m.value=(⟨0,0⟩:mz)))))||((decide (¬(m.value.level=0)))&&(decide (¬(m.value.fQ=0)))))=θ then 3
 else if((!(aT m.value.level 0 65535))||(!(aT m.value.fQ 0 999)))=θ then 1
 else if((!m.zO)&&((decide (¬(m.cB=0)))||(decide (¬(m.time=0)))))=θ then 3
 else if((!(aT m.cB 0 36000000))||(!(aT m.time 0 36000000)))=θ then 1
 else if(decide (0<(i:Int))&&!gK (pv l i).key m.key)=θ then 7 else 0
def B7(l:List gf):Int:=jR (Cf l) l 0
theorem alT(l:List gf)(hl:fZ JZ l):IQ l=δ (B7 l):=by
 unfold IQ B7;rw[yc (f:=Cf l) hl.1 ?_]
 ·split
  ·rename_i h;rw[h]
  ·rfl
 intro i m hm;have hmm:=hl.2 m (dm hm);simp only[C2 hm hl.1,aJ,tF hmm.1.2,compare_eq,Mi,apl];unfold Cf;repeat first|exact go_ret|refine CY (by decide) ?_
theorem alS(l:List gf)(hl:fZ JZ l)(i:Nat)(m:gf)(hm:l[i]? =δ m):IY m (l.take i)=δ (Cf l i m):=by
 have hmm:=hl.2 m (dm hm);have hi:=(bG.1 hm).1;have e:((l.take i).length:Int)=(i:Int):=by simp;omega
 unfold IY Cf;simp only[tF hmm.1.2,aJ];have:=asS hm hl.1;rw[e]at this;simp only[e,this,aJ,Gw];rfl
theorem alp(l:List gf)(hl:fZ JZ l):IT l=δ (if 2000<(l.length:Int)then 2 else B7 l):=by
 unfold IT B7;split
 ·rfl
 rw[yc (f:=Cf l) hl.1 ?_]
 ·split
  ·rename_i h;rw[h]
  ·rfl
 intro i m hm;have hi:=(bG.1 hm).1;simp only[atD (Nat.le_of_lt hi),aJ,alS l hl i m hm];by_cases h:Cf l i m=0<;>simp [h]
def vE(l:List bA)(i:Nat)(c:bA):Int:=
 if(!(aT c.az 1 9999999))=θ then 1
 else if(decide (0<(i:Int))&&decide (c.az<=(pv l i).az))=θ then 7
 else if(!(GD c.title))=θ then 3
 else if(((((!(aT c.cB 0 36000000))||(!(aT c.up 0 36000000)))||(!(aT c.down 0 36000000)))||(!(aT c.other 0 36000000)))||(!(aT c.eM (-1) 36000000)))=θ then 1
 else if ¬(pK c.fM=0)then pK c.fM
 else if 2000<(c.dF.length:Int)then 2
 else B7 c.dF
def M4(l:List bA):Int:=l.foldl (λs c=>ξ.wrap (s+(c.dF.length:Int))) 0
def pL(l:List bA):Int:=
 if 300<(l.length:Int)then 2 else if ¬(jR (vE l) l 0=0)then jR (vE l) l 0 else if 10000<M4 l then 2 else 0
theorem ada{α γ S B:Type}{f:Nat->α->Int}{g:S->α->S}{l:List α}{body:Nat->α->S->Option (Lr S B Int)}{fin:S->Option B}{s:S}{K1:B->Option γ}{K2:Int->Option γ}(hl:l.length<=aZ)(hb:∀i x s,l[i]? =δ x->body i x s=δ (if f i x=0 then .go (g s x)else .ret (f i x))):kr l body fin s K1 K2=if jR f l 0=0 then(fin (l.foldl g s)).bind K1 else K2 (jR f l 0):=by
 rw[JM hl]
 have key:∀(rest pre:List α)(s:S),l=pre++rest->oM body fin rest pre.length s=if jR f rest pre.length=0 then(fin (rest.foldl g s)).map .inl else δ (.inr (jR f rest pre.length)):=by
  intro rest;induction rest with
  |nil=>intro pre s _;simp [oM,jR]
  |cons x rest ih=>
   intro pre s hp;rw[oM,hb pre.length x s (by rw[hp];simp),aJ,jR];by_cases h:f pre.length x=0
   ·simp only[h,if_true];have:=ih (pre++[x]) (g s x) (by simpa using hp);simpa using this
   ·simp only[h,if_false]
 have k:=key l [] s rfl;rw[UB]at k;rw[k];split
 ·cases fin (l.foldl g s)<;>rfl
 ·rfl
theorem aev{S B:Type}{p:Prop}[Decidable p]{k f:Int}{t:S}{Y:Option (Lr S B Int)}(hk:k≠0)(h:Y=δ (if f=0 then .go t else .ret f)):(if p then δ (.ret k)else Y)=δ (if(if p then k else f)=0 then .go t else .ret (if p then k else f)):=by
 by_cases hp:p
 ·simp [hp,hk]
 ·simp [hp,h]
theorem adn{S B:Type}{k f:Int}{t:S}{Y:Option (Lr S B Int)}(h:Y=δ (if f=0 then .go t else .ret f)):(if ¬(k=0)then δ (.ret k)else Y)=δ (if(if ¬(k=0)then k else f)=0 then .go t else .ret (if ¬(k=0)then k else f)):=by
 by_cases hp:k=0
 ·simp [hp,h]
 ·simp [hp]
theorem Mn{S B:Type}{k:Int}{t:S}:(if ¬(k=0)then δ (.ret k)else δ (.go t):Option (Lr S B Int))=δ (if k=0 then .go t else .ret k):=by by_cases hp:k=0<;>simp [hp]
theorem agh(l:List bA)(hl:fZ zN l):Jq l=δ (pL l):=by
 unfold Jq pL;split
 ·rfl
 rw[ada (f:=vE l) (g:=λs c=>ξ.wrap (s+(c.dF.length:Int))) hl.1 ?_]
 ·show(if jR (vE l) l 0=0 then δ (if decide (10000<M4 l)=θ then(2:Int)else 0)else δ (jR (vE l) l 0))=_;by_cases h:jR (vE l) l 0=0
  ·by_cases h2:10000<M4 l<;>simp [h,h2]
  ·simp [h]
 intro i c s hc;obtain⟨_,ht,_,_,_,_,_,_,hm⟩:=hl.2 c (dm hc);simp only[C2 hc hl.1,aJ,tF ht,alT _ hm,Mi,aBS];unfold vE;repeat first|exact Mn|refine aev (by decide) ?_|refine adn ?_
theorem alI(l:List bA)(hl:fZ zN l):IX l=δ (pL l):=by
 unfold IX pL;split
 ·rfl
 rw[ada (f:=vE l) (g:=λs c=>ξ.wrap (s+(c.dF.length:Int))) hl.1 ?_]
 ·show(if jR (vE l) l 0=0 then(if 10000<M4 l then δ (2:Int)else δ 0)else δ (jR (vE l) l 0))=_;by_cases h:jR (vE l) l 0=0
  ·by_cases h2:10000<M4 l<;>simp [h,h2]
  ·simp [h]
 intro i c s hc;obtain⟨_,ht,_,_,_,_,_,_,hm⟩:=hl.2 c (dm hc);simp only[C2 hc hl.1,aJ,tF ht,alp _ hm,Mi,aBS];unfold vE;repeat first|exact Mn|refine aev (by decide) ?_|refine adn ?_
def Hw(r:eU)(bn:List fL)(m:gf):Int:=
 if(!zX r m.key)=θ then 8 else(xq bn m.key m.value).2
def Nc(r:eU)(bn:List fL)(l:List bA):Int:=jR (λ_ c=>jR (λ_ m=>Hw r bn m) c.dF 0) l 0
def yz(r:eU)(bn:List fL)(l:List bA):Int:=
 if ¬(ru r bn=0)then ru r bn else if ¬(pL l=0)then pL l else Nc r bn l
theorem Qi{r:eU}{l:List fL}(h:ru r l=0):ji r=0:=by
 unfold ru at h;by_cases h0:ji r=0
 ·exact h0
 ·rw[aP h0]at h;exact h
theorem aAi{c:bA}(h:zN c):fZ JZ c.dF:=by obtain⟨_,_,_,_,_,_,_,_,hm⟩:=h;exact hm
theorem aml(r:eU)(bn:List fL)(l:List bA)(hr:rG r)(hp:fZ xk bn)(hl:fZ zN l):IU r bn l=δ (yz r bn l):=by
 unfold IU yz;simp only[aaU r bn hr hp,agh l hl,aJ];rw[tF (by show 2<=aZ;unfold aZ;omega)];simp only[aB6,aJ];by_cases h0:ru r bn=0;case neg=>simp [h0]
 by_cases h1:pL l=0;case neg=>simp [h0,h1]
 have NR:=Qi h0;have wS:=Rj NR;simp only[h0,h1,not_true_eq_false,if_false,tF hr,aJ,NR,if_true];rw[Gm (λs x=>fJ x θ s) (λ_ _=>True) (by unfold aZ;omega) trivial (λ_ _ _ _ _=>trivial) (λ_ _ _ _ _=>rfl)];simp only[aJ]
 have has:∀k,(dQ k ((nZ r).foldl (λs x=>fJ x θ s) [])).getD ι=zX r k:=by intro k;rw[azV,aes NR];simp [dQ]
 rw[yc (f:=λ_ c=>jR (λ_ m=>Hw r bn m) c.dF 0) hl.1 ?_]
 ·show(if Nc r bn l=0 then δ (0:Int)else δ (Nc r bn l))=_;split
  ·rename_i h;rw[h]
  ·rfl
 intro i c hc;rw[yc (f:=λ_ m=>Hw r bn m) (aAi (hl.2 c (dm hc))).1 ?_]
 ·exact Ra _
 intro j m hm;simp only[has,ae6 bn hp,aJ];unfold Hw;repeat first|exact Mn|refine CY (by decide) ?_
theorem alJ(r:eU)(bn:List fL)(l:List bA)(hr:rG r)(hp:fZ xk bn)(hl:fZ zN l):LO r bn l=δ (yz r bn l):=by
 unfold LO yz;simp only[akv r bn hr hp,alI l hl,aJ];by_cases h0:ru r bn=0;case neg=>simp [h0]
 by_cases h1:pL l=0;case neg=>simp [h0,h1]
 simp only[h0,h1,not_true_eq_false,if_false];rw[yc (f:=λ_ c=>jR (λ_ m=>Hw r bn m) c.dF 0) hl.1 ?_]
 ·show(if Nc r bn l=0 then δ (0:Int)else δ (Nc r bn l))=_;split
  ·rename_i h;rw[h]
  ·rfl
 intro i c hc;rw[yc (f:=λ_ m=>Hw r bn m) (aAi (hl.2 c (dm hc))).1 ?_]
 ·exact Ra _
 intro j m hm;simp only[tF hr,ad0 bn hp,aJ];unfold Hw zX;repeat first|exact Mn|refine CY (by decide) ?_
def um(l:List jl)(n:Int):jl×Bool:=match l.find? λx=>decide (x.az=n)with|some x=>(x,θ)|none=>(⟨0,[]⟩,ι)
theorem agt(s:i7)(hl:s.dJ.length<=aZ)(n:Int):Ji s n=δ (um s.dJ n):=by
 unfold Ji um;rw[tF hl,aJ];rcases td (λx:jl=>decide (x.az=n)) s.dJ with⟨h1,_,h3⟩|⟨k,x,h1,h2,h3,h4,_⟩
 ·rw[h1,h3];rfl
 ·rw[h3,h4,aO (by omega),MK (x:=x) (by omega) (by simpa using h1)];rfl
theorem aoS(l:List jl)(hl:l.length<=aZ)(n:Int):L8 l n=δ (um l n):=by unfold L8 um;rw[Mj (p:=λp=>decide (p.az=n)) (r:=λp=>(p,θ)) hl (by intro i x _;simp only[decide_eq_true_eq,Gw])];cases l.find? λp=>decide (p.az=n)<;>rfl
def C8(s:i7)(i:Nat)(x:jl):Int:=
 if(!(aT x.az 1 999))=θ then 1
 else if(decide (0<(i:Int))&&decide (x.az<=(pv s.dJ i).az))=θ then 7
 else yz s.bk s.bn x.bH
def M5(s:i7)(i:Nat)(p:pH):Int:=
 if(!(aT p.az 1 40))=θ then 1
 else if(decide (0<(i:Int))&&decide (p.az<=(pv s.bM i).az))=θ then 7
 else if(!(um s.dJ p.list).2)=θ then 8
 else if(!(aT p.kD 0 100))=θ then 1 else 0
def Ca(s:i7):Int:=
 if ¬(ru s.bk s.bn=0)then ru s.bk s.bn
 else if 30<(s.dJ.length:Int)then 2
 else if ¬(jR (C8 s) s.dJ 0=0)then jR (C8 s) s.dJ 0
 else if 40<(s.bM.length:Int)then 2
 else jR (M5 s) s.bM 0
theorem abb(s:i7)(hs:zw s):LG s=δ (Ca s):=by
 obtain⟨hr,hp,hl,hb⟩:=hs;unfold LG Ca;simp only[aaU _ _ hr hp,aJ];rw[tF (by show 2<=aZ;unfold aZ;omega)];simp only[aB6,aJ];by_cases h0:ru s.bk s.bn=0;case neg=>simp [h0]
 by_cases h1:30<(s.dJ.length:Int)
 ·simp [h0,h1]
 simp only[h0,h1,not_true_eq_false,if_false,decide_false,YQ];rw[yc (f:=C8 s) hl.1 ?_]
 ·by_cases h2:jR (C8 s) s.dJ 0=0;case neg=>simp [h2]
  simp only[h2,if_true,not_true_eq_false,if_false];split
  ·rfl
  rw[yc (f:=M5 s) hb.1 ?_]
  ·split
   ·rename_i h;rw[h]
   ·rfl
  intro i p KU;simp only[C2 KU hb.1,aJ,agt s hl.1];unfold M5;repeat first|exact go_ret|refine CY (by decide) ?_
 intro i x hx;simp only[C2 hx hl.1,aJ,aml _ _ _ hr hp (hl.2 x (dm hx)).2];unfold C8;repeat first|exact Mn|refine CY (by decide) ?_
end
section
def Ut (a0:bA) (a1:Int):Option Int:=δ (ξ.wrap (a0.az-a1))
theorem akz{a0:bA}{a1:Int}{σ:Heap}{r:Int}(h:Ut a0 a1=δ r):Ga [(Φ (bg a0)),(ε a1)] σ=δ ((ε r),σ):=by refine rW (f:=Uq) (y0:=(Φ (bg a0))) (y1:=(ε a1)) (enc:=λr:Int=>(ε r)) (T:=Ut a0 a1) (dO (nT rfl) rfl) rfl ?_ r h;unfold Uq Ut;refine an _ rfl<|an _ rfl<|an _ rfl ?_;exact dI _ (bD _ _) ⟨rfl,rfl⟩
def L9 (a0:(List bA)):Option (List (aC×bB)):=
 kr a0 (λ(qK:Nat)e9(s3:(List (aC×bB)))=>(show Option (Lr (List (aC×bB)) (List (aC×bB)) Unit)from
   kr e9.dF (λ(Ib:Nat)lz(pS:(List (aC×bB)))=>(show Option (Lr (List (aC×bB)) (List (aC×bB)) Unit)from
     (show Option (List (aC×bB))from
       if lz.release=θ then
        δ (uJ lz.key pS)
       else
       δ (fJ lz.key (⟨(⟨lz.key.unit,lz.key.param⟩:aC),(⟨lz.value.level,lz.value.fQ⟩:mz),e9.az⟩:bB) pS)).bind λS4=>
     δ (.go S4))) (λpS=>δ pS) s3 (λwJ=>
    δ (.go wJ)) (λwJ=>
    μ))) (λs3=>δ s3) ([]:List (aC×bB)) (λb4=>
  δ b4) (λb4=>
  μ)
theorem amC{a0:(List bA)}{σ:Heap}{r:(List (aC×bB))}(h:L9 a0=δ r):L4 [(sl 11 bg a0)] σ=δ ((yS (λx=>(Φ (aS x))) (λx=>(Φ (bJ x))) r),σ):=by
 refine yj (f:=VC) (y0:=(sl 11 bg a0)) (enc:=λr:(List (aC×bB))=>(yS (λx=>(Φ (aS x))) (λx=>(Φ (bJ x))) r)) (T:=L9 a0) (dO (mT (λ_=>rfl) _) rfl) rfl ?_ r h;unfold VC L9;have hp1:Hp σ σ []:=MP σ;have hp2:Hp σ (σ++[Z0 []]) [((XP σ.length),(aC8 (Y0 (λp=>((λx=>(Φ (aS x))) p.1,(λx=>(Φ (bJ x))) p.2)) ([]:List (aC×bB)))))]:=aAt hp1;refine an _ (fu _ _ _) ?_;refine mA (B:=(List (aC×bB))) (R:=Unit) (λ(qK:Nat)(s3:(List (aC×bB)))v w5=>v=[(ε (qK:Int))]/\Hp σ w5 [((XP σ.length),(aC8 (Y0 (λp=>((λx=>(Φ (aS x))) p.1,(λx=>(Φ (bJ x))) p.2)) s3)))]) (λ(b4:(List (aC×bB)))(q:LS)=>∃F0 w6,q=((Ξ 0),([F0]:aq),w6)/\Hp σ w6 [((XP σ.length),(aC8 (Y0 (λp=>((λx=>(Φ (aS x))) p.1,(λx=>(Φ (bJ x))) p.2)) b4)))]) (λ(b4:Unit)(q:LS)=>False) ?_ ?_ ⟨rfl,hp2⟩ ?_ ?_
 ·intro Hh qK e9 s3 v w5 wR hI;obtain⟨rfl,HZ⟩:=hI;refine an _ (iR wR)<|mC<|an _ (gH wR)<|an _ rfl<|an _ rfl<|an _ (C3 _ _ rfl)<|an (sl 8 ff e9.dF) rfl<|an _ (fu _ _ _) ?_;refine mA (B:=(List (aC×bB))) (R:=Unit) (λ(Ib:Nat)(pS:(List (aC×bB)))v Is=>v=[(VD (bg e9)),(ε (Ib:Int))]/\Hp σ Is [((XP σ.length),(aC8 (Y0 (λp=>((λx=>(Φ (aS x))) p.1,(λx=>(Φ (bJ x))) p.2)) pS)))]) (λ(wJ:(List (aC×bB)))(q:LS)=>∃u5 O5 BA,q=((Ξ 2),([u5,O5]:aq),BA)/\Hp σ BA [((XP σ.length),(aC8 (Y0 (λp=>((λx=>(Φ (aS x))) p.1,(λx=>(Φ (bJ x))) p.2)) wJ)))]) (λ(wJ:Unit)(q:LS)=>False) ?_ ?_ ⟨rfl,HZ⟩ ?_ ?_
  ·intro X0 Ib lz pS v Is He hI;obtain⟨rfl,SD⟩:=hI;refine an _ (iR He)<|mC<|an _ (gH He)<|an _ rfl<|an _ rfl<|an _ (Gy _ _ rfl)<|an _ rfl ?_
   refine N1 (ω:=(List (aC×bB))) (λS4 a=>∃w27,a=(([(VD (bg e9))]:aq),w27)/\Hp σ w27 [((XP σ.length),(aC8 (Y0 (λp=>((λx=>(Φ (aS x))) p.1,(λx=>(Φ (bJ x))) p.2)) S4)))]) (
     by
      refine gy (c:=lz.release) (λiA=>?_) (λiA=>?_)
      ·refine an _ rfl ?_;obtain⟨w19,e21,ahP⟩:=asH (ek:=(.s [0,2])) (eK:=(λx=>(Φ (aS x)))) (eV:=(λx=>(Φ (bJ x)))) SD 0 rfl vq lz.key rfl;change Hp σ w19 [((XP σ.length),(aC8 (Y0 (λp=>((λx=>(Φ (aS x))) p.1,(λx=>(Φ (bJ x))) p.2)) (uJ lz.key pS))))]at ahP;refine an w19 e21 ?_;exact bK ⟨_,rfl,ahP⟩
      refine an _ rfl<|an _ rfl<|an _ rfl<|an _ rfl<|an _ rfl<|an (Φ (bJ (⟨(⟨lz.key.unit,lz.key.param⟩:aC),(⟨lz.value.level,lz.value.fQ⟩:mz),e9.az⟩:bB))) rfl ?_;obtain⟨w22,Ot,Ko⟩:=aCo (ek:=(.s [0,2])) (eK:=(λx=>(Φ (aS x)))) (eV:=(λx=>(Φ (bJ x)))) SD 0 rfl vq lz.key (⟨(⟨lz.key.unit,lz.key.param⟩:aC),(⟨lz.value.level,lz.value.fQ⟩:mz),e9.az⟩:bB) rfl;change Hp σ w22 [((XP σ.length),(aC8 (Y0 (λp=>((λx=>(Φ (aS x))) p.1,(λx=>(Φ (bJ x))) p.2)) (fJ lz.key (⟨(⟨lz.key.unit,lz.key.param⟩:aC),(⟨lz.value.level,lz.value.fQ⟩:mz),e9.az⟩:bB) pS))))]at Ko;refine an w22 Ot ?_;exact bK ⟨_,rfl,Ko⟩
     ) (λS4 a ha=>?_)
   obtain⟨w27,rfl,axz⟩:=ha;refine an _ (fT He X0) ?_;exact bK (l7 ⟨rfl,axz⟩)
  ·intro hl pS v Is hI;obtain⟨rfl,SD⟩:=hI;refine an _ (iQ _)<|mB ?_;exact bK ⟨by simp,⟨_,_,_,rfl,SD⟩⟩
  ·intro hl wJ q hq;obtain⟨u5,O5,BA,rfl,Fk⟩:=hq;refine gO rfl<|an _ (fT wR Hh) ?_;exact bK (l7 ⟨rfl,Fk⟩)
  ·intro hl wJ q hq;exact aC6 hq
 ·intro hl s3 v w5 hI;obtain⟨rfl,HZ⟩:=hI;refine an _ (iQ _)<|mB ?_;exact bK ⟨by simp,⟨_,_,rfl,HZ⟩⟩
 ·intro hl b4 q hq;obtain⟨F0,w6,rfl,rU⟩:=hq;refine gO rfl ?_;exact dI _ (JX rU (agk rU (k:=0) rfl (by intro p hp;obtain⟨x,_,rfl⟩:=gh.1 hp;exact⟨(wq (AG _)),(wq (Ml _))⟩))) ⟨rfl,rfl⟩
 ·intro hl b4 q hq;exact aC6 hq
def ML (a0:(List bA)) (a1:Int):Option Int:=
 kr a0 (λ(i8:Nat)e7(s1:Unit)=>(show Option (Lr Unit Unit Int)from
   if e7.az=a1 then
    δ (.ret (i8:Int))
   else
   δ (.go ()))) (λs1=>δ ()) () (λb2=>
  δ (-1)) (λb2=>
  δ b2)
theorem asG{a0:(List bA)}{a1:Int}{σ:Heap}{r:Int}(h:ML a0 a1=δ r):aCc [(sl 11 bg a0),(ε a1)] σ=δ ((ε r),σ):=by
 refine rW (f:=ahW) (y0:=(sl 11 bg a0)) (y1:=(ε a1)) (enc:=λr:Int=>(ε r)) (T:=ML a0 a1) (dO (mT (λ_=>rfl) _) rfl) rfl ?_ r h;unfold ahW ML;refine an _ (fu _ _ _) ?_;refine mA (B:=Unit) (R:=Int) (λ(i8:Nat)(s1:Unit)v w3=>v=[(ε 0),(ε (i8:Int))]/\σ=w3) (λ(b2:Unit)(q:LS)=>∃u4 u9,q=((Ξ 0),([u4,u9]:aq),σ)) (λ(b2:Int)(q:LS)=>∃u9,q=(YP,([(ε b2),u9]:aq),σ)) ?_ ?_ ⟨rfl,rfl⟩ ?_ ?_
 ·intro sF i8 e7 s1 v w3 jZ hI;obtain⟨rfl,rfl⟩:=hI;refine an _ (iR jZ)<|mC<|an _ (gH jZ)<|an _ rfl<|an _ rfl<|an _ (C3 _ _ rfl)<|an _ rfl<|an _ (jL _ _ _) ?_;refine jJ (p:=e7.az=a1) (λc9=>?_) (λc9=>?_)
  ·exact bK (gd (by simp) ⟨_,rfl⟩)
  refine an _ (fT jZ sF) ?_;exact bK (l7 ⟨rfl,rfl⟩)
 ·intro hl s1 v w3 hI;obtain⟨rfl,rfl⟩:=hI;refine an _ (iQ _)<|mB ?_;exact bK ⟨by simp,⟨_,_,rfl⟩⟩
 ·intro hl b2 q hq;obtain⟨u4,u9,rfl⟩:=hq;refine gO rfl ?_;exact dI _ (bD _ _) ⟨rfl,rfl⟩
 ·intro hl b2 q hq;obtain⟨u9,rfl⟩:=hq;refine qc rfl<|gO rfl ?_;exact dI _ (bD _ _) ⟨rfl,rfl⟩
def Jp (a0:(List bB)) (a1:aC):Option (Int×Bool):=
 Pj (λ(s1:Int)=>(show Option (Lr Int Int Unit)from
   (if decide (s1<(a0.length:Int))=θ then pU a0 s1 else δ default).bind λx7=>
   if((decide (s1<(a0.length:Int)))&&(((decide (x7.key.unit<a1.unit))||((decide (x7.key.unit=a1.unit))&&(WR x7.key.param.toList a1.param.toList)))))=θ then
    δ (.go (ξ.wrap (s1+1)))
   else
   δ (.brk s1))) 0 (λb2=>
  (if decide (b2<(a0.length:Int))=θ then pU a0 b2 else δ default).bind λx9=>
  δ (b2,((decide (b2<(a0.length:Int)))&&(decide (x9.key=a1))))) (λb2=>
  μ)
theorem ack{a0:(List bB)}{a1:aC}{σ:Heap}{r:(Int×Bool)}(h:Jp a0 a1=δ r):Jl [(sl 5 bJ a0),(Φ (aS a1))] σ=δ ((Yu [(ε r.1),(Λ r.2)]),σ):=by
 refine rW (f:=aAW) (y0:=(sl 5 bJ a0)) (y1:=(Φ (aS a1))) (enc:=λr:(Int×Bool)=>(Yu [(ε r.1),(Λ r.2)])) (T:=Jp a0 a1) rfl rfl ?_ r h;unfold aAW Jp;refine an _ rfl ?_;refine avK (B:=Int) (R:=Unit) (λ(s1:Int)v w3=>v=[(VD (aS a1)),(ε s1)]/\σ=w3) (λ(b2:Int)(q:LS)=>q=((Ξ 0),([(VD (aS a1)),(ε b2)]:aq),σ)) (λ(b2:Unit)(q:LS)=>False) ?_ ⟨rfl,rfl⟩ ?_ ?_
 ·intro s1 v w3 hI;obtain⟨rfl,rfl⟩:=hI;refine an _ (fu _ _ _)<|an _ rfl<|bX (sl 5 bJ a0) (λhg=>rfl)<|bX (ε s1) (λhg=>rfl) ?_;refine tE (ω:=bB) (λx7=>(ZN (bJ x7))) (λhg x7 hx7=>by(try rw[hg]);exact xz hx7) (λx7 hx7=>?_);refine bX (ZN (bJ x7)) (λhg=>by(try rw[hg]);exact rfl)<|bX (Φ (aS x7.key)) (λhg=>by(try rw[hg]);exact rfl)<|bX (Φ (aS a1)) (λhg=>rfl)<|bX (Λ (((decide (x7.key.unit<a1.unit))||((decide (x7.key.unit=a1.unit))&&(WR x7.key.param.toList a1.param.toList))))) (λhg=>by(try rw[hg]);exact(eH (az6 (σ:=σ) (r:=((decide (x7.key.unit<a1.unit))||((decide (x7.key.unit=a1.unit))&&(WR x7.key.param.toList a1.param.toList)))) rfl)))<|an _ (mO _ _) ?_;refine gy (c:=((decide (s1<(a0.length:Int)))&&(((decide (x7.key.unit<a1.unit))||((decide (x7.key.unit=a1.unit))&&(WR x7.key.param.toList a1.param.toList)))))) (λc8=>?_) (λc8=>?_)
  ·refine an _ rfl ?_;exact bK (l7 ⟨rfl,rfl⟩)
  exact bK (afQ (by simp) rfl)
 ·intro b2 q hq;subst hq;refine gO rfl<|an _ (fu _ _ _)<|an _ rfl<|bX (sl 5 bJ a0) (λhg=>rfl)<|bX (ε b2) (λhg=>rfl) ?_;refine tE (ω:=bB) (λx9=>(ZN (bJ x9))) (λhg x9 Bu=>by(try rw[hg]);exact xz Bu) (λx9 Bu=>?_);refine bX (ZN (bJ x9)) (λhg=>by(try rw[hg]);exact rfl)<|bX (Φ (aS x9.key)) (λhg=>by(try rw[hg]);exact rfl)<|bX (Φ (aS a1)) (λhg=>rfl)<|bX (Λ (decide (x9.key=a1))) (λhg=>by(try rw[hg]);exact(R1 _ _))<|an _ (mO _ _) ?_;exact dI _ (bD _ _) ⟨rfl,rfl⟩
 ·intro b2 q hq;exact aC6 hq
end
theorem afn{i j:Nat}(h:i+j<9223372036854775808):A.shr (.int .u64 ((i+j:Nat):Int)) (.int .u64 1)=δ (.int .u64 (((i+j) / 2:Nat):Int)):=by simp only[A.shr];rw[aO (by decide)];congr 2;rw[show(2:Int) ^ (min (Int.toNat 1) aDL.bits)=2 from rfl,Int.fdiv_eq_ediv_of_nonneg _ (by decide)];omega
theorem aga{n:Nat}(h:n<9223372036854775808):A.conv .u64 (.ah (n:Int))=δ (.int .u64 (n:Int)):=by simp only[A.conv];congr 2;unfold IntKind.wrap;simp [IntKind.bits,IntKind.signed];omega
theorem af9{n:Nat}(h:n<9223372036854775808):A.conv ξ (.int .u64 (n:Int))=δ (.ah (n:Int)):=by simp only[A.conv];rw[cq (by unfold aY;omega)]
theorem avs{a b:Nat}(h:a+b<9223372036854775808):WE (.ah (a:Int)) (.ah (b:Int))=δ (.ah ((a+b:Nat):Int)):=by rw[nQ,cq (by unfold aY;omega)];simp
theorem Kc{a:Nat}(h:a+1<9223372036854775808):WE (.ah (a:Int)) (.ah 1)=δ (.ah ((a+1:Nat):Int)):=avs (b:=1) h
theorem Ky(a b:Nat):YY (.ah (a:Int)) (.ah (b:Int))=δ (.bool (decide (a<b))):=by rw[nw];have:((a:Int)<(b:Int))=(a<b):=propext ⟨λh=>by omega,λh=>by omega⟩;simp only[this]
theorem aAH(a:Int):YY (.ah a) (.ah 0)=δ (.bool (decide (a<0))):=by rw[nw]
theorem aAn{α:Type}{X Y:α}:(bif (Ξ 0==Ξ 0)then X else Y)=X:=rfl
theorem arT{f:aq->Heap->Option (AX×aq×Heap)}{σ:Heap}(pv:Nat->Nat->aq){v0:aq}{n p:Nat}(hp:p<=n)(h0:v0=pv 0 n)
  (hs:∀i j,i<j->j<=n->f (pv i j) σ=δ (.normal,if(i+j) / 2<p then pv ((i+j) / 2+1) j else pv i ((i+j) / 2),σ))
  (he:∀i,i<=n->f (pv i i) σ=δ (.exit 0,pv i i,σ)):Y7 f v0 σ=δ (.exit 0,pv p p,σ):=by
 subst h0
 have key:∀k i j,j-i<=k->i<=p->p<=j->j<=n->∃m,Xj f m (pv i j) σ=δ (.exit 0,pv p p,σ):=by
  intro k;induction k with
  |zero=>
   intro i j hk h1 h2 h3;have:i=p:=by omega
   have:j=p:=by omega
   subst i;subst j;exact vk (he p h3) (by simp)
  |succ k ih=>
   intro i j hk h1 h2 h3;by_cases hij:i<j
   ·have hstep:=hs i j hij h3;by_cases hh:(i+j) / 2<p
    ·rw[aP hh]at hstep;exact CR hstep (ih _ _ (by omega) (by omega) h2 h3)
    ·rw[aO hh]at hstep;exact CR hstep (ih _ _ (by omega) h1 (by omega) (by omega))
   ·have:i=p:=by omega
    have:j=p:=by omega
    subst i;subst j;exact vk (he p h3) (by simp)
 obtain⟨m,hm⟩:=key n 0 n (by omega) (by omega) hp (bN _);exact BF hm
theorem bsC{dyn:Nat->aq->Heap->aF}{l:List bA}{fn:Nat}{k:Int}{cv:bA->Int}{p:Nat}{σ:Heap}(hl:l.length<4611686018427387904)(hp:p<=l.length)
  (hd:∀x∈l,dyn fn [.agg (bg x),.ah k] σ=δ (.ah (cv x),σ)) (hc:∀h x,l[h]? =δ x->(cv x<0↔h<p)):
  Ix dyn [sl 11 bg l,.ah k,.fn fn []] σ=δ (.aM [.ah (p:Int),.bool ((l[p]?).any λx=>decide (cv x=0))],σ):=by
 refine wrap_eq rfl ?_ rfl;show Iy dyn (sl 11 bg l) (.ah k) (.fn fn []) σ=_;unfold Iy;rw[fu,aJ];rw[arT (v0:=[.ah 0,.ah (l.length:Int)]) (λi j=>[.ah (i:Int),.ah (j:Int)]) hp rfl ?_ ?_,aJ]
 ·simp only[aAn,dr,cH];rw[Ky,aJ];by_cases hpl:p<l.length
  ·have hx:l[p]? =δ l[p]:=cC hpl;have sP:=hd _ (dm hx);have jy:=lG 11 bg l hx;have hq:=eH (by show A.l8 dyn (.fn fn []) [.agg (bg l[p]),.ah k] σ=_;simp only[A.l8,VT];exact sP);simp only[cL hpl,η,beq_self_eq_true,cU,aJ,dr,cH,jy,χ,GC,Tv,Γ,VU,UD,hx,Option.any_some];show((Wi (A.l8 dyn (.fn fn []) [.agg (bg l[p]),.ah k] σ) σ).bind _)=_;rw[hq,aJ,jL];exact bD _ _
  ·have hx:l[p]? =μ:=rK (by omega);simp only[cO hpl,η,aJ,UD,hx,Option.any_none];exact bD _ _
 ·intro i j hij hj;have hlt:(i+j) / 2<l.length:=by omega
  have hx:l[(i+j) / 2]? =δ l[(i+j) / 2]:=cC hlt;have sP:=hd _ (dm hx);have jy:=lG 11 bg l hx;have hq:A.l8 dyn (.fn fn []) [.agg (bg l[(i+j) / 2]),.ah k] σ=δ (.ah (cv l[(i+j) / 2]),σ):=by simp only[A.l8,VT];exact sP
  simp only[dr,cH];rw[Ky,aJ,cL hij];simp only[φ,cU];rw[avs (by omega),aJ,aga (by omega),aJ,afn (by omega),aJ,af9 (by omega),aJ,jy,aJ];simp only[χ,aJ,GC,Tv];rw[hq,aJ,aAH,aJ];by_cases hh:(i+j) / 2<p
  ·have:=(hc _ _ hx).2 hh;rw[cL this,aP hh];simp only[cU,Kc (show(i+j) / 2+1<9223372036854775808 by omega),aJ];rfl
  ·have:¬(cv l[(i+j) / 2]<0):=λe=>hh ((hc _ _ hx).1 e)
   rw[cO this,aO hh];rfl
 ·intro i hi;simp only[dr,cH];rw[Ky,aJ,cO (aDH i)];rfl
section
section
variable {α γ R S B : Type}
theorem aqO{p:α->Bool}{l:List α}{body:Nat->α->Unit->Option (Lr Unit Unit Int)}{fin:Unit->Option Unit}{s:Unit}{K1:Unit->Option γ}{K2:Int->Option γ}(hl:l.length<=aZ)(hb:∀i x,l[i]? =δ x->body i x ()=δ (if p x=θ then .ret (i:Int)else .go ()))(hf:fin ()=δ ():=by rfl):kr l body fin s K1 K2=if iT p l=-1 then K1 ()else K2 (iT p l):=by
 rw[JM hl]
 have key:∀(rest pre:List α),l=pre++rest->(∀x∈pre,p x=ι)->oM body fin rest pre.length ()=δ (if iT p l=-1 then .inl ()else .inr (iT p l)):=by
  intro rest;induction rest with
  |nil=>
   intro pre hp hn;rw[VT]at hp;rcases td p l with⟨h1,_⟩|⟨k,x,h1,h2,_⟩
   ·simp [oM,hf,h1]
   ·have:=hn x (by rw[<-hp];exact dm h1);rw[h2]at this;cases this
  |cons x rest ih=>
   intro pre hp hn;have hx:l[pre.length]? =δ x:=by rw[hp];simp
   rw[oM,hb pre.length x hx,aJ];cases h:p x
   ·simp only[YQ,if_false]
    have:=ih (pre++[x]) (by simpa using hp) (λy hy=>by
     rcases jQ.1 hy with hy|hy
     ·exact hn y hy
     ·simp at hy;subst hy;exact h)
    simpa using this
   ·simp only[if_true]
    have e:iT p l=pre.length:=by
     rcases td p l with⟨h1,h2,_⟩|⟨k,y,h1,h2,h3,_,h5⟩
     ·have:=h2 x (dm hx);rw[h]at this;cases this
     ·rw[h3];rcases Nat.lt_trichotomy k pre.length with hk|hk|hk
      ·rw[hp,iS hk]at h1;have:=hn y (dm h1);rw[h2]at this;cases this
      ·omega
      ·have:=h5 pre.length x hk hx;rw[h]at this;cases this
    rw[aO (by omega),e]
 have k:=key l [] rfl (by simp);rw[UB]at k;rw[show s=()from rfl,k,aJ];split<;>rfl
end
theorem avO(l:List bA)(hl:l.length<=aZ)(n:Int):ML l n=δ (iT (λc=>decide (c.az=n)) l):=by
 unfold ML;rw[aqO (p:=λc=>decide (c.az=n)) hl (by intro i x _;simp only[decide_eq_true_eq,Gw])];split
 ·rename_i h;rw[h]
 ·rfl
end
def Zn(l:List gf):Prop:=l.Pairwise λa b=>gK a.key b.key=θ
structure Good (l : List bA) : Prop where
 len:l.length<=300
 num:∀c∈l,1<=c.az/\c.az<=9999999
 Ld:l.Pairwise λa b=>a.az<b.az
 mv:∀c∈l,c.dF.length<=2000/\Zn c.dF
 pts:∀c∈l,c.fM.br.length<=20
theorem VN{α:Type}[Inhabited α]{r:α->α->Prop}(tr:∀a b c,r a b->r b c->r a c):∀(l:List α),(∀i x,l[i+1]? =δ x->r (l[i]?.getD default) x)->l.Pairwise r
 |[],_=>VY
 |[a],_=>by simp
 |a::b::l,h=>by
  have ih:=VN tr (b::l) (λi x hx=>h (i+1) x hx);have hab:r a b:=h 0 b rfl;refine YE.2 ⟨λx hx=>?_,ih⟩;rcases jP.1 hx with rfl|hx
  ·exact hab
  ·exact tr _ _ _ hab ((YE.1 ih).1 x hx)
section
theorem afN{α:Type}[Inhabited α](l:List α)(i:Nat):pv l (i+1)=l[i]?.getD default:=by simp [pv,aC3]
theorem anP{l:List gf}(h:B7 l=0):Zn l:=by
 unfold B7 at h;refine VN (r:=λa b:gf=>gK a.key b.key=θ) (λa b c=>Gn) l λi x hx=>?_
 have:=(zi l 0).1 h (i+1) x hx;rw[YW]at this;unfold Cf at this;rw[<-afN];by_cases hq:gK (pv l (i+1)).key x.key=θ
 ·exact hq
 ·exfalso
  have e:(decide (0<((i+1:Nat):Int))&&!gK (pv l (i+1)).key x.key)=θ:=by rw[jW];exact⟨cL (by omega),by simpa using hq⟩
  rw[e]at this;repeat (first|(split at this;· cases this)|(simp at this;done)|(rename_i q;exact q rfl))
theorem MC{l:List bA}(h:pL l=0):Good l:=by
 unfold pL at h;by_cases h1:300<(l.length:Int)
 ·simp [h1]at h
 rw[aO h1]at h;by_cases h2:jR (vE l) l 0=0;case neg=>rw[aP h2]at h;exact absurd h h2
 have hc:∀i x,l[i]? =δ x->(1<=x.az/\x.az<=9999999)/\(0<i->(pv l i).az<x.az)/\x.dF.length<=2000/\B7 x.dF=0/\x.fM.br.length<=20:=by
  intro i x hx;have:=(zi l 0).1 h2 i x hx;rw[YW]at this;unfold vE at this;split at this
  ·cases this
  rename_i a1;split at this
  ·cases this
  rename_i a2;split at this
  ·cases this
  split at this
  ·cases this
  split at this
  ·rename_i a5;exact absurd this a5
  rename_i a5;split at this
  ·cases this
  rename_i a6
  have hpt:x.fM.br.length<=20:=by
   have a5:pK x.fM=0:=by simpa using a5
   unfold pK at a5;split at a5
   ·cases a5
   split at a5
   ·split at a5
    ·cases a5
    split at a5
    ·cases a5
    omega
   ·split at a5
    ·cases a5
    omega
  refine⟨by simpa [aT]using a1,λhi=>?_,by omega,this,hpt⟩;have hi':decide (0<(i:Int))=θ:=cL (by omega);rw[hi',aDh,decide_eq_true_eq]at a2;omega
 refine⟨by omega,λc sO=>?_,?_,λc sO=>?_,λc sO=>?_⟩
 ·obtain⟨i,hi⟩:=uy.1 sO;exact(hc i c hi).1
 ·refine VN (r:=λa b:bA=>a.az<b.az) (λa b c=>Int.lt_trans) l λi x hx=>?_
  rw[<-afN];exact(hc (i+1) x hx).2.1 (by omega)
 ·obtain⟨i,hi⟩:=uy.1 sO;exact⟨(hc i c hi).2.2.1,anP (hc i c hi).2.2.2.1⟩
 ·obtain⟨i,hi⟩:=uy.1 sO;exact(hc i c hi).2.2.2.2
def mE(l:List bA)(n:Int):Nat:=(l.takeWhile λc=>decide (c.az<n)).length
def sE(l:List bA)(n:Int):Bool:=l.any λc=>decide (c.az=n)
theorem afL(l:List bA)(n:Int):mE l n<=l.length:=(List.takeWhile_prefix _).length_le
theorem aAG{l:List bA}{n:Int}(h:l.Pairwise λa b=>a.az<b.az):∀{i:Nat}{x:bA},l[i]? =δ x->(x.az<n↔i<mE l n):=by
 induction l with
 |nil=>intro i x hx;simp at hx
 |cons a l ih=>
  intro i x hx;have hs:=YE.1 h;unfold mE;rw[List.takeWhile_cons];by_cases ha:a.az<n
  ·rw[cL ha];simp only[if_true,YZ];cases i with
   |zero=>simp at hx;subst hx;simp [ha]
   |succ i=>simp only[Y5]at hx;rw[ih hs.2 hx];unfold mE;omega
  ·rw[cO ha];simp only[YQ,if_false,UB,aCX,iff_false];cases i with
   |zero=>simp at hx;subst hx;exact ha
   |succ i=>simp only[Y5]at hx;have:=hs.1 x (dm hx);omega
theorem afK{l:List bA}{n:Int}(h:l.Pairwise λa b=>a.az<b.az) {i:Nat} {x:bA} (hx:l[i]? =δ x) (hn:x.az=n):mE l n=i:=by
 have h1:¬i<mE l n:=λq=>by have:=(aAG h hx).2 q;omega
 have h2:¬mE l n<i:=λq=>by
  have hp:mE l n<l.length:=Nat.lt_trans q (bG.1 hx).1;have hy:l[mE l n]? =δ l[mE l n]:=cC hp;have h3:¬l[mE l n].az<n:=λq'=>aDH _ ((aAG h hy).1 q')
  have h4:=List.pairwise_iff_getElem.1 h (mE l n) i hp (bG.1 hx).1 q;rw[(bG.1 hx).2,hn]at h4;exact h3 h4
 omega
theorem aeL{l:List bA}{n:Int}(h:l.Pairwise λa b=>a.az<b.az):((l[mE l n]?).any λx=>decide (x.az=n))=sE l n:=by
 rw[pM];constructor
 ·intro e;cases hx:l[mE l n]? with
  |none=>rw[hx]at e;cases e
  |some x=>rw[hx]at e;exact VK.2 ⟨x,dm hx,e⟩
 ·intro e;obtain⟨x,hm,hk⟩:=VK.1 e;have hk:=of_decide_eq_true hk;obtain⟨i,hi⟩:=uy.1 hm;rw[afK h hi hk,hi];simp [hk]
theorem arU{f:aq->Heap->Option (AX×aq×Heap)}{σ:Heap}(pv:Nat->Nat->aq){v0:aq}{n:Nat}(h0:v0=pv 0 n)(q:Nat->Bool)
  (hs:∀i j,i<j->j<=n->f (pv i j) σ=δ (.normal,if q ((i+j) / 2)=θ then pv ((i+j) / 2+1) j else pv i ((i+j) / 2),σ))
  (he:∀i,i<=n->f (pv i i) σ=δ (.exit 0,pv i i,σ)):∃p,p<=n/\Y7 f v0 σ=δ (.exit 0,pv p p,σ):=by
 subst h0
 have key:∀k i j,j-i<=k->i<=j->j<=n->∃p,p<=n/\∃m,Xj f m (pv i j) σ=δ (.exit 0,pv p p,σ):=by
  intro k;induction k with
  |zero=>
   intro i j hk h1 h3;have:i=j:=by omega
   subst i;exact⟨j,h3,vk (he j h3) (by simp)⟩
  |succ k ih=>
   intro i j hk h1 h3;by_cases hij:i<j
   ·have hstep:=hs i j hij h3;by_cases hh:q ((i+j) / 2)=θ
    ·rw[aP hh]at hstep;obtain⟨p,hp,hm⟩:=ih _ _ (by omega) (show(i+j) / 2+1<=j by omega) h3;exact⟨p,hp,CR hstep hm⟩
    ·rw[aO hh]at hstep;obtain⟨p,hp,hm⟩:=ih i ((i+j) / 2) (by omega) (by omega) (by omega);exact⟨p,hp,CR hstep hm⟩
   ·have:i=j:=by omega
    subst i;exact⟨j,h3,vk (he j h3) (by simp)⟩
 obtain⟨p,hp,m,hm⟩:=key n 0 n (by omega) (by omega) (bN _);exact⟨p,hp,BF hm⟩
theorem arS{β:Type}{f:aq->Heap->Option (AX×aq×Heap)}{σ:Heap}{K:AX×aq×Heap->Option β}{r:Nat->β}(pv:Nat->Nat->aq){v0:aq}{n:Nat}(h0:v0=pv 0 n)(q:Nat->Bool)
  (hs:∀i j,i<j->j<=n->f (pv i j) σ=δ (.normal,if q ((i+j) / 2)=θ then pv ((i+j) / 2+1) j else pv i ((i+j) / 2),σ))
  (he:∀i,i<=n->f (pv i i) σ=δ (.exit 0,pv i i,σ)) (hK:∀p,p<=n->K (.exit 0,pv p p,σ)=δ (r p)):∃p,p<=n/\(Y7 f v0 σ).bind K=δ (r p):=by
 obtain⟨p,hp,h⟩:=arU pv h0 q hs he;exact⟨p,hp,by rw[h,aJ,hK p hp]⟩
theorem atZ{dyn:Nat->aq->Heap->aF}{l:List bA}{fn:Nat}{k:Int}{cv:bA->Int}{σ:Heap}(hl:l.length<4611686018427387904)
  (hd:∀x∈l,dyn fn [.agg (bg x),.ah k] σ=δ (.ah (cv x),σ)) (hc:∀x∈l,cv x≠0):
  ∃p:Nat,p<=l.length/\Ix dyn [sl 11 bg l,.ah k,.fn fn []] σ=δ (.aM [.ah (p:Int),.bool ι],σ):=by
 suffices h:∃p:Nat,p<=l.length/\Iy dyn (sl 11 bg l) (.ah k) (.fn fn []) σ=δ (.aM [.ah (p:Int),.bool ι],σ) by obtain⟨p,hp,h⟩:=h;exact⟨p,hp,wrap_eq rfl h rfl⟩
 unfold Iy;rw[fu,aJ];refine arS (v0:=[.ah 0,.ah (l.length:Int)]) (r:=λp=>((Yu [.ah (p:Int),.bool ι],σ):AV×Heap)) (λi j=>[.ah (i:Int),.ah (j:Int)]) rfl (λh=>((l[h]?).any λx=>decide (cv x<0))) (λi j hij hj=>?_) (λi hi=>?_) (λp hp=>?_)
 ·have hlt:(i+j) / 2<l.length:=by omega
  have hx:l[(i+j) / 2]? =δ l[(i+j) / 2]:=cC hlt;have sP:=hd _ (dm hx);have jy:=lG 11 bg l hx;have hq:A.l8 dyn (.fn fn []) [.agg (bg l[(i+j) / 2]),.ah k] σ=δ (.ah (cv l[(i+j) / 2]),σ):=by simp only[A.l8,VT];exact sP
  simp only[dr,cH];rw[Ky,aJ,cL hij];simp only[φ,cU];rw[avs (by omega),aJ,aga (by omega),aJ,afn (by omega),aJ,af9 (by omega),aJ,jy,aJ];simp only[χ,aJ,GC,Tv];rw[hq,aJ,aAH,aJ];simp only[hx,Option.any_some];by_cases hh:cv l[(i+j) / 2]<0
  ·rw[cL hh];simp only[cU,if_true,Kc (show(i+j) / 2+1<9223372036854775808 by omega),aJ];rfl
  ·rw[cO hh];rfl
 ·simp only[dr,cH];rw[Ky,aJ,cO (aDH i)];rfl
 ·simp only[aAn,dr,cH];rw[Ky,aJ];by_cases hpl:p<l.length
  ·have hx:l[p]? =δ l[p]:=cC hpl;have sP:=hd _ (dm hx);have hne:=hc _ (dm hx);have jy:=lG 11 bg l hx;have hq:=eH (by show A.l8 dyn (.fn fn []) [.agg (bg l[p]),.ah k] σ=_;simp only[A.l8,VT];exact sP);simp only[cL hpl,η,beq_self_eq_true,cU,aJ,dr,cH,jy,χ,GC,Tv,Γ,VU,UD];show((Wi (A.l8 dyn (.fn fn []) [.agg (bg l[p]),.ah k] σ) σ).bind _)=_;rw[hq,aJ,jL,cO hne];exact bD _ _
  ·simp only[cO hpl,η,aJ,UD];exact bD _ _
structure agS (l : List bA) : Prop where
 len:l.length<=300
 num:∀c∈l,1<=c.az/\c.az<=9999999
 Ld:l.Pairwise λa b=>a.az<b.az
theorem Good.n{l:List bA}(h:Good l):agS l:=⟨h.len,h.num,h.Ld⟩
theorem atj{l:List bA}(hg:agS l){n:Int}(hn:aY n)(σ:Heap):∃p:Nat,Je [sl 11 bg l,.ah n] σ=δ (.aM [.ah (p:Int),.bool (sE l n)],σ)/\p<=l.length/\((1<=n\/sE l n=θ)->p=mE l n):=by
 have hlen:l.length<4611686018427387904:=by have:=hg.len;omega
 have hd:∀x∈l,Zw (λ_ _=>μ) [(177,Ga)] 177 [.agg (bg x),.ah n] σ=δ (.ah (ξ.wrap (x.az-n)),σ):=λx _=>akz (r:=ξ.wrap (x.az-n)) rfl
 have wr:∀{p:Nat}{b:Bool},Ix (Zw (λ_ _=>μ) [(177,Ga)]) [sl 11 bg l,.ah n,.fn 177 []] σ=δ (.aM [.ah (p:Int),.bool b],σ)->
   Je [sl 11 bg l,.ah n] σ=δ (.aM [.ah (p:Int),.bool b],σ):=by
  intro p b h;refine wrap_eq rfl ?_ rfl;rw[show TQ [Sh.e 11 [.k,.k,.k,.k,.k,.k,.k,.s 2,.k,.k,.s 8]] [sl 11 bg l,.ah n]=[sl 11 bg l,.ah n]from dO (mT (λ_=>rfl) _) rfl];show Qv (sl 11 bg l) (.ah n) σ=_;unfold Qv;rw[h,aJ];exact bD _ _
 by_cases azO:-4611686018427387904<=n
 ·refine⟨mE l n,wr ?_,afL _ _,λ_=>rfl⟩
  have hw:∀x∈l,ξ.wrap (x.az-n)=x.az-n:=λx hx=>by have:=hg.num x hx;unfold aY at hn;exact cq (by unfold aY;omega)
  rw[bsC (cv:=λx=>ξ.wrap (x.az-n)) (p:=mE l n) hlen (afL _ _) hd ?_]
  ·rw[<-aeL hg.Ld];congr 4;cases hx:l[mE l n]? with
   |none=>rfl
   |some x=>simp only[Option.any_some];rw[hw x (dm hx),show decide (x.az-n=0)=decide (x.az=n)from decide_eq_decide.2 (by omega)]
  ·intro h x hx;rw[hw x (dm hx),<-aAG hg.Ld hx];omega
 ·have hno:sE l n=ι:=by rw[Bool.eq_false_iff];intro e;obtain⟨x,hx,hk⟩:=VK.1 e;have:=hg.num x hx;have:=of_decide_eq_true hk;omega
  obtain⟨p,hp,h⟩:=atZ hlen hd (λx hx e=>by
   have ahM:=hg.num x hx;unfold aY at hn
   have h2:ξ.wrap (x.az-n)=x.az-n\/ξ.wrap (x.az-n)=x.az-n-18446744073709551616:=by
    by_cases hh:x.az-n<9223372036854775808
    ·exact .inl (cq (by unfold aY;omega))
    ·right;unfold IntKind.wrap;simp [IntKind.bits,IntKind.signed];omega
   rcases h2 with h2|h2<;>rw[h2]at e<;>omega)
  exact⟨p,by rw[hno];exact wr h,hp,λq=>by
   rcases q with q|q
   ·omega
   ·rw[hno]at q;cases q⟩
theorem atk{l:List bA}(hg:Good l){n:Int}(hn:aY n)(σ:Heap):∃p:Nat,Je [sl 11 bg l,.ah n] σ=δ (.aM [.ah (p:Int),.bool (sE l n)],σ)/\p<=l.length/\((1<=n\/sE l n=θ)->p=mE l n):=atj hg.n hn σ
section
variable {α R γ S B : Type}
theorem ap8{l:List α}{pr:α->Bool}{body:Int->Option (Lr Int Int R)}{K1:Int->Option γ}{K2:R->Option γ}(hb:∀(i:Nat) x,l[i]? =δ x->body (i:Int)=δ (if pr x=θ then .go ((i+1:Nat):Int)else .brk (i:Int)))
  (he:body (l.length:Int)=δ (.brk (l.length:Int))) {s:Int} (h0:s=0):Pj body s K1 K2=K1 ((l.takeWhile pr).length:Int):=by
 subst h0
 have key:∀(k i:Nat),l.length-i<=k->i<=l.length->za body (i:Int)=δ (.inl ((i+((l.drop i).takeWhile pr).length:Nat):Int)):=by
  intro k;induction k with
  |zero=>
   intro i hk hle;have:i=l.length:=by omega
   subst this;rw[WW,he,aJ,ZT (bN _)];rfl
  |succ k ih=>
   intro i hk hle;by_cases hi:i<l.length
   ·have hx:l[i]? =δ l[i]:=cC hi;rw[WW,hb i _ hx,aJ,UG hi,List.takeWhile_cons];cases h:pr l[i]
    ·simp
    ·simp only[if_true,YZ];rw[ih (i+1) (by omega) (by omega)];congr 3;omega
   ·have:i=l.length:=by omega
    subst this;rw[WW,he,aJ,ZT (bN _)];rfl
 have k:=key l.length 0 (by omega) (by omega);simp only[YW,Zz]at k;show Pj body ((0:Nat):Int) K1 K2=_;rw[Pj,k];rfl
theorem afT{l:List α}{i:Nat}{x:α}(h:l[i]? =δ x):pU l (i:Int)=δ x:=MK (by omega) (by simpa using h)
end
end
section
open HP
def Lt(σ:Heap)(sh:Sh)(v t:AV):Prop:=(∃v',X4 σ 0 8 v=δ v'/\A.own v'=ι/\Y9 sh v'=Y9 sh t)/\A.own t=ι/\(A.own v=ι->Y9 sh v=Y9 sh t)
def KC(σ:Heap):List Sh->aq->aq->Prop
 |_,[],[]=>True
 |[],a::eD,t::ts=>Lt σ .k a t/\KC σ [] eD ts
 |s::ss,a::eD,t::ts=>Lt σ s a t/\KC σ ss eD ts
 |_,_,_=>False
theorem jr(v:AV):Y9 .k v=v:=by simp [Y9]
theorem S7{σ:Heap}:∀{ss:List Sh}{eD ts:aq},KC σ ss eD ts->(∃Fa,A.gP σ 0 8 eD=δ Fa/\Fa.any A.own=ι/\TQ ss Fa=TQ ss ts)/\ts.any A.own=ι/\(eD.any A.own=ι->TQ ss eD=TQ ss ts)
 |ss,[],[],_=>⟨⟨[],by simp [A.gP],rfl,rfl⟩,rfl,λ_=>rfl⟩
 |[],a::eD,t::ts,h=>by obtain⟨⟨⟨v',h1,h2,h3⟩,h4,h5⟩,h6⟩:=h;obtain⟨⟨Fa,k1,k2,k3⟩,k4,k5⟩:=S7 h6;rw[jr,jr]at h3;simp only[TQ]at k3 k5;refine⟨⟨v'::Fa,by simp [A.gP,h1,k1],by simp [h2,k2],by simp [TQ,h3,k3]⟩,by simp [h4,k4],λh=>?_⟩;simp only[List.any_cons,qw]at h;have:=h5 h.1;rw[jr,jr]at this;simp [TQ,this,k5 h.2]
 |s::ss,a::eD,t::ts,h=>by obtain⟨⟨⟨v',h1,h2,h3⟩,h4,h5⟩,h6⟩:=h;obtain⟨⟨Fa,k1,k2,k3⟩,k4,k5⟩:=S7 h6;refine⟨⟨v'::Fa,by simp [A.gP,h1,k1],by simp [h2,k2],by simp [TQ,h3,k3]⟩,by simp [h4,k4],λh=>?_⟩;simp only[List.any_cons,qw]at h;simp [TQ,h5 h.1,k5 h.2]
 |_,[],_::_,h=>by cases h
 |[],_::_,[],h=>by cases h
 |_::_,_::_,[],h=>by cases h
theorem Bb{fN:List Sh}{iU:Sh}{r:aq->Heap->aF}{eD ts:aq}{σ:Heap}{v:AV}(h:KC σ fN eD ts)(e:∀σ,Ω θ fN iU r ts σ=δ (v,σ))(hs:A.Ht v=θ):Ω θ fN iU r eD σ=δ (v,σ):=by
 obtain⟨⟨Fa,k1,k2,k3⟩,k4,k5⟩:=S7 h;cases ho:eD.any A.own
 ·rw[RU (k5 ho) ho k4];exact e σ
 ·exact ae4 ho k1 k2 (by rw[RU k3 k2 k4];exact e []) hs
theorem E5{σ:Heap}{sh:Sh}{v:AV}(h:Fz v)(ho:A.own v=ι):Lt σ sh v v:=⟨⟨v,h σ 0 8,ho,rfl⟩,ho,λ_=>rfl⟩
theorem R5{σ:Heap}(n:Int):Lt σ .k (.ah n) (.ah n):=E5 (eE _ _) rfl
section
variable {α : Type} {c : α -> aq} {sz : Nat} {B : aW -> Prop} {aL σ : Heap} {R : HP} {v : AV} {l : List α}
theorem xZ(H:Hs B aL σ (Sl (fl c) sz v l*R)):(l=[]/\(v=.aA\/v=.ez)/\Hs B aL σ R)\/∃id g,v=.os id g sz 0 l.length/\Hs B aL σ (blk id (.arr g sz (l.map c))*R):=by
 rcases AD H with h|⟨id,g,seg,rfl,hl,H⟩
 ·exact .inl h
 ·have K:=RZ.1 (eS (show _=els (fl c) seg l*(blk id (.arr g sz seg)*R) by ac_rfl) H);obtain⟨rfl,K⟩:=K;exact .inr ⟨id,g,rfl,K⟩
theorem MT{id g:Nat}{n:Nat}(H:Hs B aL σ (blk id (.arr g sz (l.map c))*R))(hn:n=l.length:=by rfl):Hs B aL σ (Sl (fl c) sz (.os id g sz 0 n) l*R):=
 GR (id:=id) (g:=g) (seg:=l.map c) (eS (show els (fl c) (l.map c) l*(blk id (.arr g sz (l.map c))*R)=_ by ac_rfl) (RZ.2 ⟨rfl,H⟩)) hn
theorem R3(hc:∀x,kF (c x)){id g:Nat}(h:σ[id]? =δ (.arr g sz (l.map c))){n:Nat}(hn:¬id<n)(d:Nat):X4 σ n (d+1) (.os id g sz 0 l.length)=δ (sl sz c l):=by simp only[X4,aO hn,h];rw[aP (by simp),Zz,n9 (by simp),Gv,Sw hc];rfl
theorem GO(H:Hs B aL σ (Sl (fl c) sz v l*R))(hc:∀x,kF (c x)){n:Nat}(hn:n<=aL.length)(d:Nat):∃v',X4 σ n (d+1) v=δ v'/\A.Zi v'=ι/\Y9 (.s sz) v'=sl sz c l:=by
 rcases xZ H with⟨rfl,rfl|rfl,_⟩|⟨id,g,rfl,K⟩
 ·exact⟨.aA,by simp [X4],rfl,rfl⟩
 ·exact⟨.ez,by simp [X4],rfl,rfl⟩
 ·obtain⟨h1,h2⟩:=jO K;exact⟨_,R3 hc h2 (by omega) d,rfl,rfl⟩
theorem MQ{P:HP}(H:Hs B aL σ P):Hs dV aL σ P:=⟨by obtain⟨bs,h,_⟩:=H.pre;exact⟨bs,h,λ_ _=>trivial⟩,H.own⟩
end
section
variable {α : Type} {E : aq -> α -> HP} {sz : Nat} {aL σ : Heap} {R : HP} {v : AV} {l : List α}
end
def au8(x:bA)(vp vm:AV):aq:=[.ah x.az,.str x.title,.ah x.cB,.ah x.up,.ah x.down,.ah x.other,.ah x.fM.kind,vp,.bool x.block,.ah x.eM,vm]
def Cg:List Sh:=[.k,.k,.k,.k,.k,.k,.k,.s 2,.k,.k,.s 8]
section
variable {B : aW -> Prop} {aL σ : Heap} {R : HP} {M : AV -> List gf -> HP} {e : aq} {x : bA}
variable {v : AV} {l : List bA}
theorem al5(l:List bA):Y9 (.e 11 Cg) (sl 11 bg l)=sl 11 bg l:=mT (λ_=>rfl) l
end
end
section
open HP
theorem aft{α:Type}{f:aq->Heap->Option LS}{Q:LS->Prop}(l:List α)(I:Nat->aq->Heap->Prop){v0:aq}{σ:Heap}
  (hstep:∀i x v σ,l[i]? =δ x->I i v σ->∃v' σ',f v σ=δ (.normal,v',σ')/\I (i+1) v' σ')
  (hend:∀v σ,I l.length v σ->∃q,f v σ=δ q/\q.1≠.normal/\Q q) (h0:I 0 v0 σ):∃q,Y7 f v0 σ=δ q/\Q q:=by
 have key:∀(k i:Nat)v σ,l.length-i<=k->i<=l.length->I i v σ->∃q,(∃n,Xj f n v σ=δ q)/\Q q:=by
  intro k;induction k with
  |zero=>
   intro i v σ hk hle hI;have:i=l.length:=by omega
   subst this;obtain⟨q,h1,h2,h3⟩:=hend v σ hI;exact⟨q,vk h1 h2,h3⟩
  |succ k ih=>
   intro i v σ hk hle hI;by_cases hi:i<l.length
   ·obtain⟨v',σ',h1,h2⟩:=hstep i _ v σ (cC hi) hI;obtain⟨q,hq,hQ⟩:=ih (i+1) v' σ' (by omega) (by omega) h2;exact⟨q,CR h1 hq,hQ⟩
   ·have:i=l.length:=by omega
    subst this;obtain⟨q,h1,h2,h3⟩:=hend v σ hI;exact⟨q,vk h1 h2,h3⟩
 obtain⟨q,⟨n,hn⟩,hQ⟩:=key _ 0 v0 σ (bN _) (kW _) h0;exact⟨q,BF hn,hQ⟩
theorem EW{β:Type}{f:aq->Heap->Option LS}{K:LS->Option β}{v0:aq}{σ:Heap}{P:β->Prop}{Q:LS->Prop}(h:∃q,Y7 f v0 σ=δ q/\Q q)(k:∀q,Q q->∃b,K q=δ b/\P b):∃b,(Y7 f v0 σ).bind K=δ b/\P b:=by obtain⟨q,h1,h2⟩:=h;obtain⟨b,h3,h4⟩:=k q h2;exact⟨b,by rw[h1];exact h3,h4⟩
section
variable {α : Type} {c : α -> aq} {sz : Nat} {B : aW -> Prop} {aL σ : Heap} {R : HP} {v : AV} {l : List α}
theorem Rz{most:Nat}{m r:aq->Heap->aF}{r0:AV->Heap->aF}(hm:m=A.xu (Ω θ [(.s sz)] .k (YR r0)))(hr:∀a σ,r0 a σ=(A.wO a .aA).bind λx1=>φ x1 (δ (.aA,σ)) ((WK sz most .ez a σ).bind λr2=>δ (r2.1,r2.2)))
  (hl:l.length<=most) (hB:∀g g' seg,(seg=[]\/B (.arr g sz seg))->B (.arr g' sz (seg++l.map c))) (H:Hs B aL σ R):∃v σ',m [sl sz c l] σ=δ (v,σ')/\Ψ v=δ v/\Hs B aL σ' (Sl (fl c) sz v l*R):=by
 subst hm;cases l with
 |nil=>exact⟨.ez,σ,rfl,rfl,sV H (.inr rfl)⟩
 |cons x l=>
  obtain⟨v',σ',e1,H2⟩:=J6 (B:=B) (E:=fl c) (sz:=sz) (v:=.ez) (l:=[]) (ys:=(x::l).map c) (xs:=x::l) (most:=most) (sV (RZ.2 ⟨rfl,H⟩) (.inr rfl)) (by simpa using hl) hB
  have hv:Ψ v'=δ v':=by
   rcases xZ H2 with⟨h,_,_⟩|⟨id,g,rfl,_⟩
   ·cases h
   ·rfl
  refine⟨v',σ',?_,hv,H2⟩;show Ω θ [(.s sz)] .k (YR r0) [sl sz c (x::l)] σ=_;refine wrap_eq rfl ?_ rfl;show r0 (sl sz c (x::l)) σ=_;rw[hr,show A.wO (sl sz c (x::l)) .aA=δ (.bool ι)from rfl,aJ,dD,show sl sz c (x::l)=.sl sz ((x::l).map c)from rfl,e1];rfl
end
section
variable {aL σ : Heap} {R : HP}
theorem awV{l:List bA}(hl:l.length<=1099511627776)(H:Hs dV aL σ R):∃v σ',PE [sl 11 bg l] σ=δ (v,σ')/\Ψ v=δ v/\Hs dV aL σ' (Sl (fl bg) 11 v l*R):=
 Rz (most:=140737488355328 / 128) (r:=λ_ _=>μ) rfl (λ_ _=>rfl) (by simpa using hl) (λ_ _ _ _=>trivial) H
end
end
section
open HP
theorem qt{f:aq->Heap->Option LS}{Q:LS->Prop}(I:Nat->aq->Heap->Prop)(hstep:∀n v σ,I n v σ->(∃m v' σ',m<n/\f v σ=δ (.normal,v',σ')/\I m v' σ')\/∃q,f v σ=δ q/\q.1≠.normal/\Q q){n:Nat}{v0:aq}{σ:Heap}(h0:I n v0 σ):∃q,Y7 f v0 σ=δ q/\Q q:=by
 have key:∀(k n:Nat)v σ,n<=k->I n v σ->∃q,(∃m,Xj f m v σ=δ q)/\Q q:=by
  intro k;induction k with
  |zero=>
   intro n v σ hn hI;rcases hstep n v σ hI with⟨m,_,_,hm,_⟩|⟨q,h1,h2,h3⟩
   ·omega
   ·exact⟨q,vk h1 h2,h3⟩
  |succ k ih=>
   intro n v σ hn hI;rcases hstep n v σ hI with⟨m,v',σ',hm,h1,h2⟩|⟨q,h1,h2,h3⟩
   ·obtain⟨q,hq,hQ⟩:=ih m v' σ' (by omega) h2;exact⟨q,CR h1 hq,hQ⟩
   ·exact⟨q,vk h1 h2,h3⟩
 obtain⟨q,⟨m,hm⟩,hQ⟩:=key n n v0 σ (bN _) h0;exact⟨q,BF hm,hQ⟩
theorem gT(X d:Option AV):η (.bool θ) θ X d=X:=by have h:η (.bool θ) θ X d=X:=rfl;exact h.trans (Eq.refl X)
theorem gF(X d:Option AV):η (.bool ι) ι X d=X:=by have h:η (.bool ι) ι X d=X:=rfl;exact h.trans (Eq.refl X)
theorem xP(X d:Option AV):η (.bool ι) θ X d=d:=by have h:η (.bool ι) θ X d=d:=rfl;exact h.trans (Eq.refl d)
theorem Cv(X d:Option AV):η (.bool θ) ι X d=d:=by have h:η (.bool θ) ι X d=d:=rfl;exact h.trans (Eq.refl d)
theorem bS{α β:Type}(a:α)(f:α->Option β):(δ a).bind f=f a:=by have h:(δ a).bind f=f a:=rfl;exact h.trans (Eq.refl (f a))
theorem qG(cs:aq)(σ:Heap):χ (.rp cs) σ=δ cs:=by have h:χ (.rp cs) σ=δ cs:=rfl;exact h.trans (Eq.refl _)
theorem qj(n:Nat){α:Type}{X Y:α}:(bif (Ξ n==Ξ n)then X else Y)=X:=by rw[show(Ξ n==Ξ n)=θ from beq_self_eq_true _];rfl
theorem qM(x y:AV):UD (.bool ι) x y=δ y:=rfl
theorem qm(x y:AV):UD (.bool θ) x y=δ x:=rfl
theorem axN:Wk (.bool θ)=δ (.bool ι):=rfl
end
section
open HP
section
variable {aL σ : Heap} {R : HP}
theorem MN{v v':AV}(H:Hs dV aL σ R)(h:X4 σ aL.length 8 v=δ v')(hv:σ=aL->v'=v):wh aL v σ=δ (v',aL):=by
 obtain⟨⟨bs,rfl,_⟩,_⟩:=H;by_cases oU:bs=[]
 ·subst oU;rw[VT]at h ⊢;rw[bD,hv (by simp)]
 ·unfold wh;rw[aO (by simpa using oU),aP (by simp),h];rfl
end
end
section
open HP
def Inv(k:Nat)(l:List bA):Prop:=l.length<=1000/\∀c∈l,Zn c.dF/\c.dF.length<=2000+k
section
variable {aL σ : Heap} {R : HP}
theorem ace{α β:Type}(f:β->α->β)(b:β)(l:List α){i:Nat}{x:α}(h:l[i]? =δ x):(l.take (i+1)).foldl f b=f ((l.take i).foldl f b) x:=by rw[TC,h,aDy,List.foldl_append];rfl
end
end
section
open HP
section
variable {α β : Type} {E : aq -> β -> HP} {f : α -> β} {B : aW -> Prop} {aL σ : Heap} {R : HP} {sz : Nat} {v : AV}
end
section
variable {aL σ : Heap} {R : HP} {v : AV}
theorem XM{α:Type}{c:α->aq}{sz:Nat}{l:List α}{vm:AV}(hc:∀x,kF (c x))(H:Hs dV aL σ (Sl (fl c) sz vm l*R)):Lt σ (.s sz) vm (sl sz c l):=by
 obtain⟨v',h1,h2,h3⟩:=GO H hc (kW _) 7;refine⟨⟨v',h1,?_,by rw[h3];rfl⟩,rfl,λho=>?_⟩
 ·rcases xZ H with⟨rfl,rfl|rfl,_⟩|⟨id,g,rfl,K⟩
  ·simp [X4]at h1;subst h1;rfl
  ·simp [X4]at h1;subst h1;rfl
  ·cases v'<;>first|rfl|(cases h2;done)|(simp only[Y9]at h3;cases h3)
 ·rcases xZ H with⟨rfl,rfl|rfl,_⟩|⟨id,g,rfl,K⟩
  ·rfl
  ·rfl
  ·cases ho
end
end
section
open HP
theorem afo{l:List bA}{n:Int}(hg:Good l)(h:sE l n=θ):∃x,l[mE l n]? =δ x/\x.az=n:=by
 rw[<-aeL hg.Ld]at h;cases hx:l[mE l n]? with
 |none=>rw[hx]at h;cases h
 |some x=>rw[hx]at h;exact⟨x,rfl,by simpa using h⟩
theorem lV(a b:AV):Yn 0 (.aM [a,b])=δ a:=rfl
theorem ext1(a b:AV):Yn 1 (.aM [a,b])=δ b:=rfl
theorem afw(l:List bA)(eD:aq):TQ [Sh.e 11 Cg] (sl 11 bg l::eD)=sl 11 bg l::eD:=dO (al5 l) rfl
theorem Ym(a:Int):UP .i (.ah a) (.ah 0)=δ (.bool (decide (¬(a=0)))):=by rw[fV]
end
end
end Go.Proofs.YtooknfkholjpbaaGreat
