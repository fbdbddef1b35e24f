/- Parts of the proof of StampEventTextsComeBack, in order. -/
import Derived.Deep.Slices
import Derived.Deep.DeepHandedRow
import Derived.Shelf.Vars
import Derived.Test.YtpcafbmnjchmcaaGreatDoorKStampEventTextsComeBack4
namespace Go.Proofs.YtpcafbmnjchmcaaGreatDoor
set_option linter.unusedVariables false
set_option linter.unusedSimpArgs false
set_option linter.unusedSectionVars false
set_option maxRecDepth 1000000
noncomputable section
open A renaming pick->i6,fin->Ξ,ext->p4,quiet->p6,neq->XQ,eql->p5,aU->ZY,guard->ι,cond->φ
open Bool renaming false->ξ,true->θ
open List renaming all_cons->Z4,range'_succ->alK,length_map->Yo,getD->ZC,length_append->W0,range'->YT,mem_cons_self->Xl,length_cons->l8,range_eq_range'->YC,map->Yc
open Nat renaming sub_self->alV,zero_add->Zm,le_trans->XA,le_succ_of_le->YE
open List.cons renaming injEq->ZX
open _root_.Array renaming getElem?_eq_none->alk
open U renaming ah->η
open Go.World renaming cell?->ZV
open Go.DataW renaming trod_struct->WH
open IntKind renaming i64->ε
open Option renaming some->δ,none->μ
section
open Lib
theorem SC{a:bF}(h:Dw a):(sO a).length<=100:=by
 have hw:=RN a.kind;unfold sO jO;by_cases h8:a.kind=8
 ·have hlv:=h.zX (.inr h8);have hn:=C6 (v:=a.level.toNat) (by omega);rw[aE h8];simp [tl,Hr];omega
 rw[aD h8];by_cases h9:a.kind=9
 ·rw[aE h9];show((if a.level=1 then Hq else Ht)++tl []).length<=100;split<;>simp [tl,Hq,Ht]
 rw[aD h9];have hk:a.kind<8:=by have:=h.kind;omega
 have hp:=h.NO hk;have hd:=nD (u:=a.bB.toNat) (k:=9) (by omega) (by decide);unfold vX;by_cases h3:a.kind=3
 ·have hn:=S2 (h.gf h3);rw[aE h3];simp [tl];omega
 rw[aD h3];by_cases h6:a.kind=6
 ·have hlv:=h.rel h6;have hn:=Mn (t:=a.level.toNat) (by omega);rw[aE h6];simp [tl];omega
 rw[aD h6];by_cases h7:a.kind=7
 ·have hlv:=h.zX (.inl h7);have hn:=C6 (v:=a.level.toNat) (by omega);rw[aE h7];simp [tl];omega
 rw[aD h7];simp [tl];omega
theorem aem{r:Int}{e:cV}(h:zf r e):(uE r e).length<=112:=by have:=SC h.act;unfold uE;rw[W0,Mj,Tr,l8];omega
theorem SI{r:Int}:∀{l:List cV},(∀e∈l,zf r e)->(pP r l).length<=l.length*113
 |[],_=>by simp [pP,lW]
 |e::l,h=>by
  have h1:=aem (h e Xl);have h2:=SI λx hx=>h x (nL _ hx)
  unfold pP at h2 ⊢;rw[fH,lW,W0,l8,l8,fU];omega
theorem SJ{r:Int}(hr:me r=θ):∀l:List cV,(∀e∈l,zf r e)->yZ r (l.map cE)=δ (pP r l)
 |[],_=>rfl
 |e::l,h=>by
  have he:=h e Xl;obtain⟨k,_⟩:=L3 hr he.bz.1 he.bz.2;obtain⟨g1,g2,g3,g4⟩:=TK k;have e1:=ajd (σ:=[]) (acL hr he.bz.1 he.bz.2);have e2:=ake (σ:=[]) (afV (r:=r) (x:=⟨mW r (cB r e.bz),stM r (cB r e.bz),mX r (cB r e.bz),mV r (cB r e.bz)⟩) g1 g2 g3 g4);have e3:=akH (σ:=[]) (Zg he.act);have ih:=SJ hr l λx hx=>h x (nL _ hx)
  have hlen:=SC he.act
  have hsz:(bZ (jd r (mW r (cB r e.bz)) (stM r (cB r e.bz)) (mX r (cB r e.bz)) (mV r (cB r e.bz)))).size+(bZ (sO e.action)).size<=1000000:=by rw[dJ,dJ,Mj];omega
  rw[fH];generalize l.map cE=R at ih ⊢;unfold iT at e1 e2;unfold dS at e3;unfold cE;rw[yZ,e1];simp only[e2,e3,aE hsz,ih,fB];congr 1;rw[nG,nG];unfold pP;rw[fH,lW];unfold uE;rw[Tr];simp
theorem P9{s:dM}{r:Int}{l:List cV}(hs:tX s)(hl:l.length<=bu):
  (oI s r l≠0/\tI [.agg (dQ s),.ah r,sl 6 cE l] []=δ (.az [.str ⟨#[]⟩,.ah (oI s r l)],[]))\/
  (oI s r l=0/\(pP r l).length<=600000/\tI [.agg (dQ s),.ah r,sl 6 cE l] []=δ (.az [.str (bZ (pP r l)),.ah 0],[])):=by
 have e0:=Pm (σ:=[]) (J1 s hs r l hl);have hlen:(l.map cE).length<=bu:=by rw[Yo];exact hl
 have key:tI [.agg (dQ s),.ah r,sl 6 cE l] []=zO r (oI s r l) (l.map cE):=by unfold tI;show((As [.agg (dQ s),.ah r,sl 6 cE l] []).bind _)=_;rw[e0,aA];exact aE hlen
 rw[key];unfold zO;by_cases h0:oI s r l=0
 ·obtain⟨hr,hn,_,hok⟩:=Un h0;have hL:=SI hok;have h6:(pP r l).length<=600000:=by omega
  rw[aE h0,SJ hr l hok,aA,aE h6];exact .inr ⟨h0,h6,rfl⟩
 ·rw[aD h0];exact .inl ⟨h0,rfl⟩
end
theorem RZ{l:List cV}(hl:l.length<=bu):p6 (yx [sl 6 cE l,sl 6 cE l] []) []=δ (.bool θ):=dX (ajM (σ:=[]) (acP l hl))
theorem QA{s:dM}{r:Int}{t:ByteArray}(hs:tX s):
  ((ZY 0 5 (dQ s)).bind λfZ=>
  (uQ [fZ,.ah r,.str t] []).bind λiy=>
  (p4 0 iy.1).bind λgE=>
  (p4 1 iy.1).bind λlz=>
  (p4 2 iy.1).bind λjE=>
  (XQ .i jE (η 0)).bind λkH=>
  φ kH (
   Ξ [] bC iy.2) (
   (ZY 0 5 (dQ s)).bind λgR=>
   (tI [gR,.ah r,gE] iy.2).bind λqE=>
   (p4 0 qE.1).bind λlA=>
   (p4 1 qE.1).bind λjX=>
   (p5 .i jX (η 2)).bind λkI=>
   φ kI (
    Ξ [] bC qE.2) (
    (ZY 0 5 (dQ s)).bind λjF=>
    (uQ [jF,.ah r,lA] qE.2).bind λqF=>
    (p4 0 qF.1).bind λkU=>
    (p4 1 qF.1).bind λkV=>
    (p4 2 qF.1).bind λjG=>
    (p5 .i jX (η 0)).bind λiS=>
    (ι iS θ (δ jG) aq).bind λkJ=>
    (ι iS θ (p5 .i kJ (η 0)) aq).bind λgS=>
    (i6 iS gS bw).bind λmZ=>
    (ι mZ θ (δ kU) aq).bind λtE=>
    (ι mZ θ (δ gE) aq).bind λje=>
    (ι mZ θ (p6 (yx [tE,je] qF.2) qF.2) aq).bind λqL=>
    (i6 mZ qL bw).bind λqM=>
    Ξ [] qM qF.2)))=δ (.bool θ,[]):=by
 obtain⟨x,hx,hz⟩:=ajD hs r t;have hR:=Jh (σ:=[]) hx;obtain⟨x1,x2,x3⟩:=x;simp only at hz hR;refine bE (a:=.agg (dQ s)) rfl<|bE hR<|bE (a:=sl 6 cE x1) rfl<|bE (a:=.ah x2) rfl<|bE (a:=.ah x3) rfl<|bE (fI _ _ _) ?_;by_cases h3:x3=0
 case neg=>
  rw[qo (show ¬x3=0 from h3),cT];exact aO _ _
 subst h3;have h0:=hz rfl;have hn:=(Qi h0).1;have hl:x1.length<=bu:=by unfold bu;omega
 rw[show decide (¬((0:Int)=0))=ξ from rfl,cF];rcases P9 (r:=r) (l:=x1) hs hl with⟨hne,_⟩|⟨_,h6,hT⟩
 ·exact absurd h0 hne
 have hB:=Jh (σ:=[]) (Pz hs h0 h6);refine bE (a:=.agg (dQ s)) rfl<|bE hT<|bE (a:=.str (bZ (pP r x1))) rfl<|bE (a:=.ah 0) rfl<|bE (a:=.bool ξ) rfl ?_;rw[cF];refine bE (a:=.agg (dQ s)) rfl<|bE hB<|bE (a:=sl 6 cE x1) rfl<|bE (a:=.ah 0) rfl<|bE (a:=.ah 0) rfl<|bE (a:=.bool θ) rfl<|bE (a:=.ah 0) rfl<|bE (a:=.bool θ) rfl<|bE (a:=.bool θ) rfl<|bE (a:=sl 6 cE x1) rfl<|bE (a:=sl 6 cE x1) rfl<|bE (a:=.bool θ) ?_<|bE (a:=.bool θ) rfl (aO _ _);exact RZ hl
theorem Xb{s:dM}{r:Int}{l:List cV}{t:ByteArray}(h:tX s/\eB GV l):Pf [.agg (dQ s),.ah r,sl 6 cE l,.str t] []=δ (.bool θ,[]):=by
 obtain⟨hs,hl'⟩:=h;have hl:l.length<=bu:=hl'.1;refine adI (f:=IV) (y0:=.agg (dQ s)) (y1:=.ah r) (y2:=sl 6 cE l) (y3:=.str t) (enc:=λb:Bool=>.bool b) (T:=δ θ) rfl rfl ?_ θ rfl;intro b hb;injection hb with hb
 subst hb;refine⟨(.bool θ,[]),?_,rfl,rfl⟩;unfold IV;rcases P9 (r:=r) (l:=l) hs hl with⟨hne,hT⟩|⟨h0,h6,hT⟩
 ·refine bE (a:=dQ s) rfl<|bE (a:=.agg (dQ s)) rfl<|bE hT<|bE (a:=.str ⟨#[]⟩) rfl<|bE (a:=.ah (oI s r l)) rfl<|bE (cM _ _ _) ?_;rw[gZ hne,cF];exact QA hs
 ·have hB:=Jh (σ:=[]) (Pz hs h0 h6);refine bE (a:=dQ s) rfl<|bE (a:=.agg (dQ s)) rfl<|bE hT<|bE (a:=.str (bZ (pP r l))) rfl<|bE (a:=.ah 0) rfl<|bE (a:=.bool θ) rfl ?_;rw[cT];refine bE (a:=.agg (dQ s)) rfl<|bE hB<|bE (a:=sl 6 cE l) rfl<|bE (a:=.ah 0) rfl<|bE (a:=.ah 0) rfl<|bE (a:=.bool ξ) rfl<|bE (a:=.ah 0) rfl<|bE (a:=.bool ξ) rfl<|bE (a:=.bool ξ) rfl<|bE (a:=sl 6 cE l) rfl<|bE (a:=sl 6 cE l) rfl<|bE (a:=.bool θ) ?_<|bE (a:=.bool ξ) rfl<|bE (a:=.bool ξ) rfl ?_
  ·exact RZ hl
  rw[cF];exact QA hs
theorem Xd(s:dM)(r:Int)(l:List cV)(t:ByteArray)(hs:tX s)(_:aG r)(hl:eB GV l)(_:fN t):tX s/\eB GV l:=⟨hs,hl⟩
section
open Go.ChangeShapes Go.WideShapes Go.ChangeAt Go.RowKit
theorem own:ownKnob Tryz.prog.godebug=μ:=by kernel_rfl
theorem laidOut:laidOutB Tryz.prog=θ:=by kernel_rfl
theorem PN{H:Type}{enc:TypeId×Value->H}{P:Program}(hl:laidOutB P=θ){W W':World}(hb:Below W.heap.size W W'):
  ∀{ts:List TypeId}{vs:List Value}{ds:List (DataW H)}{ps:List MemPlace},(ts.all λt=>P.readableRec t&&decide (t<P.types.size))=θ->
   DataW.TrodAll enc P W 0 (λ_=>θ) θ ts vs ds ps->(∀x∈ps,x.block<W.heap.size)->DataW.TrodAll enc P W' 0 (λb=>decide (b<W.heap.size)) θ ts vs ds ps
 |[],[],[],_,_,h,_=>h
 |t::ts,v::vs,d::ds,ps,hts,h,hlt=>by
  obtain⟨p,q,h1,h2,rfl⟩:=h;simp only[Z4,dr,decide_eq_true_eq]at hts
  exact⟨p,q,Below.trod hl hts.1.1 hts.1.2 h1 hb (λx hx=>hlt x (List.mem_append_left _ hx)),
   PN hl hb (by simpa using hts.2) h2 (λx hx=>hlt x (List.mem_append_right _ hx)),rfl⟩
 |[],_::_,_,_,_,h,_=>h.elim
 |[],[],_::_,_,_,h,_=>h.elim
 |_::_,[],_,_,_,h,_=>h.elim
 |_::_,_::_,[],_,_,h,_=>h.elim
theorem adt{H:Type}{enc:TypeId×Value->H}{f:Func}{s:ChangeSpec}{W W':World}{args:Array Value}{ds gs:List (DataW H)}{before:List MemPlace}{t:TypeId}
  (hts:(f.params.toList.all λt=>Tryz.prog.readableRec t&&decide (t<Tryz.prog.types.size))=θ) (wB:f.resultTypes=#[t]) (ht:Tryz.prog.underlying t=δ .bool) (hvs:s.vars=[])
  (hW:DataW.Whole enc Tryz.prog f.params.toList s.vars ξ W args.toList ds gs before) (hb:Below W.heap.size W W')
  (hspec:s.fn H (ds++gs)={results:=[.lit (.bool θ)],args:=ds}):
  s.post enc Tryz.prog f ξ θ ξ ξ W args (.bool θ) W':=by
 have Im:=hW;obtain⟨p,q,hA,hV,rfl,hfz,hnd⟩:=hW;have hlt:∀x∈p++q,x.block<W.heap.size:=λx hx=>Im.lt x hx
 refine⟨ds,gs,p++q,[],p,[],Im,?_,?_,?_,hb.frame _,λh=>by cases h⟩
 ·rw[hspec,wB];exact trodAll_cons_mk (shut_bool ht _) trodAll_mk0
 ·rw[hspec];exact PN laidOut hb hts hA (λx hx=>hlt x (List.mem_append_left _ hx))
 ·rw[hspec,hvs];exact rfl
end
section
open Go.RowKit Go.Deep
structure bK (α : Type) where
 size:Nat
 is:World->List Value->α->Prop
 len:∀{w cs a},is w cs a->cs.length=size
 mono:∀{w w' cs a},is w cs a->Gr w w'->is w' cs a
 br:α->Nat
def bQ:bK Int where
 size:=1
 is:=λ_ cs n=>cs=[.int ε n]/\-9223372036854775808<=n/\n<=9223372036854775807
 len:=λh=>by rw[h.1];rfl
 mono:=λh _=>h
 br:=λ_=>1
def qj:bK Bool where
 size:=1
 is:=λ_ cs b=>cs=[.bool b]
 len:=λh=>by rw[h];rfl
 mono:=λh _=>h
 br:=λ_=>1
def nS:bK ByteArray where
 size:=1
 is:=λ_ cs s=>cs=[.string s]/\s.size<=maxLen
 len:=λh=>by rw[h.1];rfl
 mono:=λh _=>h
 br:=λs=>s.size+1
def bK.pair{α β:Type}(c:bK α)(d:bK β):bK (α×β) where
 size:=c.size+d.size
 is:=λw cs x=>c.is w (cs.take c.size) x.1/\d.is w (cs.drop c.size) x.2
 len:=λ{w cs a}h=>by have h1:=c.len h.1;have h2:=d.len h.2;simp at h1 h2;omega
 mono:=λh g=>⟨c.mono h.1 g,d.mono h.2 g⟩
 br:=λx=>c.br x.1+d.br x.2
def bM{α:Type}(c:bK α):bK (List α) where
 size:=1
 is:=λw cs l=>(cs=[.slice μ 0 0]/\l=[])\/∃(b off:Nat)(sp:Option Nat)(cap:Nat),cs=[.slice (δ ⟨b,off,sp⟩) l.length cap]/\l.length<=cap/\l.length<=maxLen/\
  ∀i(h:i<l.length),sp=μ/\∃cs',(∀j,j<c.size->w.cell? ⟨b,off+(i*c.size+j),μ⟩=cs'[j]?)/\c.is w cs' l[i]
 len:=λh=>by rcases h with⟨rfl,_⟩|⟨b,off,sp,cap,rfl,_⟩<;>rfl
 mono:=λ{w w' cs l}h g=>by
  rcases h with h|⟨b,off,sp,cap,h1,h2,h3,h4⟩
  ·exact .inl h
  ·refine .inr ⟨b,off,sp,cap,h1,h2,h3,λi hi=>?_⟩;obtain⟨e,cs',h5,h6⟩:=h4 i hi;refine⟨e,cs',λj hj=>?_,c.mono h6 g⟩;have h7:=h5 j hj;have hl:=c.len h6;rw[bT (by omega)]at h7 ⊢;exact g.cell h7
 br:=λl=>(l.map c.br).sum+1
def dm{α:Type}(F:Nat->Prop)(P:Program)(c:bK α)(t:TypeId):Prop:=∀⦃H:Type⦄ ⦃enc:TypeId×Value->H⦄ ⦃w:World⦄ ⦃base:Nat⦄ ⦃spare:Nat->Bool⦄ ⦃held:Bool⦄ ⦃fuel:Nat⦄ ⦃cs:List Value⦄ ⦃x:DataW H×List MemPlace⦄,F fuel->DataW.trod enc P w base spare held fuel t cs=δ x->∃a,c.is w cs a/\c.br a<=Rows.uptoBulk x.1
abbrev Reads{α:Type}(P:Program)(c:bK α)(t:TypeId):Prop:=dm (λ_=>True) P c t
theorem wY{H:Type}(l:List (DataW H)):Rows.uptoBulkAll l=(l.map Rows.uptoBulk).sum:=by
 induction l with
 |nil=>rfl
 |cons x r ih=>simp only[Rows.uptoBulkAll,fH,List.sum_cons,ih]
theorem P7{α:Type}(f:α->Nat)(D:Nat->Nat):∀(l:List α)(o:Nat),(∀i(h:i<l.length),f l[i]<=D (o+i))->(l.map f).sum<=((YT o l.length).map D).sum
 |[],_,_=>by simp
 |x::r,o,h=>by simp only[l8,alK,fH,List.sum_cons];have h0:=h 0 (by simp);have:=P7 f D r (o+1) (λi hi=>by have:=h (i+1) (by simp;omega);simp only[List.getElem_cons_succ]at this;rw[show o+1+i=o+(i+1) by omega];exact this);simp at h0;omega
theorem wf_i64{n:Int}(h:(Lit.int ε n).wf=θ):-9223372036854775808<=n/\n<=9223372036854775807:=by simpa [Lit.wf,IntKind.min,IntKind.max,IntKind.signed,IntKind.bits]using h
theorem RS{H:Type}(d:DataW H):1<=Rows.uptoBulk d:=by
 cases d with
 |lit l=>cases l<;>simp [Rows.uptoBulk]
 |_=>simp [Rows.uptoBulk]
theorem fK{F:Nat->Prop}{P:Program}{t:TypeId}(ht:P.underlying t=δ (.int ε)):dm F P bQ t:=by intro H enc w base spare held fuel cs x _ h;obtain⟨n,rfl,_,hw⟩:=DataW.trod_int ht h;exact⟨n,⟨rfl,wf_i64 hw⟩,RS _⟩
theorem F7{F:Nat->Prop}{P:Program}{t:TypeId}(ht:P.underlying t=δ .bool):dm F P qj t:=by intro H enc w base spare held fuel cs x _ h;obtain⟨n,rfl,_⟩:=DataW.trod_bool ht h;exact⟨n,rfl,RS _⟩
theorem yO{F:Nat->Prop}{P:Program}{t:TypeId}(ht:P.underlying t=δ .string):dm F P nS t:=by intro H enc w base spare held fuel cs x _ h;obtain⟨n,rfl,hx,hw⟩:=DataW.trod_string ht h;refine⟨n,⟨rfl,hw⟩,?_⟩;subst hx;simp only[Rows.uptoBulk,nS];first|(simp;done)|omega
theorem qP{F:Nat->Prop}{P:Program}{α:Type}{c:bK α}{t e:TypeId}(ht:P.underlying t=δ (.slice e))(hz:P.cellsOf e=c.size)(hp:0<c.size)(hr:dm (λm=>F (m+1)) P c e):dm F P (bM c) t:=by
 intro H enc w base spare held fuel cs x hF h;rcases DataW.trod_slice ht h with⟨rfl,rfl⟩|⟨a,len,cap,elems,rest,n,ey,rfl,Wt,hb,hl,hm,hlen,hel,h8,h9⟩
 ·exact⟨[],.inl ⟨rfl,rfl⟩,by simp [bM,Rows.uptoBulk]⟩
 ·obtain⟨D,hD⟩:∃D:Nat->DataW H,D=λi=>(elems.getD i (.nil,[])).1:=⟨_,rfl⟩
  have key:∀i,i<len->∃(y:α)(cs':List Value),(∀j,j<c.size->w.cell? (a.add (i*c.size+j))=cs'[j]?)/\c.is w cs' y/\c.br y<=Rows.uptoBulk (D i):=by
   intro i hi;have hk:=hel i hi;rw[bT (by omega)]at hk;obtain⟨cs',h1,h2⟩:=bg.1 hk;obtain⟨y,hy,EB⟩:=hr (by subst ey;exact hF) h2
   have EB:c.br y<=Rows.uptoBulk (D i):=by rw[hD];simpa [ZC,bT (show i<elems.length by omega)]using EB
   obtain⟨_,h3,h4⟩:=World.cells?_some h1;refine⟨y,cs',λj hj=>?_,hy,EB⟩;have:=h4 j (by rw[hz];exact hj);rw[hz]at this;rw[<-this,add_add]
  obtain⟨ys,hys⟩:∃ys:List α,ys.length=len/\∀i(h:i<ys.length),c.br ys[i]<=Rows.uptoBulk (D i)/\∃cs',(∀j,j<c.size->w.cell? (a.add (i*c.size+j))=cs'[j]?)/\c.is w cs' ys[i]:=by
   clear hel hlen h hl Wt h8 h9;induction len with
   |zero=>exact⟨[],rfl,λi h=>by simp at h⟩
   |succ k ih=>
    obtain⟨ys,h1,h2⟩:=ih (λi hi=>key i (by omega));obtain⟨y,cs',h3,h4,h4b⟩:=key k (by omega);refine⟨ys++[y],by simp [h1],λi hi=>?_⟩;by_cases hk:i<ys.length
    ·rw[List.getElem_append_left hk];exact h2 i hk
    ·have:i=k:=by simp at hi;omega
     subst this;rw[List.getElem_append_right (by omega)];simp only[h1,alV,List.getElem_cons_zero];exact⟨h4b,cs',h3,h4⟩
  obtain⟨h1,h2⟩:=hys;obtain⟨b,off,sp⟩:=a;refine⟨ys,.inr ⟨b,off,sp,cap,by rw[h1],by omega,XA (show ys.length<=cap by omega) hm,λi hi=>?_⟩,?_⟩
  ·have hs:sp=μ:=by
    cases sp with
    |none=>rfl
    |some q=>exfalso;obtain⟨_,cs',h3,h4⟩:=h2 0 (by omega);have h5:=h3 0 hp;have hl:=c.len h4;rw[bT (by omega)]at h5;simp only[Nat.zero_mul,Zm,ZV,Addr.add]at h5;split at h5<;>simp at h5
   obtain⟨_,cs',h3,h4⟩:=h2 i hi;subst hs;refine⟨rfl,cs',λj hj=>?_,h4⟩;have h6:=h3 j hj;rw[<-h6];congr 1;simp only[Addr.add];split
   ·rename_i h7;simp only[h7,Nat.add_zero]
   ·rfl
  ·subst Wt;simp only[bM,Rows.uptoBulk,wY,List.map_map];have:=P7 c.br (λi=>Rows.uptoBulk (D i)) ys 0 (λi hi=>by simpa using(h2 i hi).1);rw[h1,<-YC]at this
   have e:Yc (Rows.uptoBulk∘λx=>x.1) elems=Yc (λi=>Rows.uptoBulk (D i)) (List.range len):=by rw[<-hlen,hD];apply List.ext_getElem (by simp);intro i h3 h4;simp at h3;simp [ZC,bT h3]
   rw[e];omega
theorem yH{α:Type}(l:List α)(o n:Nat)(h:l.length=o+n):(l.drop o).take n=l.drop o:=xF (by simp;omega)
theorem Zv{α:Type}(l:List α)(h:l.length=2):∃x0 x1,l=[x0,x1]:=by
 match l,h with
 |[x0,x1],_=>exact⟨x0,x1,rfl⟩
theorem wT{F:Nat->Prop}{P:Program}{qN qO:Type}{t:TypeId}{f0 f1:Field}{c0:bK qN}{c1:bK qO}(ht:P.underlying t=δ (.struct #[f0,f1]))(hz:P.cellsOf t=c0.size+c1.size)(o0:f0.offset=0)(o1:f1.offset=c0.size)(z0:P.cellsOf f0.type=c0.size)(z1:P.cellsOf f1.type=c1.size)(r0:dm (λm=>F (m+1)) P c0 f0.type) (r1:dm (λm=>F (m+1)) P c1 f1.type):dm F P (c0.pair c1) t:=by
 intro H enc w base spare held fuel cs x hF h;obtain⟨xs,m,ey,cU,hlen,hxl,hf⟩:=WH ht h;rw[hz]at hlen;have hxl:xs.length=2:=hxl;have h0:=hf 0 f0 rfl;rw[o0,z0,bT (show 0<xs.length by omega)]at h0;obtain⟨a0,k0,b0⟩:=r0 (by subst ey;exact hF) h0;have h1:=hf 1 f1 rfl;rw[o1,z1,bT (show 1<xs.length by omega)]at h1;obtain⟨a1,k1,b1⟩:=r1 (by subst ey;exact hF) h1;rw[yH cs (c0.size) c1.size (by omega)]at k1;refine⟨(a0,a1),?_,?_⟩
 ·exact⟨by simpa using k0,(by simpa [gy,fG]using k1)⟩
 ·subst cU;simp only[Rows.uptoBulk,wY,bK.pair]
  have hs:(Yc Rows.uptoBulk (xs.map (·.1))).sum=Rows.uptoBulk xs[0].1+(Rows.uptoBulk xs[1].1):=by obtain⟨x0,x1,rfl⟩:=Zv xs hxl;simp
  rw[hs];exact YE (gP b0 b1)
theorem akC{α:Type}(l:List α)(h:l.length=3):∃x0 x1 x2,l=[x0,x1,x2]:=by
 match l,h with
 |[x0,x1,x2],_=>exact⟨x0,x1,x2,rfl⟩
theorem FK{F:Nat->Prop}{P:Program}{qN qO tH:Type}{t:TypeId}{f0 f1 f2:Field}{c0:bK qN}{c1:bK qO}{c2:bK tH}(ht:P.underlying t=δ (.struct #[f0,f1,f2]))(hz:P.cellsOf t=c0.size+c1.size+c2.size)(o0:f0.offset=0)(o1:f1.offset=c0.size)(o2:f2.offset=c0.size+c1.size)(z0:P.cellsOf f0.type=c0.size)(z1:P.cellsOf f1.type=c1.size)(z2:P.cellsOf f2.type=c2.size)(r0:dm (λm=>F (m+1)) P c0 f0.type) (r1:dm (λm=>F (m+1)) P c1 f1.type) (r2:dm (λm=>F (m+1)) P c2 f2.type):dm F P (c0.pair (c1.pair c2)) t:=by
 intro H enc w base spare held fuel cs x hF h;obtain⟨xs,m,ey,cU,hlen,hxl,hf⟩:=WH ht h;rw[hz]at hlen;have hxl:xs.length=3:=hxl;have h0:=hf 0 f0 rfl;rw[o0,z0,bT (show 0<xs.length by omega)]at h0;obtain⟨a0,k0,b0⟩:=r0 (by subst ey;exact hF) h0;have h1:=hf 1 f1 rfl;rw[o1,z1,bT (show 1<xs.length by omega)]at h1;obtain⟨a1,k1,b1⟩:=r1 (by subst ey;exact hF) h1;have h2:=hf 2 f2 rfl;rw[o2,z2,bT (show 2<xs.length by omega)]at h2;obtain⟨a2,k2,b2⟩:=r2 (by subst ey;exact hF) h2;rw[yH cs (c0.size+c1.size) c2.size (by omega)]at k2;refine⟨(a0,(a1,a2)),?_,?_⟩
 ·exact⟨by simpa using k0,⟨by simpa [gy,fG]using k1,(by simpa [gy,fG]using k2)⟩⟩
 ·subst cU;simp only[Rows.uptoBulk,wY,bK.pair]
  have hs:(Yc Rows.uptoBulk (xs.map (·.1))).sum=Rows.uptoBulk xs[0].1+(Rows.uptoBulk xs[1].1+(Rows.uptoBulk xs[2].1)):=by obtain⟨x0,x1,x2,rfl⟩:=akC xs hxl;simp
  rw[hs];exact YE (gP b0 (gP b1 b2))
theorem ajA{α:Type}(l:List α)(h:l.length=4):∃x0 x1 x2 x3,l=[x0,x1,x2,x3]:=by
 match l,h with
 |[x0,x1,x2,x3],_=>exact⟨x0,x1,x2,x3,rfl⟩
theorem PM{F:Nat->Prop}{P:Program}{qN qO tH wO:Type}{t:TypeId}{f0 f1 f2 f3:Field}{c0:bK qN}{c1:bK qO}{c2:bK tH}{c3:bK wO}(ht:P.underlying t=δ (.struct #[f0,f1,f2,f3]))(hz:P.cellsOf t=c0.size+c1.size+c2.size+c3.size)(o0:f0.offset=0)(o1:f1.offset=c0.size)(o2:f2.offset=c0.size+c1.size)(o3:f3.offset=c0.size+c1.size+c2.size)(z0:P.cellsOf f0.type=c0.size)(z1:P.cellsOf f1.type=c1.size)(z2:P.cellsOf f2.type=c2.size)(z3:P.cellsOf f3.type=c3.size)(r0:dm (λm=>F (m+1)) P c0 f0.type) (r1:dm (λm=>F (m+1)) P c1 f1.type) (r2:dm (λm=>F (m+1)) P c2 f2.type) (r3:dm (λm=>F (m+1)) P c3 f3.type):dm F P (c0.pair (c1.pair (c2.pair c3))) t:=by
 intro H enc w base spare held fuel cs x hF h;obtain⟨xs,m,ey,cU,hlen,hxl,hf⟩:=WH ht h;rw[hz]at hlen;have hxl:xs.length=4:=hxl;have h0:=hf 0 f0 rfl;rw[o0,z0,bT (show 0<xs.length by omega)]at h0;obtain⟨a0,k0,b0⟩:=r0 (by subst ey;exact hF) h0;have h1:=hf 1 f1 rfl;rw[o1,z1,bT (show 1<xs.length by omega)]at h1;obtain⟨a1,k1,b1⟩:=r1 (by subst ey;exact hF) h1;have h2:=hf 2 f2 rfl;rw[o2,z2,bT (show 2<xs.length by omega)]at h2;obtain⟨a2,k2,b2⟩:=r2 (by subst ey;exact hF) h2;have h3:=hf 3 f3 rfl;rw[o3,z3,bT (show 3<xs.length by omega)]at h3;obtain⟨a3,k3,b3⟩:=r3 (by subst ey;exact hF) h3;rw[yH cs (c0.size+c1.size+c2.size) c3.size (by omega)]at k3;refine⟨(a0,(a1,(a2,a3))),?_,?_⟩
 ·exact⟨by simpa using k0,⟨by simpa [gy,fG]using k1,⟨by simpa [gy,fG]using k2,(by simpa [gy,fG]using k3)⟩⟩⟩
 ·subst cU;simp only[Rows.uptoBulk,wY,bK.pair]
  have hs:(Yc Rows.uptoBulk (xs.map (·.1))).sum=Rows.uptoBulk xs[0].1+(Rows.uptoBulk xs[1].1+(Rows.uptoBulk xs[2].1+(Rows.uptoBulk xs[3].1))):=by obtain⟨x0,x1,x2,x3,rfl⟩:=ajA xs hxl;simp
  rw[hs];exact YE (gP b0 (gP b1 (gP b2 b3)))
theorem Zy{α:Type}(l:List α)(h:l.length=5):∃x0 x1 x2 x3 x4,l=[x0,x1,x2,x3,x4]:=by
 match l,h with
 |[x0,x1,x2,x3,x4],_=>exact⟨x0,x1,x2,x3,x4,rfl⟩
theorem ajh{F:Nat->Prop}{P:Program}{qN qO tH wO Ao:Type}{t:TypeId}{f0 f1 f2 f3 f4:Field}{c0:bK qN}{c1:bK qO}{c2:bK tH}{c3:bK wO}{c4:bK Ao}(ht:P.underlying t=δ (.struct #[f0,f1,f2,f3,f4]))(hz:P.cellsOf t=c0.size+c1.size+c2.size+c3.size+c4.size)(o0:f0.offset=0)(o1:f1.offset=c0.size)(o2:f2.offset=c0.size+c1.size)(o3:f3.offset=c0.size+c1.size+c2.size)(o4:f4.offset=c0.size+c1.size+c2.size+c3.size)(z0:P.cellsOf f0.type=c0.size)(z1:P.cellsOf f1.type=c1.size)(z2:P.cellsOf f2.type=c2.size)(z3:P.cellsOf f3.type=c3.size)(z4:P.cellsOf f4.type=c4.size)(r0:dm (λm=>F (m+1)) P c0 f0.type) (r1:dm (λm=>F (m+1)) P c1 f1.type) (r2:dm (λm=>F (m+1)) P c2 f2.type) (r3:dm (λm=>F (m+1)) P c3 f3.type) (r4:dm (λm=>F (m+1)) P c4 f4.type):dm F P (c0.pair (c1.pair (c2.pair (c3.pair c4)))) t:=by
 intro H enc w base spare held fuel cs x hF h;obtain⟨xs,m,ey,cU,hlen,hxl,hf⟩:=WH ht h;rw[hz]at hlen;have hxl:xs.length=5:=hxl;have h0:=hf 0 f0 rfl;rw[o0,z0,bT (show 0<xs.length by omega)]at h0;obtain⟨a0,k0,b0⟩:=r0 (by subst ey;exact hF) h0;have h1:=hf 1 f1 rfl;rw[o1,z1,bT (show 1<xs.length by omega)]at h1;obtain⟨a1,k1,b1⟩:=r1 (by subst ey;exact hF) h1;have h2:=hf 2 f2 rfl;rw[o2,z2,bT (show 2<xs.length by omega)]at h2;obtain⟨a2,k2,b2⟩:=r2 (by subst ey;exact hF) h2;have h3:=hf 3 f3 rfl;rw[o3,z3,bT (show 3<xs.length by omega)]at h3;obtain⟨a3,k3,b3⟩:=r3 (by subst ey;exact hF) h3;have h4:=hf 4 f4 rfl;rw[o4,z4,bT (show 4<xs.length by omega)]at h4;obtain⟨a4,k4,b4⟩:=r4 (by subst ey;exact hF) h4;rw[yH cs (c0.size+c1.size+c2.size+c3.size) c4.size (by omega)]at k4;refine⟨(a0,(a1,(a2,(a3,a4)))),?_,?_⟩
 ·exact⟨by simpa using k0,⟨by simpa [gy,fG]using k1,⟨by simpa [gy,fG]using k2,⟨by simpa [gy,fG]using k3,(by simpa [gy,fG]using k4)⟩⟩⟩⟩
 ·subst cU;simp only[Rows.uptoBulk,wY,bK.pair]
  have hs:(Yc Rows.uptoBulk (xs.map (·.1))).sum=Rows.uptoBulk xs[0].1+(Rows.uptoBulk xs[1].1+(Rows.uptoBulk xs[2].1+(Rows.uptoBulk xs[3].1+(Rows.uptoBulk xs[4].1)))):=by obtain⟨x0,x1,x2,x3,x4,rfl⟩:=Zy xs hxl;simp
  rw[hs];exact YE (gP b0 (gP b1 (gP b2 (gP b3 b4))))
theorem Zz{α:Type}(l:List α)(h:l.length=6):∃x0 x1 x2 x3 x4 x5,l=[x0,x1,x2,x3,x4,x5]:=by
 match l,h with
 |[x0,x1,x2,x3,x4,x5],_=>exact⟨x0,x1,x2,x3,x4,x5,rfl⟩
theorem akJ{F:Nat->Prop}{P:Program}{qN qO tH wO Ao E6:Type}{t:TypeId}{f0 f1 f2 f3 f4 f5:Field}{c0:bK qN}{c1:bK qO}{c2:bK tH}{c3:bK wO}{c4:bK Ao}{c5:bK E6}(ht:P.underlying t=δ (.struct #[f0,f1,f2,f3,f4,f5]))(hz:P.cellsOf t=c0.size+c1.size+c2.size+c3.size+c4.size+c5.size)(o0:f0.offset=0)(o1:f1.offset=c0.size)(o2:f2.offset=c0.size+c1.size)(o3:f3.offset=c0.size+c1.size+c2.size)(o4:f4.offset=c0.size+c1.size+c2.size+c3.size)(o5:f5.offset=c0.size+c1.size+c2.size+c3.size+c4.size)(z0:P.cellsOf f0.type=c0.size)(z1:P.cellsOf f1.type=c1.size)(z2:P.cellsOf f2.type=c2.size)(z3:P.cellsOf f3.type=c3.size)(z4:P.cellsOf f4.type=c4.size)(z5:P.cellsOf f5.type=c5.size)(r0:dm (λm=>F (m+1)) P c0 f0.type) (r1:dm (λm=>F (m+1)) P c1 f1.type) (r2:dm (λm=>F (m+1)) P c2 f2.type) (r3:dm (λm=>F (m+1)) P c3 f3.type) (r4:dm (λm=>F (m+1)) P c4 f4.type) (r5:dm (λm=>F (m+1)) P c5 f5.type):dm F P (c0.pair (c1.pair (c2.pair (c3.pair (c4.pair c5))))) t:=by
 intro H enc w base spare held fuel cs x hF h;obtain⟨xs,m,ey,cU,hlen,hxl,hf⟩:=WH ht h;rw[hz]at hlen;have hxl:xs.length=6:=hxl;have h0:=hf 0 f0 rfl;rw[o0,z0,bT (show 0<xs.length by omega)]at h0;obtain⟨a0,k0,b0⟩:=r0 (by subst ey;exact hF) h0;have h1:=hf 1 f1 rfl;rw[o1,z1,bT (show 1<xs.length by omega)]at h1;obtain⟨a1,k1,b1⟩:=r1 (by subst ey;exact hF) h1;have h2:=hf 2 f2 rfl;rw[o2,z2,bT (show 2<xs.length by omega)]at h2;obtain⟨a2,k2,b2⟩:=r2 (by subst ey;exact hF) h2;have h3:=hf 3 f3 rfl;rw[o3,z3,bT (show 3<xs.length by omega)]at h3;obtain⟨a3,k3,b3⟩:=r3 (by subst ey;exact hF) h3;have h4:=hf 4 f4 rfl;rw[o4,z4,bT (show 4<xs.length by omega)]at h4;obtain⟨a4,k4,b4⟩:=r4 (by subst ey;exact hF) h4;have h5:=hf 5 f5 rfl;rw[o5,z5,bT (show 5<xs.length by omega)]at h5;obtain⟨a5,k5,b5⟩:=r5 (by subst ey;exact hF) h5;rw[yH cs (c0.size+c1.size+c2.size+c3.size+c4.size) c5.size (by omega)]at k5;refine⟨(a0,(a1,(a2,(a3,(a4,a5))))),?_,?_⟩
 ·exact⟨by simpa using k0,⟨by simpa [gy,fG]using k1,⟨by simpa [gy,fG]using k2,⟨by simpa [gy,fG]using k3,⟨by simpa [gy,fG]using k4,(by simpa [gy,fG]using k5)⟩⟩⟩⟩⟩
 ·subst cU;simp only[Rows.uptoBulk,wY,bK.pair]
  have hs:(Yc Rows.uptoBulk (xs.map (·.1))).sum=Rows.uptoBulk xs[0].1+(Rows.uptoBulk xs[1].1+(Rows.uptoBulk xs[2].1+(Rows.uptoBulk xs[3].1+(Rows.uptoBulk xs[4].1+(Rows.uptoBulk xs[5].1))))):=by obtain⟨x0,x1,x2,x3,x4,x5,rfl⟩:=Zz xs hxl;simp
  rw[hs];exact YE (gP b0 (gP b1 (gP b2 (gP b3 (gP b4 b5)))))
theorem ZA{α:Type}(l:List α)(h:l.length=7):∃x0 x1 x2 x3 x4 x5 x6,l=[x0,x1,x2,x3,x4,x5,x6]:=by
 match l,h with
 |[x0,x1,x2,x3,x4,x5,x6],_=>exact⟨x0,x1,x2,x3,x4,x5,x6,rfl⟩
theorem Y6{F:Nat->Prop}{P:Program}{qN qO tH wO Ao E6 Pc:Type}{t:TypeId}{f0 f1 f2 f3 f4 f5 f6:Field}{c0:bK qN}{c1:bK qO}{c2:bK tH}{c3:bK wO}{c4:bK Ao}{c5:bK E6}{c6:bK Pc}(ht:P.underlying t=δ (.struct #[f0,f1,f2,f3,f4,f5,f6]))(hz:P.cellsOf t=c0.size+c1.size+c2.size+c3.size+c4.size+c5.size+c6.size)(o0:f0.offset=0)(o1:f1.offset=c0.size)(o2:f2.offset=c0.size+c1.size)(o3:f3.offset=c0.size+c1.size+c2.size)(o4:f4.offset=c0.size+c1.size+c2.size+c3.size)(o5:f5.offset=c0.size+c1.size+c2.size+c3.size+c4.size)(o6:f6.offset=c0.size+c1.size+c2.size+c3.size+c4.size+c5.size)(z0:P.cellsOf f0.type=c0.size)(z1:P.cellsOf f1.type=c1.size)(z2:P.cellsOf f2.type=c2.size)(z3:P.cellsOf f3.type=c3.size)(z4:P.cellsOf f4.type=c4.size)(z5:P.cellsOf f5.type=c5.size)(z6:P.cellsOf f6.type=c6.size)(r0:dm (λm=>F (m+1)) P c0 f0.type) (r1:dm (λm=>F (m+1)) P c1 f1.type) (r2:dm (λm=>F (m+1)) P c2 f2.type) (r3:dm (λm=>F (m+1)) P c3 f3.type) (r4:dm (λm=>F (m+1)) P c4 f4.type) (r5:dm (λm=>F (m+1)) P c5 f5.type) (r6:dm (λm=>F (m+1)) P c6 f6.type):dm F P (c0.pair (c1.pair (c2.pair (c3.pair (c4.pair (c5.pair c6)))))) t:=by
 intro H enc w base spare held fuel cs x hF h;obtain⟨xs,m,ey,cU,hlen,hxl,hf⟩:=WH ht h;rw[hz]at hlen;have hxl:xs.length=7:=hxl;have h0:=hf 0 f0 rfl;rw[o0,z0,bT (show 0<xs.length by omega)]at h0;obtain⟨a0,k0,b0⟩:=r0 (by subst ey;exact hF) h0;have h1:=hf 1 f1 rfl;rw[o1,z1,bT (show 1<xs.length by omega)]at h1;obtain⟨a1,k1,b1⟩:=r1 (by subst ey;exact hF) h1;have h2:=hf 2 f2 rfl;rw[o2,z2,bT (show 2<xs.length by omega)]at h2;obtain⟨a2,k2,b2⟩:=r2 (by subst ey;exact hF) h2;have h3:=hf 3 f3 rfl;rw[o3,z3,bT (show 3<xs.length by omega)]at h3;obtain⟨a3,k3,b3⟩:=r3 (by subst ey;exact hF) h3;have h4:=hf 4 f4 rfl;rw[o4,z4,bT (show 4<xs.length by omega)]at h4;obtain⟨a4,k4,b4⟩:=r4 (by subst ey;exact hF) h4;have h5:=hf 5 f5 rfl;rw[o5,z5,bT (show 5<xs.length by omega)]at h5;obtain⟨a5,k5,b5⟩:=r5 (by subst ey;exact hF) h5;have h6:=hf 6 f6 rfl;rw[o6,z6,bT (show 6<xs.length by omega)]at h6;obtain⟨a6,k6,b6⟩:=r6 (by subst ey;exact hF) h6;rw[yH cs (c0.size+c1.size+c2.size+c3.size+c4.size+c5.size) c6.size (by omega)]at k6;refine⟨(a0,(a1,(a2,(a3,(a4,(a5,a6)))))),?_,?_⟩
 ·exact⟨by simpa using k0,⟨by simpa [gy,fG]using k1,⟨by simpa [gy,fG]using k2,⟨by simpa [gy,fG]using k3,⟨by simpa [gy,fG]using k4,⟨by simpa [gy,fG]using k5,(by simpa [gy,fG]using k6)⟩⟩⟩⟩⟩⟩
 ·subst cU;simp only[Rows.uptoBulk,wY,bK.pair]
  have hs:(Yc Rows.uptoBulk (xs.map (·.1))).sum=Rows.uptoBulk xs[0].1+(Rows.uptoBulk xs[1].1+(Rows.uptoBulk xs[2].1+(Rows.uptoBulk xs[3].1+(Rows.uptoBulk xs[4].1+(Rows.uptoBulk xs[5].1+(Rows.uptoBulk xs[6].1)))))):=by obtain⟨x0,x1,x2,x3,x4,x5,x6,rfl⟩:=ZA xs hxl;simp
  rw[hs];exact YE (gP b0 (gP b1 (gP b2 (gP b3 (gP b4 (gP b5 b6))))))
theorem ajk{α:Type}(l:List α)(h:l.length=10):∃x0 x1 x2 x3 x4 x5 x6 x7 x8 x9,l=[x0,x1,x2,x3,x4,x5,x6,x7,x8,x9]:=by
 match l,h with
 |[x0,x1,x2,x3,x4,x5,x6,x7,x8,x9],_=>exact⟨x0,x1,x2,x3,x4,x5,x6,x7,x8,x9,rfl⟩
theorem ajo{F:Nat->Prop}{P:Program}{qN qO tH wO Ao E6 Pc α7 α8 α9:Type}{t:TypeId}{f0 f1 f2 f3 f4 f5 f6 f7 f8 f9:Field}{c0:bK qN}{c1:bK qO}{c2:bK tH}{c3:bK wO}{c4:bK Ao}{c5:bK E6}{c6:bK Pc}{c7:bK α7}{c8:bK α8}{c9:bK α9}(ht:P.underlying t=δ (.struct #[f0,f1,f2,f3,f4,f5,f6,f7,f8,f9]))(hz:P.cellsOf t=c0.size+c1.size+c2.size+c3.size+c4.size+c5.size+c6.size+c7.size+c8.size+c9.size)(o0:f0.offset=0)(o1:f1.offset=c0.size)(o2:f2.offset=c0.size+c1.size)(o3:f3.offset=c0.size+c1.size+c2.size)(o4:f4.offset=c0.size+c1.size+c2.size+c3.size)(o5:f5.offset=c0.size+c1.size+c2.size+c3.size+c4.size)(o6:f6.offset=c0.size+c1.size+c2.size+c3.size+c4.size+c5.size)(o7:f7.offset=c0.size+c1.size+c2.size+c3.size+c4.size+c5.size+c6.size)(o8:f8.offset=c0.size+c1.size+c2.size+c3.size+c4.size+c5.size+c6.size+c7.size)(o9:f9.offset=c0.size+c1.size+c2.size+c3.size+c4.size+c5.size+c6.size+c7.size+c8.size)(z0:P.cellsOf f0.type=c0.size)(z1:P.cellsOf f1.type=c1.size)(z2:P.cellsOf f2.type=c2.size)(z3:P.cellsOf f3.type=c3.size)(z4:P.cellsOf f4.type=c4.size)(z5:P.cellsOf f5.type=c5.size)(z6:P.cellsOf f6.type=c6.size)(z7:P.cellsOf f7.type=c7.size)(z8:P.cellsOf f8.type=c8.size)(z9:P.cellsOf f9.type=c9.size)(r0:dm (λm=>F (m+1)) P c0 f0.type) (r1:dm (λm=>F (m+1)) P c1 f1.type) (r2:dm (λm=>F (m+1)) P c2 f2.type) (r3:dm (λm=>F (m+1)) P c3 f3.type) (r4:dm (λm=>F (m+1)) P c4 f4.type) (r5:dm (λm=>F (m+1)) P c5 f5.type) (r6:dm (λm=>F (m+1)) P c6 f6.type) (r7:dm (λm=>F (m+1)) P c7 f7.type) (r8:dm (λm=>F (m+1)) P c8 f8.type) (r9:dm (λm=>F (m+1)) P c9 f9.type):dm F P (c0.pair (c1.pair (c2.pair (c3.pair (c4.pair (c5.pair (c6.pair (c7.pair (c8.pair c9))))))))) t:=by
 intro H enc w base spare held fuel cs x hF h;obtain⟨xs,m,ey,cU,hlen,hxl,hf⟩:=WH ht h;rw[hz]at hlen;have hxl:xs.length=10:=hxl;have h0:=hf 0 f0 rfl;rw[o0,z0,bT (show 0<xs.length by omega)]at h0;obtain⟨a0,k0,b0⟩:=r0 (by subst ey;exact hF) h0;have h1:=hf 1 f1 rfl;rw[o1,z1,bT (show 1<xs.length by omega)]at h1;obtain⟨a1,k1,b1⟩:=r1 (by subst ey;exact hF) h1;have h2:=hf 2 f2 rfl;rw[o2,z2,bT (show 2<xs.length by omega)]at h2;obtain⟨a2,k2,b2⟩:=r2 (by subst ey;exact hF) h2;have h3:=hf 3 f3 rfl;rw[o3,z3,bT (show 3<xs.length by omega)]at h3;obtain⟨a3,k3,b3⟩:=r3 (by subst ey;exact hF) h3;have h4:=hf 4 f4 rfl;rw[o4,z4,bT (show 4<xs.length by omega)]at h4;obtain⟨a4,k4,b4⟩:=r4 (by subst ey;exact hF) h4;have h5:=hf 5 f5 rfl;rw[o5,z5,bT (show 5<xs.length by omega)]at h5;obtain⟨a5,k5,b5⟩:=r5 (by subst ey;exact hF) h5;have h6:=hf 6 f6 rfl;rw[o6,z6,bT (show 6<xs.length by omega)]at h6;obtain⟨a6,k6,b6⟩:=r6 (by subst ey;exact hF) h6;have h7:=hf 7 f7 rfl;rw[o7,z7,bT (show 7<xs.length by omega)]at h7;obtain⟨a7,k7,b7⟩:=r7 (by subst ey;exact hF) h7;have h8:=hf 8 f8 rfl;rw[o8,z8,bT (show 8<xs.length by omega)]at h8;obtain⟨a8,k8,b8⟩:=r8 (by subst ey;exact hF) h8;have h9:=hf 9 f9 rfl;rw[o9,z9,bT (show 9<xs.length by omega)]at h9;obtain⟨a9,k9,b9⟩:=r9 (by subst ey;exact hF) h9;rw[yH cs (c0.size+c1.size+c2.size+c3.size+c4.size+c5.size+c6.size+c7.size+c8.size) c9.size (by omega)]at k9;refine⟨(a0,(a1,(a2,(a3,(a4,(a5,(a6,(a7,(a8,a9))))))))),?_,?_⟩
 ·exact⟨by simpa using k0,⟨by simpa [gy,fG]using k1,⟨by simpa [gy,fG]using k2,⟨by simpa [gy,fG]using k3,⟨by simpa [gy,fG]using k4,⟨by simpa [gy,fG]using k5,⟨by simpa [gy,fG]using k6,⟨by simpa [gy,fG]using k7,⟨by simpa [gy,fG]using k8,(by simpa [gy,fG]using k9)⟩⟩⟩⟩⟩⟩⟩⟩⟩
 ·subst cU;simp only[Rows.uptoBulk,wY,bK.pair]
  have hs:(Yc Rows.uptoBulk (xs.map (·.1))).sum=Rows.uptoBulk xs[0].1+(Rows.uptoBulk xs[1].1+(Rows.uptoBulk xs[2].1+(Rows.uptoBulk xs[3].1+(Rows.uptoBulk xs[4].1+(Rows.uptoBulk xs[5].1+(Rows.uptoBulk xs[6].1+(Rows.uptoBulk xs[7].1+(Rows.uptoBulk xs[8].1+(Rows.uptoBulk xs[9].1))))))))):=by obtain⟨x0,x1,x2,x3,x4,x5,x6,x7,x8,x9,rfl⟩:=ajk xs hxl;simp
  rw[hs];exact YE (gP b0 (gP b1 (gP b2 (gP b3 (gP b4 (gP b5 (gP b6 (gP b7 (gP b8 b9)))))))))
end
section
open Go.RowKit Go.Deep
theorem dm.imp{F:Nat->Prop}{P:Program}{α β:Type}{c:bK α}{d:bK β}{t:TypeId}(h:dm F P c t)(k:∀w cs a,c.is w cs a->∃b,d.is w cs b/\d.br b<=c.br a):dm F P d t:=by intro H enc w base spare held fuel cs x hF h1;obtain⟨a,ha,hb⟩:=h hF h1;obtain⟨b,h2,h3⟩:=k _ _ _ ha;exact⟨b,h2,XA h3 hb⟩
theorem dW{α:Type}{cs a b:List α}{n:Nat}(h1:cs.take n=a)(h2:cs.drop n=b):cs=a++b:=by rw[<-h1,<-h2,List.take_append_drop]
def sA:bK lF where
 size:=2
 is:=λw cs x=>cs=[.int ε x.time,.int ε x.way]/\aG x.time/\aG x.way
 len:=λh=>by obtain⟨rfl,_⟩:=h;rfl
 mono:=λh _=>h
 br:=λx=>bQ.br x.time+(bQ.br x.way)
theorem aal:Reads Tryz.prog sA 215:=
 (wT (F:=λ_=>True) Tryz.underlying215 (c0:=bQ) (c1:=bQ) (by kernel_rfl) rfl rfl (by kernel_rfl) (by kernel_rfl) (fK Tryz.underlying3) (fK Tryz.underlying3)).imp λw cs a h=>by obtain⟨a0,a1⟩:=a;obtain⟨h0,h1⟩:=h;obtain⟨e0,b0⟩:=h0;obtain⟨e1,b1⟩:=h1;have fR:=dW e0 e1;exact⟨⟨a0,a1⟩,⟨by rw[fR];rfl,b0,b1⟩,bL _⟩
theorem ZI:Reads Tryz.prog (bM sA) 80:=qP Tryz.underlying80 (c:=sA) (by kernel_rfl) (by decide) aal
def Mq:bK pE where
 size:=2
 is:=λw cs x=>∃v0:Value,cs=[.int ε x.kind,v0]/\aG x.kind/\(bM sA).is w [v0] x.cv
 len:=λh=>by obtain⟨v0,rfl,_⟩:=h;rfl
 mono:=λ{w w' cs x}h g=>by obtain⟨v0,e,h0,h1⟩:=h;exact⟨v0,e,h0,((bM sA)).mono h1 g⟩
 br:=λx=>bQ.br x.kind+((bM sA).br x.cv)
theorem aag:Reads Tryz.prog Mq 82:=
 (wT (F:=λ_=>True) Tryz.underlying82 (c0:=bQ) (c1:=(bM sA)) (by kernel_rfl) rfl rfl (by kernel_rfl) (by kernel_rfl) (fK Tryz.underlying3) ZI).imp λw cs a h=>by obtain⟨a0,a1⟩:=a;obtain⟨h0,h1⟩:=h;obtain⟨e0,b0⟩:=h0;obtain⟨s1,e1⟩:=oN.1 (((bM sA)).len h1);rw[e1]at h1;have fR:=dW e0 e1;exact⟨⟨a0,a1⟩,⟨s1,by rw[fR];rfl,b0,h1⟩,bL _⟩
def vE:bK mu where
 size:=3
 is:=λw cs x=>cs=[.int ε x.low,.int ε x.high,.string x.name]/\aG x.low/\aG x.high/\x.name.size<=maxLen
 len:=λh=>by obtain⟨rfl,_⟩:=h;rfl
 mono:=λh _=>h
 br:=λx=>bQ.br x.low+(bQ.br x.high+(nS.br x.name))
theorem aam:Reads Tryz.prog vE 262:=
 (FK (F:=λ_=>True) Tryz.underlying262 (c0:=bQ) (c1:=bQ) (c2:=nS) (by kernel_rfl) rfl rfl rfl (by kernel_rfl) (by kernel_rfl) (by kernel_rfl) (fK Tryz.underlying3) (fK Tryz.underlying3) (yO Tryz.underlying9)).imp λw cs a h=>by obtain⟨a0,a1,a2⟩:=a;obtain⟨h0,h1,h2⟩:=h;obtain⟨e0,b0⟩:=h0;obtain⟨e1,b1⟩:=h1;obtain⟨e2,b2⟩:=h2;have ld:=dW e1 e2;have fR:=dW e0 ld;exact⟨⟨a0,a1,a2⟩,⟨by rw[fR];rfl,b0,b1,b2⟩,bL _⟩
theorem ai6:Reads Tryz.prog (bM vE) 157:=qP Tryz.underlying157 (c:=vE) (by kernel_rfl) (by decide) aam
def vC:bK iL where
 size:=7
 is:=λw cs x=>∃v0:Value,cs=[.string x.name,.int ε x.group,.int ε x.bz,.int ε x.lR,.int ε x.default,.bool x.snap,v0]/\x.name.size<=maxLen/\aG x.group/\aG x.bz/\aG x.lR/\aG x.default/\(bM vE).is w [v0] x.ranges
 len:=λh=>by obtain⟨v0,rfl,_⟩:=h;rfl
 mono:=λ{w w' cs x}h g=>by obtain⟨v0,e,h0,h1,h2,h3,h4,h5⟩:=h;exact⟨v0,e,h0,h1,h2,h3,h4,((bM vE)).mono h5 g⟩
 br:=λx=>nS.br x.name+(bQ.br x.group+(bQ.br x.bz+(bQ.br x.lR+(bQ.br x.default+(qj.br x.snap+((bM vE).br x.ranges))))))
theorem aak:Reads Tryz.prog vC 159:=
 (Y6 (F:=λ_=>True) Tryz.underlying159 (c0:=nS) (c1:=bQ) (c2:=bQ) (c3:=bQ) (c4:=bQ) (c5:=qj) (c6:=(bM vE)) (by kernel_rfl) rfl rfl rfl rfl rfl rfl rfl (by kernel_rfl) (by kernel_rfl) (by kernel_rfl) (by kernel_rfl) (by kernel_rfl) (by kernel_rfl) (by kernel_rfl) (yO Tryz.underlying9) (fK Tryz.underlying3) (fK Tryz.underlying3) (fK Tryz.underlying3) (fK Tryz.underlying3) (F7 Tryz.underlying4) ai6).imp λw cs a h=>by obtain⟨a0,a1,a2,a3,a4,a5,a6⟩:=a;obtain⟨h0,h1,h2,h3,h4,h5,h6⟩:=h;obtain⟨e0,b0⟩:=h0;obtain⟨e1,b1⟩:=h1;obtain⟨e2,b2⟩:=h2;obtain⟨e3,b3⟩:=h3;obtain⟨e4,b4⟩:=h4;have e5:=h5;simp only[qj]at e5;obtain⟨s6,e6⟩:=oN.1 (((bM vE)).len h6);rw[e6]at h6;have Nh:=dW e5 e6;have DD:=dW e4 Nh;have zg:=dW e3 DD;have sK:=dW e2 zg;have ld:=dW e1 sK;have fR:=dW e0 ld;exact⟨⟨a0,a1,a2,a3,a4,a5,a6⟩,⟨s6,by rw[fR];rfl,b0,b1,b2,b3,b4,h6⟩,bL _⟩
theorem ZH:Reads Tryz.prog (bM vC) 168:=qP Tryz.underlying168 (c:=vC) (by kernel_rfl) (by decide) aak
def sw:bK dI where
 size:=3
 is:=λw cs x=>∃v0:Value,cs=[.string x.name,.int ε x.size,v0]/\x.name.size<=maxLen/\aG x.size/\(bM vC).is w [v0] x.params
 len:=λh=>by obtain⟨v0,rfl,_⟩:=h;rfl
 mono:=λ{w w' cs x}h g=>by obtain⟨v0,e,h0,h1,h2⟩:=h;exact⟨v0,e,h0,h1,((bM vC)).mono h2 g⟩
 br:=λx=>nS.br x.name+(bQ.br x.size+((bM vC).br x.params))
theorem ai1:Reads Tryz.prog sw 170:=
 (FK (F:=λ_=>True) Tryz.underlying170 (c0:=nS) (c1:=bQ) (c2:=(bM vC)) (by kernel_rfl) rfl rfl rfl (by kernel_rfl) (by kernel_rfl) (by kernel_rfl) (yO Tryz.underlying9) (fK Tryz.underlying3) ZH).imp λw cs a h=>by obtain⟨a0,a1,a2⟩:=a;obtain⟨h0,h1,h2⟩:=h;obtain⟨e0,b0⟩:=h0;obtain⟨e1,b1⟩:=h1;obtain⟨s2,e2⟩:=oN.1 (((bM vC)).len h2);rw[e2]at h2;have ld:=dW e1 e2;have fR:=dW e0 ld;exact⟨⟨a0,a1,a2⟩,⟨s2,by rw[fR];rfl,b0,b1,h2⟩,bL _⟩
theorem ajw:Reads Tryz.prog (bM sw) 22:=qP Tryz.underlying22 (c:=sw) (by kernel_rfl) (by decide) ai1
def sG:bK fT where
 size:=4
 is:=λw cs x=>cs=[.int ε x.aH,.string x.iK,.int ε x.univ,.int ε x.address]/\aG x.aH/\x.iK.size<=maxLen/\aG x.univ/\aG x.address
 len:=λh=>by obtain⟨rfl,_⟩:=h;rfl
 mono:=λh _=>h
 br:=λx=>bQ.br x.aH+(nS.br x.iK+(bQ.br x.univ+(bQ.br x.address)))
theorem abh:Reads Tryz.prog sG 167:=
 (PM (F:=λ_=>True) Tryz.underlying167 (c0:=bQ) (c1:=nS) (c2:=bQ) (c3:=bQ) (by kernel_rfl) rfl rfl rfl rfl (by kernel_rfl) (by kernel_rfl) (by kernel_rfl) (by kernel_rfl) (fK Tryz.underlying3) (yO Tryz.underlying9) (fK Tryz.underlying3) (fK Tryz.underlying3)).imp λw cs a h=>by obtain⟨a0,a1,a2,a3⟩:=a;obtain⟨h0,h1,h2,h3⟩:=h;obtain⟨e0,b0⟩:=h0;obtain⟨e1,b1⟩:=h1;obtain⟨e2,b2⟩:=h2;obtain⟨e3,b3⟩:=h3;have sK:=dW e2 e3;have ld:=dW e1 sK;have fR:=dW e0 ld;exact⟨⟨a0,a1,a2,a3⟩,⟨by rw[fR];rfl,b0,b1,b2,b3⟩,bL _⟩
theorem aao:Reads Tryz.prog (bM sG) 23:=qP Tryz.underlying23 (c:=sG) (by kernel_rfl) (by decide) abh
def NS:bK fA where
 size:=2
 is:=λw cs x=>∃v0 v1:Value,cs=[v0,v1]/\(bM sw).is w [v0] x.cY/\(bM sG).is w [v1] x.iU
 len:=λh=>by obtain⟨v0,v1,rfl,_⟩:=h;rfl
 mono:=λ{w w' cs x}h g=>by obtain⟨v0,v1,e,h0,h1⟩:=h;exact⟨v0,v1,e,((bM sw)).mono h0 g,((bM sG)).mono h1 g⟩
 br:=λx=>(bM sw).br x.cY+((bM sG).br x.iU)
theorem acC:Reads Tryz.prog NS 25:=
 (wT (F:=λ_=>True) Tryz.underlying25 (c0:=(bM sw)) (c1:=(bM sG)) (by kernel_rfl) rfl rfl (by kernel_rfl) (by kernel_rfl) ajw aao).imp λw cs a h=>by obtain⟨a0,a1⟩:=a;obtain⟨h0,h1⟩:=h;obtain⟨s0,e0⟩:=oN.1 (((bM sw)).len h0);rw[e0]at h0;obtain⟨s1,e1⟩:=oN.1 (((bM sG)).len h1);rw[e1]at h1;have fR:=dW e0 e1;exact⟨⟨a0,a1⟩,⟨s0,s1,by rw[fR];rfl,h0,h1⟩,bL _⟩
def DR:bK bP where
 size:=2
 is:=λw cs x=>cs=[.int ε x.unit,.string x.param]/\aG x.unit/\x.param.size<=maxLen
 len:=λh=>by obtain⟨rfl,_⟩:=h;rfl
 mono:=λh _=>h
 br:=λx=>bQ.br x.unit+(nS.br x.param)
theorem Rq:Reads Tryz.prog DR 129:=
 (wT (F:=λ_=>True) Tryz.underlying129 (c0:=bQ) (c1:=nS) (by kernel_rfl) rfl rfl (by kernel_rfl) (by kernel_rfl) (fK Tryz.underlying3) (yO Tryz.underlying9)).imp λw cs a h=>by obtain⟨a0,a1⟩:=a;obtain⟨h0,h1⟩:=h;obtain⟨e0,b0⟩:=h0;obtain⟨e1,b1⟩:=h1;have fR:=dW e0 e1;exact⟨⟨a0,a1⟩,⟨by rw[fR];rfl,b0,b1⟩,bL _⟩
def vf:bK so where
 size:=3
 is:=λw cs x=>cs=[.int ε x.key.unit,.string x.key.param,.int ε x.level]/\aG x.key.unit/\x.key.param.size<=maxLen/\aG x.level
 len:=λh=>by obtain⟨rfl,_⟩:=h;rfl
 mono:=λh _=>h
 br:=λx=>DR.br x.key+(bQ.br x.level)
theorem aiP:Reads Tryz.prog vf 131:=
 (wT (F:=λ_=>True) Tryz.underlying131 (c0:=DR) (c1:=bQ) (by kernel_rfl) rfl rfl (by kernel_rfl) (by kernel_rfl) Rq (fK Tryz.underlying3)).imp λw cs a h=>by obtain⟨a0,a1⟩:=a;obtain⟨h0,h1⟩:=h;obtain⟨e0,b0⟩:=h0;obtain⟨Dy,Dz⟩:=b0;obtain⟨e1,b1⟩:=h1;have fR:=dW e0 e1;exact⟨⟨a0,a1⟩,⟨by rw[fR];rfl,Dy,Dz,b1⟩,bL _⟩
theorem YD:Reads Tryz.prog (bM vf) 125:=qP Tryz.underlying125 (c:=vf) (by kernel_rfl) (by decide) aiP
def vn:bK iz where
 size:=3
 is:=λw cs x=>∃v0:Value,cs=[.int ε x.aH,.string x.title,v0]/\aG x.aH/\x.title.size<=maxLen/\(bM vf).is w [v0] x.jZ
 len:=λh=>by obtain⟨v0,rfl,_⟩:=h;rfl
 mono:=λ{w w' cs x}h g=>by obtain⟨v0,e,h0,h1,h2⟩:=h;exact⟨v0,e,h0,h1,((bM vf)).mono h2 g⟩
 br:=λx=>bQ.br x.aH+(nS.br x.title+((bM vf).br x.jZ))
theorem aiS:Reads Tryz.prog vn 127:=
 (FK (F:=λ_=>True) Tryz.underlying127 (c0:=bQ) (c1:=nS) (c2:=(bM vf)) (by kernel_rfl) rfl rfl rfl (by kernel_rfl) (by kernel_rfl) (by kernel_rfl) (fK Tryz.underlying3) (yO Tryz.underlying9) YD).imp λw cs a h=>by obtain⟨a0,a1,a2⟩:=a;obtain⟨h0,h1,h2⟩:=h;obtain⟨e0,b0⟩:=h0;obtain⟨e1,b1⟩:=h1;obtain⟨s2,e2⟩:=oN.1 (((bM vf)).len h2);rw[e2]at h2;have ld:=dW e1 e2;have fR:=dW e0 ld;exact⟨⟨a0,a1,a2⟩,⟨s2,by rw[fR];rfl,b0,b1,h2⟩,bL _⟩
theorem ajN:Reads Tryz.prog (bM vn) 26:=qP Tryz.underlying26 (c:=vn) (by kernel_rfl) (by decide) aiS
def ML:bK lG where
 size:=2
 is:=λw cs x=>cs=[.int ε x.level,.int ε x.eT]/\aG x.level/\aG x.eT
 len:=λh=>by obtain⟨rfl,_⟩:=h;rfl
 mono:=λh _=>h
 br:=λx=>bQ.br x.level+(bQ.br x.eT)
theorem aap:Reads Tryz.prog ML 138:=
 (wT (F:=λ_=>True) Tryz.underlying138 (c0:=bQ) (c1:=bQ) (by kernel_rfl) rfl rfl (by kernel_rfl) (by kernel_rfl) (fK Tryz.underlying3) (fK Tryz.underlying3)).imp λw cs a h=>by obtain⟨a0,a1⟩:=a;obtain⟨h0,h1⟩:=h;obtain⟨e0,b0⟩:=h0;obtain⟨e1,b1⟩:=h1;have fR:=dW e0 e1;exact⟨⟨a0,a1⟩,⟨by rw[fR];rfl,b0,b1⟩,bL _⟩
def vI:bK kj where
 size:=8
 is:=λw cs x=>cs=[.int ε x.key.unit,.string x.key.param,.int ε x.value.level,.int ε x.value.eT,.bool x.release,.bool x.xE,.int ε x.fE,.int ε x.time]/\aG x.key.unit/\x.key.param.size<=maxLen/\aG x.value.level/\aG x.value.eT/\aG x.fE/\aG x.time
 len:=λh=>by obtain⟨rfl,_⟩:=h;rfl
 mono:=λh _=>h
 br:=λx=>DR.br x.key+(ML.br x.value+(qj.br x.release+(qj.br x.xE+(bQ.br x.fE+(bQ.br x.time)))))
theorem abg:Reads Tryz.prog vI 140:=
 (akJ (F:=λ_=>True) Tryz.underlying140 (c0:=DR) (c1:=ML) (c2:=qj) (c3:=qj) (c4:=bQ) (c5:=bQ) (by kernel_rfl) rfl rfl rfl rfl rfl rfl (by kernel_rfl) (by kernel_rfl) (by kernel_rfl) (by kernel_rfl) (by kernel_rfl) (by kernel_rfl) Rq aap (F7 Tryz.underlying4) (F7 Tryz.underlying4) (fK Tryz.underlying3) (fK Tryz.underlying3)).imp λw cs a h=>by obtain⟨a0,a1,a2,a3,a4,a5⟩:=a;obtain⟨h0,h1,h2,h3,h4,h5⟩:=h;obtain⟨e0,b0⟩:=h0;obtain⟨Dy,Dz⟩:=b0;obtain⟨e1,b1⟩:=h1;obtain⟨Nd,Nf⟩:=b1;have e2:=h2;simp only[qj]at e2;have e3:=h3;simp only[qj]at e3;obtain⟨e4,b4⟩:=h4;obtain⟨e5,b5⟩:=h5;have DD:=dW e4 e5;have zg:=dW e3 DD;have sK:=dW e2 zg;have ld:=dW e1 sK;have fR:=dW e0 ld;exact⟨⟨a0,a1,a2,a3,a4,a5⟩,⟨by rw[fR];rfl,Dy,Dz,Nd,Nf,b4,b5⟩,bL _⟩
theorem aaj:Reads Tryz.prog (bM vI) 83:=qP Tryz.underlying83 (c:=vI) (by kernel_rfl) (by decide) abg
def vR:bK cr where
 size:=11
 is:=λw cs x=>∃v0 v1:Value,cs=[.int ε x.aH,.string x.title,.int ε x.fE,.int ε x.up,.int ε x.down,.int ε x.other,.int ε x.kn.kind,v0,.bool x.block,.int ε x.lJ,v1]/\aG x.aH/\x.title.size<=maxLen/\aG x.fE/\aG x.up/\aG x.down/\aG x.other/\aG x.kn.kind/\(bM sA).is w [v0] x.kn.cv/\aG x.lJ/\(bM vI).is w [v1] x.gU
 len:=λh=>by obtain⟨v0,v1,rfl,_⟩:=h;rfl
 mono:=λ{w w' cs x}h g=>by obtain⟨v0,v1,e,h0,h1,h2,h3,h4,h5,h6,h7,h8,h9⟩:=h;exact⟨v0,v1,e,h0,h1,h2,h3,h4,h5,h6,((bM sA)).mono h7 g,h8,((bM vI)).mono h9 g⟩
 br:=λx=>bQ.br x.aH+(nS.br x.title+(bQ.br x.fE+(bQ.br x.up+(bQ.br x.down+(bQ.br x.other+(Mq.br x.kn+(qj.br x.block+(bQ.br x.lJ+((bM vI).br x.gU)))))))))
theorem acB:Reads Tryz.prog vR 85:=
 (ajo (F:=λ_=>True) Tryz.underlying85 (c0:=bQ) (c1:=nS) (c2:=bQ) (c3:=bQ) (c4:=bQ) (c5:=bQ) (c6:=Mq) (c7:=qj) (c8:=bQ) (c9:=(bM vI)) (by kernel_rfl) rfl rfl rfl rfl rfl rfl rfl rfl rfl rfl (by kernel_rfl) (by kernel_rfl) (by kernel_rfl) (by kernel_rfl) (by kernel_rfl) (by kernel_rfl) (by kernel_rfl) (by kernel_rfl) (by kernel_rfl) (by kernel_rfl) (fK Tryz.underlying3) (yO Tryz.underlying9) (fK Tryz.underlying3) (fK Tryz.underlying3) (fK Tryz.underlying3) (fK Tryz.underlying3) aag (F7 Tryz.underlying4) (fK Tryz.underlying3) aaj).imp λw cs a h=>by obtain⟨a0,a1,a2,a3,a4,a5,a6,a7,a8,a9⟩:=a;obtain⟨h0,h1,h2,h3,h4,h5,h6,h7,h8,h9⟩:=h;obtain⟨e0,b0⟩:=h0;obtain⟨e1,b1⟩:=h1;obtain⟨e2,b2⟩:=h2;obtain⟨e3,b3⟩:=h3;obtain⟨e4,b4⟩:=h4;obtain⟨e5,b5⟩:=h5;obtain⟨ahA,e6,b6⟩:=h6;obtain⟨agB,agC⟩:=b6;have e7:=h7;simp only[qj]at e7;obtain⟨e8,b8⟩:=h8;obtain⟨s9,e9⟩:=oN.1 (((bM vI)).len h9);rw[e9]at h9;have agY:=dW e8 e9;have agX:=dW e7 agY;have agW:=dW e6 agX;have Nh:=dW e5 agW;have DD:=dW e4 Nh;have zg:=dW e3 DD;have sK:=dW e2 zg;have ld:=dW e1 sK;have fR:=dW e0 ld;exact⟨⟨a0,a1,a2,a3,a4,a5,a6,a7,a8,a9⟩,⟨ahA,s9,by rw[fR];rfl,b0,b1,b2,b3,b4,b5,agB,agC,b8,h9⟩,bL _⟩
theorem abe:Reads Tryz.prog (bM vR) 79:=qP Tryz.underlying79 (c:=vR) (by kernel_rfl) (by decide) acB
def vH:bK gX where
 size:=2
 is:=λw cs x=>∃v0:Value,cs=[.int ε x.aH,v0]/\aG x.aH/\(bM vR).is w [v0] x.kO
 len:=λh=>by obtain⟨v0,rfl,_⟩:=h;rfl
 mono:=λ{w w' cs x}h g=>by obtain⟨v0,e,h0,h1⟩:=h;exact⟨v0,e,h0,((bM vR)).mono h1 g⟩
 br:=λx=>bQ.br x.aH+((bM vR).br x.kO)
theorem abf:Reads Tryz.prog vH 94:=
 (wT (F:=λ_=>True) Tryz.underlying94 (c0:=bQ) (c1:=(bM vR)) (by kernel_rfl) rfl rfl (by kernel_rfl) (by kernel_rfl) (fK Tryz.underlying3) abe).imp λw cs a h=>by obtain⟨a0,a1⟩:=a;obtain⟨h0,h1⟩:=h;obtain⟨e0,b0⟩:=h0;obtain⟨s1,e1⟩:=oN.1 (((bM vR)).len h1);rw[e1]at h1;have fR:=dW e0 e1;exact⟨⟨a0,a1⟩,⟨s1,by rw[fR];rfl,b0,h1⟩,bL _⟩
theorem aai:Reads Tryz.prog (bM vH) 27:=qP Tryz.underlying27 (c:=vH) (by kernel_rfl) (by decide) abf
def ve:bK jq where
 size:=3
 is:=λw cs x=>cs=[.int ε x.aH,.int ε x.list,.int ε x.tT]/\aG x.aH/\aG x.list/\aG x.tT
 len:=λh=>by obtain⟨rfl,_⟩:=h;rfl
 mono:=λh _=>h
 br:=λx=>bQ.br x.aH+(bQ.br x.list+(bQ.br x.tT))
theorem aiQ:Reads Tryz.prog ve 97:=
 (FK (F:=λ_=>True) Tryz.underlying97 (c0:=bQ) (c1:=bQ) (c2:=bQ) (by kernel_rfl) rfl rfl rfl (by kernel_rfl) (by kernel_rfl) (by kernel_rfl) (fK Tryz.underlying3) (fK Tryz.underlying3) (fK Tryz.underlying3)).imp λw cs a h=>by obtain⟨a0,a1,a2⟩:=a;obtain⟨h0,h1,h2⟩:=h;obtain⟨e0,b0⟩:=h0;obtain⟨e1,b1⟩:=h1;obtain⟨e2,b2⟩:=h2;have ld:=dW e1 e2;have fR:=dW e0 ld;exact⟨⟨a0,a1,a2⟩,⟨by rw[fR];rfl,b0,b1,b2⟩,bL _⟩
theorem Ye:Reads Tryz.prog (bM ve) 28:=qP Tryz.underlying28 (c:=ve) (by kernel_rfl) (by decide) aiQ
def TW:bK dM where
 size:=5
 is:=λw cs x=>∃v0 v1 v2 v3 v4:Value,cs=[v0,v1,v2,v3,v4]/\(bM sw).is w [v0] x.qJ.cY/\(bM sG).is w [v1] x.qJ.iU/\(bM vn).is w [v2] x.gu/\(bM vH).is w [v3] x.dK/\(bM ve).is w [v4] x.gF
 len:=λh=>by obtain⟨v0,v1,v2,v3,v4,rfl,_⟩:=h;rfl
 mono:=λ{w w' cs x}h g=>by obtain⟨v0,v1,v2,v3,v4,e,h0,h1,h2,h3,h4⟩:=h;exact⟨v0,v1,v2,v3,v4,e,((bM sw)).mono h0 g,((bM sG)).mono h1 g,((bM vn)).mono h2 g,((bM vH)).mono h3 g,((bM ve)).mono h4 g⟩
 br:=λx=>NS.br x.qJ+((bM vn).br x.gu+((bM vH).br x.dK+((bM ve).br x.gF)))
theorem aan:Reads Tryz.prog TW 30:=
 (PM (F:=λ_=>True) Tryz.underlying30 (c0:=NS) (c1:=(bM vn)) (c2:=(bM vH)) (c3:=(bM ve)) (by kernel_rfl) rfl rfl rfl rfl (by kernel_rfl) (by kernel_rfl) (by kernel_rfl) (by kernel_rfl) acC ajN aai Ye).imp λw cs a h=>by obtain⟨a0,a1,a2,a3⟩:=a;obtain⟨h0,h1,h2,h3⟩:=h;obtain⟨ahy,ahz,e0,b0⟩:=h0;obtain⟨Dy,Dz⟩:=b0;obtain⟨s1,e1⟩:=oN.1 (((bM vn)).len h1);rw[e1]at h1;obtain⟨s2,e2⟩:=oN.1 (((bM vH)).len h2);rw[e2]at h2;obtain⟨s3,e3⟩:=oN.1 (((bM ve)).len h3);rw[e3]at h3;have sK:=dW e2 e3;have ld:=dW e1 sK;have fR:=dW e0 ld;exact⟨⟨a0,a1,a2,a3⟩,⟨ahy,ahz,s1,s2,s3,by rw[fR];rfl,Dy,Dz,h1,h2,h3⟩,bL _⟩
def L2:bK bF where
 size:=5
 is:=λw cs x=>cs=[.int ε x.time,.int ε x.kind,.int ε x.bB,.int ε x.gf,.int ε x.level]/\aG x.time/\aG x.kind/\aG x.bB/\aG x.gf/\aG x.level
 len:=λh=>by obtain⟨rfl,_⟩:=h;rfl
 mono:=λh _=>h
 br:=λx=>bQ.br x.time+(bQ.br x.kind+(bQ.br x.bB+(bQ.br x.gf+(bQ.br x.level))))
theorem akc:Reads Tryz.prog L2 39:=
 (ajh (F:=λ_=>True) Tryz.underlying39 (c0:=bQ) (c1:=bQ) (c2:=bQ) (c3:=bQ) (c4:=bQ) (by kernel_rfl) rfl rfl rfl rfl rfl (by kernel_rfl) (by kernel_rfl) (by kernel_rfl) (by kernel_rfl) (by kernel_rfl) (fK Tryz.underlying3) (fK Tryz.underlying3) (fK Tryz.underlying3) (fK Tryz.underlying3) (fK Tryz.underlying3)).imp λw cs a h=>by obtain⟨a0,a1,a2,a3,a4⟩:=a;obtain⟨h0,h1,h2,h3,h4⟩:=h;obtain⟨e0,b0⟩:=h0;obtain⟨e1,b1⟩:=h1;obtain⟨e2,b2⟩:=h2;obtain⟨e3,b3⟩:=h3;obtain⟨e4,b4⟩:=h4;have zg:=dW e3 e4;have sK:=dW e2 zg;have ld:=dW e1 sK;have fR:=dW e0 ld;exact⟨⟨a0,a1,a2,a3,a4⟩,⟨by rw[fR];rfl,b0,b1,b2,b3,b4⟩,bL _⟩
def G8:bK cV where
 size:=6
 is:=λw cs x=>cs=[.int ε x.bz,.int ε x.action.time,.int ε x.action.kind,.int ε x.action.bB,.int ε x.action.gf,.int ε x.action.level]/\aG x.bz/\aG x.action.time/\aG x.action.kind/\aG x.action.bB/\aG x.action.gf/\aG x.action.level
 len:=λh=>by obtain⟨rfl,_⟩:=h;rfl
 mono:=λh _=>h
 br:=λx=>bQ.br x.bz+(L2.br x.action)
theorem aah:Reads Tryz.prog G8 41:=
 (wT (F:=λ_=>True) Tryz.underlying41 (c0:=bQ) (c1:=L2) (by kernel_rfl) rfl rfl (by kernel_rfl) (by kernel_rfl) (fK Tryz.underlying3) akc).imp λw cs a h=>by obtain⟨a0,a1⟩:=a;obtain⟨h0,h1⟩:=h;obtain⟨e0,b0⟩:=h0;obtain⟨e1,b1⟩:=h1;obtain⟨Nd,Nf,agy,agz,agA⟩:=b1;have fR:=dW e0 e1;exact⟨⟨a0,a1⟩,⟨by rw[fR];rfl,b0,Nd,Nf,agy,agz,agA⟩,bL _⟩
theorem ZG:Reads Tryz.prog (bM G8) 31:=qP Tryz.underlying31 (c:=G8) (by kernel_rfl) (by decide) aah
end
section
open Go.RowKit Go.Deep
section
variable {c : RC}
theorem pq:aF c [] []:=by simp [aF]
theorem cq{a:U}{v:Value}{l:au}{vs:List Value}(h:an c a v)(k:aF c l vs):aF c (a::l) (v::vs):=by simp only[aF];exact⟨v,vs,rfl,h,k⟩
theorem fy(k:IntKind)(n:Int):an c (.int k n) (.int k n):=by simp [an]
theorem GH(b:Bool):an c (.bool b) (.bool b):=by simp [an]
theorem vo(s:ByteArray):an c (.str s) (.string s):=by simp [an]
def RP{α:Type}(c:RC)(d:bK α)(e:α->au)(ok:α->Prop):Prop:=∀cs x,d.is c.w cs x->aF c (e x) cs/\ok x/\(∀v∈cs,cx v=θ)
theorem So:∀{l:au}{vs:List Value},aF c l vs->l.length=vs.length
 |[],vs,h=>by simp only[aF]at h;subst h;rfl
 |a::l,vs,h=>by simp only[aF]at h;obtain⟨v,vs',rfl,_,h⟩:=h;simp [So h]
theorem Sm{b:Nat}:∀{l:au}{vs:List Value}{off:Nat},aF c l vs->(∀v∈vs,cx v=θ)->(∀j,j<vs.length->c.w.cell? ⟨b,off+j,μ⟩=vs[j]?)->aT c b off l
 |[],vs,off,h,_,_=>by simp [aT]
 |a::l,vs,off,h,ho,hc=>by simp only[aF]at h;obtain⟨v,vs',rfl,h1,h2⟩:=h;simp only[aT];refine⟨⟨v,by simpa using hc 0 (by simp),ho v (by simp),h1⟩,Sm h2 (λv hv=>ho v (by simp [hv])) λj hj=>?_⟩;have:=hc (j+1) (by simpa using hj);rw[show off+1+j=off+(j+1) by omega];simpa using this
theorem Sn{α:Type}{d:bK α}{e:α->au}{ok:α->Prop}(H:RP c d e ok){b sz:Nat}(hsz:d.size=sz):∀{l:List α}{off:Nat},(∀(i:Nat)(x:α),l[i]? =δ x->∃cs',(∀j,j<d.size->c.w.cell? ⟨b,off+(i*d.size+j),μ⟩=cs'[j]?)/\d.is c.w cs' x)->aY c sz b off (l.map e)/\∀x∈l,ok x
 |[],off,h=>by simp [aY]
 |x::l,off,h=>by
  obtain⟨cs,h1,h2⟩:=h 0 x rfl;obtain⟨k1,k2,k3⟩:=H cs x h2;have hl:cs.length=d.size:=d.len h2
  obtain⟨r1,r2⟩:=Sn H hsz (l:=l) (off:=off+sz) (λi y hy=>by
   obtain⟨cs',q1,q2⟩:=h (i+1) y (by simpa using hy);refine⟨cs',λj hj=>?_,q2⟩;have:=q1 j hj;rw[<-hsz]
   rwa[show off+d.size+(i*d.size+j)=off+((i+1)*d.size+j) by rw[Nat.succ_mul];omega])
  refine⟨?_,λy hy=>?_⟩
  ·simp only[fH,aY];refine⟨by rw[So k1,hl,hsz],Sm k1 k3 λj hj=>?_,r1⟩;have:=h1 j (by rw[<-hl];exact hj);simpa using this
  ·rcases eG.1 hy with rfl|hy
   ·exact k2
   ·exact r2 y hy
theorem ad8{w:World}{b off:Nat}{v:Value}(h:w.cell? ⟨b,off,μ⟩=δ v):b<w.heap.size:=by
 rcases Nat.lt_or_ge b w.heap.size with k|k
 ·exact k
 ·simp [ZV,alk k]at h
theorem qS{α:Type}{d:bK α}{e:α->au}{ok:α->Prop}(hX:∀b,¬c.X b)(H:RP c d e ok){sz:Nat}(hsz:d.size=sz)(h0:0<sz){v:Value}{l:List α}(h:(bM d).is c.w [v] l):an c (sl sz e l) v/\eB ok l/\cx v=θ:=by
 rcases h with⟨h1,rfl⟩|⟨b,off,sp,cap,h1,h2,h3,h4⟩
 ·simp only[ZX,and_true]at h1;subst h1;exact⟨by simp [sl,an,h0],⟨by simp,by simp⟩,rfl⟩
 ·simp only[ZX,and_true]at h1;subst h1
  have Ov:sp=μ\/l=[]:=by
   cases l with
   |nil=>exact .inr rfl
   |cons x l=>exact .inl (h4 0 (by simp)).1
  have hh:∀(i:Nat)(x:α),l[i]? =δ x->∃cs',(∀j,j<d.size->c.w.cell? ⟨b,off+(i*d.size+j),μ⟩=cs'[j]?)/\d.is c.w cs' x:=by intro i x hx;obtain⟨hi,hx⟩:=cL.1 hx;subst hx;exact(h4 i hi).2
  obtain⟨r1,r2⟩:=Sn H hsz hh;refine⟨?_,⟨by unfold maxLen at h3;unfold bu;omega,r2⟩,rfl⟩;simp only[sl,an];refine⟨δ ⟨b,off,sp⟩,cap,by simp,by simpa using h2,h0,?_⟩;rcases Ov with rfl|rfl
  ·cases l with
   |nil=>exact .inl rfl
   |cons x l=>
    refine .inr ⟨b,off,rfl,?_,hX b,r1⟩;obtain⟨cs,q1,q2⟩:=hh 0 x rfl;have hl:cs.length=d.size:=d.len q2;have:=q1 0 (by omega);obtain⟨y,hy⟩:∃y,cs[0]? =δ y:=⟨cs[0],bT (by omega)⟩
    rw[hy]at this;exact ad8 this
  ·exact .inl rfl
theorem qd:∀v∈([]:List Value),cx v=θ:=by simp
theorem cD{v:Value}{vs:List Value}(h:cx v=θ)(k:∀x∈vs,cx x=θ):∀x∈v::vs,cx x=θ:=by
 intro x hx;rcases eG.1 hx with rfl|hx
 ·exact h
 ·exact k x hx
theorem adN:RP c sA jI S6:=by rintro cs x ⟨rfl,h0,h1⟩;exact⟨(cq (fy _ _) (cq (fy _ _) pq)),⟨h0,h1⟩,(cD rfl (cD rfl qd))⟩
theorem adP:RP c vE lH Me:=by rintro cs x ⟨rfl,h0,h1,h2⟩;exact⟨(cq (fy _ _) (cq (fy _ _) (cq (vo _) pq))),⟨h0,h1,(show fN _ by unfold fN bu;have:=h2;unfold maxLen at this;omega)⟩,(cD rfl (cD rfl (cD rfl qd)))⟩
theorem adM(hX:∀b,¬c.X b):RP c vC jr S5:=by rintro cs x ⟨v0,rfl,h0,h1,h2,h3,h4,h6⟩;obtain⟨r6,o6,n6⟩:=qS hX adP (sz:=3) rfl (by decide) h6;exact⟨(cq (vo _) (cq (fy _ _) (cq (fy _ _) (cq (fy _ _) (cq (fy _ _) (cq (GH _) (cq r6 pq))))))),⟨(show fN _ by unfold fN bu;have:=h0;unfold maxLen at this;omega),h1,h2,h3,h4,o6⟩,(cD rfl (cD rfl (cD rfl (cD rfl (cD rfl (cD rfl (cD n6 qd)))))))⟩
theorem abj(hX:∀b,¬c.X b):RP c sw fD Gh:=by rintro cs x ⟨v0,rfl,h0,h1,h2⟩;obtain⟨r2,o2,n2⟩:=qS hX (adM hX) (sz:=7) rfl (by decide) h2;exact⟨(cq (vo _) (cq (fy _ _) (cq r2 pq))),⟨(show fN _ by unfold fN bu;have:=h0;unfold maxLen at this;omega),h1,o2⟩,(cD rfl (cD rfl (cD n2 qd)))⟩
theorem ae3:RP c sG gT TL:=by rintro cs x ⟨rfl,h0,h1,h2,h3⟩;exact⟨(cq (fy _ _) (cq (vo _) (cq (fy _ _) (cq (fy _ _) pq)))),⟨h0,(show fN _ by unfold fN bu;have:=h1;unfold maxLen at this;omega),h2,h3⟩,(cD rfl (cD rfl (cD rfl (cD rfl qd))))⟩
theorem abk:RP c vf qR Rm:=by rintro cs x ⟨rfl,h0,h1,h2⟩;exact⟨(cq (fy _ _) (cq (vo _) (cq (fy _ _) pq))),⟨⟨h0,(show fN _ by unfold fN bu;have:=h1;unfold maxLen at this;omega)⟩,h2⟩,(cD rfl (cD rfl (cD rfl qd)))⟩
theorem acD(hX:∀b,¬c.X b):RP c vn lC CT:=by rintro cs x ⟨v0,rfl,h0,h1,h2⟩;obtain⟨r2,o2,n2⟩:=qS hX abk (sz:=3) rfl (by decide) h2;exact⟨(cq (fy _ _) (cq (vo _) (cq r2 pq))),⟨h0,(show fN _ by unfold fN bu;have:=h1;unfold maxLen at this;omega),o2⟩,(cD rfl (cD rfl (cD n2 qd)))⟩
theorem ae2:RP c vI nF Hj:=by rintro cs x ⟨rfl,h0,h1,h2,h3,h6,h7⟩;exact⟨(cq (fy _ _) (cq (vo _) (cq (fy _ _) (cq (fy _ _) (cq (GH _) (cq (GH _) (cq (fy _ _) (cq (fy _ _) pq)))))))),⟨⟨h0,(show fN _ by unfold fN bu;have:=h1;unfold maxLen at this;omega)⟩,⟨h2,h3⟩,h6,h7⟩,(cD rfl (cD rfl (cD rfl (cD rfl (cD rfl (cD rfl (cD rfl (cD rfl qd))))))))⟩
theorem afS(hX:∀b,¬c.X b):RP c vR dY Dr:=by rintro cs x ⟨v0,v1,rfl,h0,h1,h2,h3,h4,h5,h6,h7,h9,h10⟩;obtain⟨r7,o7,n7⟩:=qS hX adN (sz:=2) rfl (by decide) h7;obtain⟨cz,o10,n10⟩:=qS hX ae2 (sz:=8) rfl (by decide) h10;exact⟨(cq (fy _ _) (cq (vo _) (cq (fy _ _) (cq (fy _ _) (cq (fy _ _) (cq (fy _ _) (cq (fy _ _) (cq r7 (cq (GH _) (cq (fy _ _) (cq cz pq))))))))))),⟨h0,(show fN _ by unfold fN bu;have:=h1;unfold maxLen at this;omega),h2,h3,h4,h5,⟨h6,o7⟩,h9,o10⟩,(cD rfl (cD rfl (cD rfl (cD rfl (cD rfl (cD rfl (cD rfl (cD n7 (cD rfl (cD rfl (cD n10 qd)))))))))))⟩
theorem ae1(hX:∀b,¬c.X b):RP c vH gO MC:=by rintro cs x ⟨v0,rfl,h0,h1⟩;obtain⟨r1,o1,n1⟩:=qS hX (afS hX) (sz:=11) rfl (by decide) h1;exact⟨(cq (fy _ _) (cq r1 pq)),⟨h0,o1⟩,(cD rfl (cD n1 qd))⟩
theorem aat:RP c ve gL QF:=by rintro cs x ⟨rfl,h0,h1,h2⟩;exact⟨(cq (fy _ _) (cq (fy _ _) (cq (fy _ _) pq))),⟨h0,h1,h2⟩,(cD rfl (cD rfl (cD rfl qd)))⟩
theorem adQ(hX:∀b,¬c.X b):RP c TW dQ tX:=by rintro cs x ⟨v0,v1,v2,v3,v4,rfl,h0,h1,h2,h3,h4⟩;obtain⟨r0,o0,n0⟩:=qS hX (abj hX) (sz:=3) rfl (by decide) h0;obtain⟨r1,o1,n1⟩:=qS hX ae3 (sz:=4) rfl (by decide) h1;obtain⟨r2,o2,n2⟩:=qS hX (acD hX) (sz:=3) rfl (by decide) h2;obtain⟨r3,o3,n3⟩:=qS hX (ae1 hX) (sz:=2) rfl (by decide) h3;obtain⟨r4,o4,n4⟩:=qS hX aat (sz:=3) rfl (by decide) h4;exact⟨(cq r0 (cq r1 (cq r2 (cq r3 (cq r4 pq))))),⟨⟨o0,o1⟩,o2,o3,o4⟩,(cD n0 (cD n1 (cD n2 (cD n3 (cD n4 qd)))))⟩
theorem adL:RP c G8 cE GV:=by rintro cs x ⟨rfl,h0,h1,h2,h3,h4,h5⟩;exact⟨(cq (fy _ _) (cq (fy _ _) (cq (fy _ _) (cq (fy _ _) (cq (fy _ _) (cq (fy _ _) pq)))))),⟨h0,⟨h1,h2,h3,h4,h5⟩⟩,(cD rfl (cD rfl (cD rfl (cD rfl (cD rfl (cD rfl qd))))))⟩
theorem afT{α:Type}{d:bK α}{e:α->au}{ok:α->Prop}(H:RP c d e ok){cs:Array Value}{x:α}(h:d.is c.w cs.toList x):an c (.agg (e x)) (.agg cs)/\ok x:=by obtain⟨h1,h2,h3⟩:=H _ _ h;simp only[an];exact⟨⟨cs,rfl,h1,h3⟩,h2⟩
end
end
section
open Go.RowKit
theorem afP{s:ByteArray}(h:s.size<=maxLen):fN s:=by unfold fN bu;unfold maxLen at h;omega
def base (W:World):RC:=ctx ⟨W,[],λ_=>False,aJ⟩ W [] cg
theorem Ts(W:World):∀b,¬(base W).X b:=by
 rintro b (k|⟨p,hp,_⟩|⟨i,k⟩)
 ·exact k
 ·cases hp
 ·cases k
theorem adu{n:FuncId}{m:au->Heap->aC}{jl:au}(hs:Sound Tryz.prog aJ n m)(hc:∀us w,(callFunc n us).run Tryz.prog w=.ok (.enter n us) w)(W:World)(hT:vK W (λ_=>False)) (vs:Array Value) (hr:aF (base W) jl vs.toList) (hm:m jl []=δ (.bool θ,[])):
  Calls Tryz.prog n vs W λe W'=>e=.returned (.bool θ)/\Below W.heap.size W W':=by
 have hZ:pN ⟨W,[],λ_=>False,aJ⟩:=⟨λ_(k:False)=>k.elim,hT.to (bL _) (λ_ _ _=>rfl) λb _ k=>by rcases k with k|⟨p,hp,_⟩;exact k;cases hp⟩
 have wu:fS (ctx ⟨W,[],λ_=>False,aJ⟩ W [] cg) []:=by
  refine⟨rfl,λi j p q hp=>?_,λi p x hp=>?_⟩
  ·simp [ctx]at hp
  ·simp [ctx]at hp
 rcases hs _ _ _ _ hm with⟨g,h1,h2⟩|hv
 case inr=>
  obtain⟨v,w',E',k1,_⟩:=hv ⟨W,[],λ_=>False,aJ⟩ vs rfl hZ wu hr;rw[hc]at k1;injection k1 with k1
  cases k1
 have hg:g=n:=by
  have e1:=h1 #[] W;rw[hc #[] W]at e1;injection e1 with e1
  injection e1 with e1
  exact e1.symm
 subst hg
 have hh:fS (ctx ⟨W,[],λ_=>False,aJ⟩ W [] cg) []:=by
  refine⟨rfl,λi j p q hp=>?_,λi p x hp=>?_⟩
  ·simp [ctx]at hp
  ·simp [ctx]at hp
 refine(h2 ⟨W,[],λ_=>False,aJ⟩ vs rfl hZ hh hr).mono ?_;rintro e w' ⟨v,E',rfl,ho,_,hv⟩;simp only[an]at hv;subst hv;exact⟨rfl,ho.os,ho.tape,ho.output,ho.size,λk hk=>ho.stay k hk (λp hp=>by cases hp)⟩
end
section
open Go.ChangeShapes Go.WideShapes Go.ChangeAt Go.RowKit
mutual
def Ur:DataW Unit->List Value
 |.lit (.int k z)=>[.int k z]
 |.agg l=>TC l
 |_=>[]
def TC:List (DataW Unit)->List Value
 |[]=>[]
 |d::l=>Ur d++TC l
end
def DS(d:DataW Unit):Obj->Obj
 |.cells _ t fr=>.cells (Ur d).toArray t fr
 |o=>o
theorem afd:(Tryz.prog.globals[3]?).map (·.type)=δ 237:=by kernel_rfl
theorem acf{W:World}(h:W.ShapedOpen Tryz.prog):Sg W:=cell_of_shapedOpen_int (g:=2) (t:=3) (zero:=#[Value.int ε 0]) h (of_decide_eq_true (by kernel_rfl)) (by kernel_rfl) rfl (by kernel_rfl) (by kernel_rfl) Tryz.underlying3
theorem adR {W : World} (h : Lib.TabIs Tryz.prog W "internal/strconv.uint64pow10" .u64 Lib.pow10Tab) (hs : W.ShapedOpen Tryz.prog) : vK W (fun _ => False) := by
 obtain⟨m,hm⟩:=acf hs;refine⟨⟨h,?_,id⟩,⟨m,hm⟩,?_,id⟩
 ·unfold Lib.TabIs World.var? at h;rw[Nj,aA]at h;split at h
  ·rename_i k;exact(uq.1 k).1
  ·cases h
 ·rcases Nat.lt_or_ge 2 W.heap.size with h'|h'
  ·exact h'
  ·simp [ZV,alk h']at hm
end
end
end Go.Proofs.YtpcafbmnjchmcaaGreatDoor
