/- Parts of the proof of CueTextsComeBack, in order. -/
import Derived.Deep.Slices
import Derived.Deep.DeepHandedRow
import Derived.Shelf.Vars
import Derived.Test.YtngdngjbofohaaaGreatDoorKCueTextsComeBack4
namespace Go.Proofs.YtngdngjbofohaaaGreatDoor
set_option linter.unusedVariables false
set_option linter.unusedSimpArgs false
set_option linter.unusedSectionVars false
set_option maxRecDepth 1000000
noncomputable section
open List renaming all_cons->Rq,nil_append->ZH,mem_cons_self->p6,isPrefixOf->Z8,append_nil->Zq,range_eq_range'->Z1,mem_iff_getElem->To,length_cons->n9,flatMap_cons->apc,length_map->XZ,map->Zt,length_nil->Zh,range'_succ->apw,getD->ZI,range'->ZQ,not_mem_nil->ZF,length_append->p5
open U renaming aD->IM,ah->η
open Bool renaming not_eq_true'->VC,false->ε,false_eq_true->n5,and_false->ZO,not_true->AV,not_false->Zy,true_and->Y8,true->ι,false_or->ZV,false_and->YM
open Option renaming some->δ,getD_none->ZZ,getD_some->ZY,bind->aph,none->μ
open A renaming add->u9,aH->n4,cond->Γ,deref->Ψ,loop->Zp,dL->VD,lss->ZS,tab->aoQ,bn->Zv,aN->p9,iter->aoM,not->Zo,cells->Φ
open AX renaming ret->l8,exit->i6,normal->y9
open Nat renaming le_trans->TN,add_zero->aps,le_succ_of_le->SW,zero_add->ZP
open Go.IntKind renaming i64->ξ
open _root_.Array renaming getElem?_eq_none->ao8
open List.cons renaming injEq->VP
open Go.DataW renaming trod_struct->Yi
open IntKind renaming i64->ξ
open Go.World renaming cell?->RD
section
open Lib
theorem anR(b:List UInt8):∀a:List UInt8,(34:UInt8)∉a->index (a++32::34::b) [32,34]=(a.length:Int)
 |[],_=>by rw[ZH,index];simp [Z8]
 |x::a,h=>by
  have ih:=anR b a (λm=>h (iR _ m));rw[iA,index]
  have hp:([32,34]:List UInt8).isPrefixOf (x::(a++32::34::b))=ε:=by
   cases a with
   |nil=>simp [Z8]
   |cons y a=>
    have hy:¬(34:UInt8)=y:=λe=>h (e▸iR _ p6)
    simp [Z8,hy]
  rw[hp,ih,aE (by simp),aE (by simp)];simp
theorem Tm:∀a:List UInt8,(34:UInt8)∉a->index a [32,34]=-1
 |[],_=>by rw[index];simp
 |x::a,h=>by
  have ih:=Tm a (λm=>h (iR _ m));rw[index]
  have hp:([32,34]:List UInt8).isPrefixOf (x::a)=ε:=by
   cases a with
   |nil=>simp [Z8]
   |cons y a=>
    have hy:¬(34:UInt8)=y:=λe=>h (e▸iR _ p6)
    simp [Z8,hy]
  rw[hp,ih];simp
theorem ae3{a b:List UInt8}(h:(34:UInt8)∉a):iL (bZ (a++32::34::b)) (⟨#[32,34]⟩:ByteArray)=(bZ a,bZ b,ι):=by unfold iL;rw[jh];show(bZ (cut (a++32::34::b) [32,34]).1,bZ (cut (a++32::34::b) [32,34]).2.1,(cut (a++32::34::b) [32,34]).2.2)=_;unfold cut;rw[anR b a h,aG (by omega)];simp
theorem ae4{a:List UInt8}(h:(34:UInt8)∉a):iL (bZ a) (⟨#[32,34]⟩:ByteArray)=(bZ a,⟨#[]⟩,ε):=by unfold iL;rw[jh];show(bZ (cut a [32,34]).1,bZ (cut a [32,34]).2.1,(cut a [32,34]).2.2)=_;unfold cut;rw[Tm a h,aE (by omega)];rfl
theorem agM{a:List UInt8}{s:ByteArray}(h:a.length+(lZ s).length<=9223372036854775807):cC (bZ a) s=δ (bZ (a++lZ s)):=by have:=fA h;rw[xk]at this;exact this
structure oq (c : aP) : Prop where
 num:1<=c.aY/\c.aY<=9999999
 title:(lZ c.title).all pc=ι/\(lZ c.title).length<=60
 xX:0<=c.br/\c.br<=36000000
 up:0<=c.up/\c.up<=36000000
 down:0<=c.down/\c.down<=36000000
 other:0<=c.other/\c.other<=36000000
 Fg:-1<=c.dr/\c.dr<=36000000
 cur:iw c.bS=0
 many:c.bJ.length<=2000
 Jz:∀m∈c.bJ,ou m
theorem adP{s:ByteArray}(h:tC s=ι):(lZ s).all pc=ι/\(lZ s).length<=60:=by
 unfold tC BB Dm at h;have e:s.size=(lZ s).length:=rfl;split at h
 ·rename_i hs;subst hs;exact⟨rfl,by decide⟩
 ·simp only[dZ,decide_eq_true_eq]at h;exact⟨h.1,by omega⟩
theorem agU{l:List aP}{i:Nat}{c:aP}(h:tW l i c=0):oq c:=by
 unfold tW at h;by_cases h1:aT c.aY 1 9999999=ι;case neg=>simp [h1]at h
 rw[aE (by simp [h1])]at h;by_cases h2:(decide (0<(i:Int))&&decide (c.aY<=(pv l i).aY))=ι
 ·rw[aG h2]at h;cases h
 rw[aE h2]at h;by_cases h3:tC c.title=ι;case neg=>simp [h3]at h
 rw[aE (by simp [h3])]at h;by_cases h4:(((((!(aT c.br 0 36000000))||(!(aT c.up 0 36000000)))||(!(aT c.down 0 36000000)))||(!(aT c.other 0 36000000)))||(!(aT c.dr (-1) 36000000)))=ι
 ·rw[aG h4]at h;cases h
 rw[aE h4]at h;by_cases h5:iw c.bS=0;case neg=>rw[aG h5]at h;exact absurd h h5
 rw[aE (by simp [h5])]at h;by_cases h6:2000<(c.bJ.length:Int)
 ·rw[aG h6]at h;cases h
 rw[aE h6]at h;simp only[Bool.or_eq_true,VC,not_or,Bool.not_eq_false,within_iff]at h4;obtain⟨⟨⟨⟨a1,a2⟩,a3⟩,a4⟩,a5⟩:=h4;refine⟨within_iff.1 h1,adP h3,a1,a2,a3,a4,a5,h5,by omega,λm hm=>?_⟩;obtain⟨j,hj,rfl⟩:=To.1 hm;have:=(Mc c.bJ 0).1 h j _ (cy hj);exact ahc this
def ff(w:List UInt8)(x:Int):List (List UInt8):=if 0<x then[w,lf x.toNat]else[]
def gA(b:Bool):List (List UInt8):=if b=ι then[[98,108,111,99,107]]else[]
def gj(f:Int):List (List UInt8):=if 0<=f then[[102,111,108,108,111,119],lf f.toNat]else[]
def fV(c:fZ):List (List UInt8):=if c.kind≠1 then[99,117,114,118,101]::lQ c.kind::c.bp.map jR else[]
def uz:List UInt8:=[100,101,108,97,121]
def qY:List UInt8:=[117,112]
def pH:List UInt8:=[100,111,119,110]
def nK:List UInt8:=[111,116,104,101,114]
def oZ(n:Int):List UInt8:=nC (n / 1000).toNat (n % 1000).toNat
def xW(c:aP):List (List UInt8):=ff uz c.br++(ff qY c.up++(ff pH c.down++(ff nK c.other++(gA c.block++(gj c.dr++fV c.bS)))))
def qN(c:aP):List UInt8:=[99,117,101]++tl (oZ c.aY::xW c)
def Ch(c:aP):List UInt8:=if lZ c.title=[]then[]else 32::34::(lZ c.title++[34])
def qj(c:aP):List UInt8:=qN c++Ch c
theorem wX{w:List UInt8}{x:Int}(hw:w.length<=10)(h:0<=x/\x<=36000000):(tl (ff w x)).length<=40:=by
 have:=uN (t:=x.toNat) (by omega);unfold ff;split
 ·simp [tl];omega
 ·simp [tl]
theorem UI(b:Bool):(tl (gA b)).length<=6:=by cases b<;>simp [gA,tl]
theorem anI{f:Int}(h:f<=36000000):(tl (gj f)).length<=40:=by
 unfold gj;split
 ·have:=uN (t:=f.toNat) (by omega);simp [tl];omega
 ·simp [tl]
theorem VI(c:fZ):tl (fV c)=if c.kind≠1 then[32,99,117,114,118,101,32]++vR c else[]:=by unfold fV vR;split<;>simp [tl]
theorem UQ{c:fZ}(h:iw c=0):(tl (fV c)).length<=510:=by
 have:=HU (CR h);rw[VI];split
 ·simp;omega
 ·simp
theorem Vd{n:Int}(h:1<=n/\n<=9999999):(oZ n).length<=20:=by have:=H6 (m:=(n / 1000).toNat) (r:=(n % 1000).toNat) (k:=9) (by omega) (by decide);unfold oZ;omega
theorem ae1{c:aP}(h:oq c):(tl (xW c)).length<=800:=by have h1:=wX (w:=uz) (by decide) h.xX;have h2:=wX (w:=qY) (by decide) h.up;have h3:=wX (w:=pH) (by decide) h.down;have h4:=wX (w:=nK) (by decide) h.other;have h5:=UI c.block;have h6:=anI h.Fg.2;have h7:=UQ h.cur;unfold xW;simp only[Di,p5];omega
theorem HN{c:aP}(h:oq c):(qN c).length<=900:=by have h1:=ae1 h;have h2:=Vd h.num;unfold qN;simp only[tl,p5,n9,Zh];omega
theorem Vy{c:aP}(h:oq c):(Ch c).length<=70:=by
 have:=h.title.2;unfold Ch;split
 ·simp
 ·simp only[p5,n9,Zh];omega
theorem HQ{c:aP}(h:oq c):(qj c).length<=970:=by have h1:=HN h;have h2:=Vy h;unfold qj;rw[p5];omega
theorem anH{α S B R γ:Type}{a b c d:α}{body:Nat->α->S->Option (Lr S B R)}{fin:S->Option B}{s0 s1 s2 s3 s4:S}{r:B}{K1:B->Option γ}{K2:R->Option γ}(h0:body 0 a s0=δ (.go s1))(h1:body 1 b s1=δ (.go s2))(h2:body 2 c s2=δ (.go s3))(h3:body 3 d s3=δ (.go s4))(hf:fin s4=δ r):gL [a,b,c,d] body fin s0 K1 K2=K1 r:=by rw[wR (by show 4<=cz;unfold cz;omega)];simp only[gh,h0,h1,h2,h3,hf,aB,eB,ZP];rfl
theorem G9{x:Int}(h:0<=x/\x<=36000000){e w s:List UInt8}(he:e=32::(w++[32]))(hw:w.length<=10)(hs:s.length<=1000):
  ((δ x).bind λbB=>
   ((if 0<bB then
      (δ x).bind λbP=>
      (oI bP).bind λfW=>
      (cC (bZ e) fW).bind λcr=>
      (cC (bZ s) cr).bind λct=>
      δ ct
     else
     δ (bZ s)):Option ByteArray).bind λqQ=>
   δ (Lr.go qQ:Lr ByteArray ByteArray Unit))=δ (.go (bZ (s++tl (ff w x)))):=by
 have hl:=uN (t:=x.toNat) (by omega);subst he;unfold ff;simp only[aB];by_cases hq:0<x
 ·rw[aG hq,aG hq,GZ h,aB,fA (by simp;omega),aB,fA (by simp;omega)];simp [tl]
 ·rw[aE hq,aE hq];simp [tl]
theorem aba{n:Int}(h:1<=n/\n<=9999999):yA n=δ (bZ (oZ n)):=afe (by omega) (by omega)
theorem acY{c:aP}(h:oq c):Cz c=δ (bZ (qj c++[10])):=by
 have h1:=wX (w:=uz) (by decide) h.xX;have h2:=wX (w:=qY) (by decide) h.up;have h3:=wX (w:=pH) (by decide) h.down;have h4:=wX (w:=nK) (by decide) h.other;have h5:=UI c.block;have h6:=anI h.Fg.2;have h7:=UQ h.cur;have h8:=Vd h.num;have h9:=HU (CR h.cur);have QF:=Vy h;unfold Cz;rw[aba h.num,aB,show(⟨#[99,117,101,32]⟩:ByteArray)=bZ [99,117,101,32]from rfl,fA (by simp;omega),aB]
 refine(anH (s1:=bZ (([99,117,101,32]++oZ c.aY)++tl (ff uz c.br))) (s2:=bZ ((([99,117,101,32]++oZ c.aY)++tl (ff uz c.br))++tl (ff qY c.up))) (s3:=bZ (((([99,117,101,32]++oZ c.aY)++tl (ff uz c.br))++tl (ff qY c.up))++tl (ff pH c.down))) (s4:=bZ ((((([99,117,101,32]++oZ c.aY)++tl (ff uz c.br))++tl (ff qY c.up))++tl (ff pH c.down))++tl (ff nK c.other)))
  (G9 h.xX (e:=[32,100,101,108,97,121,32]) (w:=uz) rfl (by decide) (by simp;omega)) (G9 h.up (e:=[32,117,112,32]) (w:=qY) rfl (by decide) (by simp;omega)) (G9 h.down (e:=[32,100,111,119,110,32]) (w:=pH) rfl (by decide) (by simp;omega)) (G9 h.other (e:=[32,111,116,104,101,114,32]) (w:=nK) rfl (by decide) (by simp;omega)) rfl).trans ?_
 generalize ht:(((([99,117,101,32]++oZ c.aY)++tl (ff uz c.br))++tl (ff qY c.up))++tl (ff pH c.down))++tl (ff nK c.other)=T;have hT:T.length<=200:=by rw[<-ht];simp;omega
 have bl:(show Option ByteArray from
    if c.block=ι then
     (cC (bZ T) (⟨#[32,98,108,111,99,107]⟩:ByteArray)).bind λcK=>
     δ cK
    else
    δ (bZ T))=δ (bZ (T++tl (gA c.block))):=by
  show(if c.block=ι then _ else _)=_;unfold gA;by_cases hq:c.block=ι
  ·rw[aG hq,aG hq,show(⟨#[32,98,108,111,99,107]⟩:ByteArray)=bZ [32,98,108,111,99,107]from rfl,fA (by simp;omega)];rfl
  ·rw[aE hq,aE hq];simp [tl]
 refine(congrArg (λo=>aph o _) bl).trans ?_;rw[aB]
 have fo:(show Option ByteArray from
    if 0<=c.dr then
     (oI c.dr).bind λzY=>
     (cC (⟨#[32,102,111,108,108,111,119,32]⟩:ByteArray) zY).bind λdS=>
     (cC (bZ (T++tl (gA c.block))) dS).bind λcZ=>
     δ cZ
    else
    δ (bZ (T++tl (gA c.block))))=δ (bZ ((T++tl (gA c.block))++tl (gj c.dr))):=by
  show(if 0<=c.dr then _ else _)=_;unfold gj at h6 ⊢;by_cases hq:0<=c.dr
  ·have:=uN (t:=c.dr.toNat) (by have:=h.Fg;omega);rw[aG hq,aG hq,GZ ⟨hq,h.Fg.2⟩,aB,show(⟨#[32,102,111,108,108,111,119,32]⟩:ByteArray)=bZ [32,102,111,108,108,111,119,32]from rfl,fA (by simp;omega),aB,fA (by simp;omega)];simp [tl]
  ·rw[aE hq,aE hq];simp [tl]
 refine(congrArg (λo=>aph o _) fo).trans ?_;rw[aB]
 have cu:(show Option ByteArray from
    if ¬(c.bS.kind=1)then
     (yy c.bS).bind λr32=>
     (cC (⟨#[32,99,117,114,118,101,32]⟩:ByteArray) r32.1).bind λeL=>
     (cC (bZ ((T++tl (gA c.block))++tl (gj c.dr))) eL).bind λeM=>
     δ eM
    else
    δ (bZ ((T++tl (gA c.block))++tl (gj c.dr))))=δ (bZ (((T++tl (gA c.block))++tl (gj c.dr))++tl (fV c.bS))):=by
  show(if ¬(c.bS.kind=1)then _ else _)=_;rw[VI];by_cases hq:¬(c.bS.kind=1)
  ·rw[aG hq,aG hq,abo h.cur,aB,show(⟨#[32,99,117,114,118,101,32]⟩:ByteArray)=bZ [32,99,117,114,118,101,32]from rfl];simp only;rw[fA (by simp;omega),aB,fA (by simp;omega)];simp
  ·rw[aE hq,aE hq,Zq]
 refine(congrArg (λo=>aph o _) cu).trans ?_;rw[aB]
 have hU:(((T++tl (gA c.block))++tl (gj c.dr))++tl (fV c.bS))=qN c:=by rw[<-ht];unfold qN xW;simp [tl,Di]
 rw[hU];have hA:=HN h
 have ti:(show Option ByteArray from
    if ¬(c.title=(⟨#[]⟩:ByteArray))then
     (cC (⟨#[32,34]⟩:ByteArray) c.title).bind λey=>
     (cC ey (⟨#[34]⟩:ByteArray)).bind λfk=>
     (cC (bZ (qN c)) fk).bind λfu=>
     δ fu
    else
    δ (bZ (qN c)))=δ (bZ (qj c)):=by
  show(if ¬(c.title=(⟨#[]⟩:ByteArray))then _ else _)=_;have htl:=h.title.2;unfold qj Ch;by_cases hq:c.title=(⟨#[]⟩:ByteArray)
  ·rw[aE (λk=>k hq),aG (by rw[hq]),Zq]
  ·have uk:¬lZ c.title=[]:=λk=>hq (by rw[<-xk c.title,k];rfl)
   rw[aG hq,aE uk,show(⟨#[32,34]⟩:ByteArray)=bZ [32,34]from rfl,show(⟨#[34]⟩:ByteArray)=bZ [34]from rfl,agM (by simp at htl ⊢;omega),aB,fA (by simp at htl ⊢;omega),aB,fA (by simp at htl ⊢;omega)]
   simp
 refine(congrArg (λo=>aph o _) ti).trans ?_;have hL:=HQ h;rw[aB,show(⟨#[10]⟩:ByteArray)=bZ [10]from rfl,fA (by simp;omega)];rfl
def hds(S:List (List UInt8))(ws:List (List UInt8)):Prop:=∀y,ws.head? =δ y->y∈S
theorem oa{S a b:List (List UInt8)}(h1:hds S a)(h2:hds S b):hds S (a++b):=by
 cases a with
 |nil=>exact h2
 |cons x a=>exact h1
theorem H7(S:List (List UInt8)):hds S []:=λy h=>by cases h
theorem Bo{S:List (List UInt8)}{w:List UInt8}{x:Int}(h:w∈S):hds S (ff w x):=by
 unfold ff;split
 ·intro y hy;injection hy with hy;exact hy▸h
 ·exact H7 S
def Cj:List UInt8:=[98,108,111,99,107]
def Ah:List UInt8:=[102,111,108,108,111,119]
def Af:List UInt8:=[99,117,114,118,101]
theorem Iu{S:List (List UInt8)}{b:Bool}(h:Cj∈S):hds S (gA b):=by
 unfold gA;split
 ·intro y hy;injection hy with hy;exact hy▸h
 ·exact H7 S
theorem Dh{S:List (List UInt8)}{f:Int}(h:Ah∈S):hds S (gj f):=by
 unfold gj;split
 ·intro y hy;injection hy with hy;exact hy▸h
 ·exact H7 S
theorem Bw{S:List (List UInt8)}{c:fZ}(h:Af∈S):hds S (fV c):=by
 unfold fV;split
 ·intro y hy;injection hy with hy;exact hy▸h
 ·exact H7 S
theorem MA{S ws:List (List UInt8)}{w:List UInt8}(h:hds S ws)(hw:w∉S):∀y r,ws=y::r->¬bZ y=bZ w:=by rintro y r rfl e;exact hw (pL e▸h y rfl)
theorem xR(a:ByteArray)(l:List ByteArray):cJ (a::l) 0=δ a:=rfl
theorem O8(a b:ByteArray)(l:List ByteArray):cJ (a::b::l) 1=δ b:=rfl
def Wl (i:Nat) (e:ByteArray) (q:aP×List ByteArray):Option (Lr (aP×List ByteArray) (aP×List ByteArray) Unit):=
  (if(!(decide ((q.2.length:Int)<2)))=ι then cJ q.2 0 else δ default).bind λx=>
  if((decide ((q.2.length:Int)<2))||(decide (¬(x=e))))=ι then δ (Lr.go q)
  else
  (cJ q.2 1).bind λy=>
  (lU y).bind λr=>
  if((decide (¬(r.2=0)))||(decide (r.1=0)))=ι then δ (.ret ())
  else
  (ju q.2 (δ 2) μ).bind λw3=>δ (.go (zi i r.1 q.1,w3))
theorem Ik{i:Nat}{w:List UInt8}{x:Int}{c c':aP}{S rest:List (List UInt8)}(h:0<=x/\x<=36000000)(hS:hds S rest)(hw:w∉S)(h1:0<x->c'=zi i x c)(h2:¬0<x->c'=c):
  Wl i (bZ w) (c,(ff w x++rest).map bZ)=δ (.go (c',rest.map bZ)):=by
 unfold Wl ff;by_cases hq:0<x
 ·rw[h1 hq];simp only[aG hq,iA,ZH,dJ];have hlen:¬((bZ w::bZ (lf x.toNat)::rest.map bZ).length:Int)<2:=by simp only[n9];omega
  rw[gJ hlen,xR,O8];simp only[Zy,if_true,aB,ZV,not_true_eq_false,decide_false,n5,if_false];rw[CI h,aB,aE (by simp;omega),Da];rfl
 ·rw[h2 hq];simp only[aE hq,ZH];cases rest with
  |nil=>rfl
  |cons y r=>
   have hne:=MA hS hw y r rfl;cases r with
   |nil=>rfl
   |cons z r=>
    simp only[dJ];have hlen:¬((bZ y::bZ z::r.map bZ).length:Int)<2:=by simp only[n9];omega
    rw[gJ hlen,xR];simp only[Zy,if_true,aB,ZV];rw[aG (by simpa using hne)]
theorem anW{c:aP}{cv:fZ}(h:iw cv=0)(hc:c.bS=⟨1,[]⟩):yP c ((fV cv).map bZ)=δ ({c with bS:=cv},ι):=by
 have ho:=CR h;have hl:=HU ho;unfold yP fV;by_cases hk:cv.kind=1
 ·have hp:=ho.X1 (by omega);rw[aE (show ¬(cv.kind≠1)from λk=>k hk)];obtain⟨n,t,d,u,w,o,cu,bl,f,m⟩:=c;obtain⟨k,p⟩:=cv;simp only at hk hp hc;subst hk hp hc;rfl
 ·rw[aG (show cv.kind≠1 from hk)];simp only[dJ];have hlen:(1:Int)<((bZ [99,117,114,118,101]::bZ (lQ cv.kind)::(cv.bp.map jR).map bZ).length:Int):=by simp only[n9];omega
  rw[mj hlen,aG rfl,xR,aB,aG (by simp;rfl),Nb,aB]
  have hj:(Zt lZ (bZ (lQ cv.kind)::(cv.bp.map jR).map bZ))=lQ cv.kind::cv.bp.map jR:=by simp [jh,Function.comp_def]
  have YN:Lib.join (Zt lZ (bZ (lQ cv.kind)::(cv.bp.map jR).map bZ)) (lZ (⟨#[32]⟩:ByteArray))=vR cv:=by rw[hj];exact afn _ _
  have hlp:=ho.len;rw[eO ⟨by simp;omega,by rw[YN];omega⟩,aB];have hjz:xx (bZ (lQ cv.kind)::(cv.bp.map jR).map bZ) (⟨#[32]⟩:ByteArray)=bZ (vR cv):=by unfold xx;rw[YN]
  rw[hjz,abq h,aB,aE (by simp [hk])]
theorem S3{c:aP}{cv:fZ}{f:Int}(h:iw cv=0)(hc:c.bS=⟨1,[]⟩)(hf:-1<=f/\f<=36000000)(Jr:c.dr=-1):Bh c ((gj f++fV cv).map bZ)=δ ({c with bS:=cv,dr:=f},ι):=by
 unfold Bh gj;by_cases hq:0<=f
 ·rw[aG hq];simp only[iA,ZH,dJ];have hlen:(1:Int)<((bZ [102,111,108,108,111,119]::bZ (lf f.toNat)::(fV cv).map bZ).length:Int):=by simp only[n9];omega
  rw[mj hlen,aG rfl,xR,aB,aG (by simp;rfl),O8,aB,CI ⟨hq,hf.2⟩,aB,aE (by simp),Da,aB,anW h (by exact hc)]
 ·have e:f=-1:=by omega
  rw[aE hq];simp only[ZH]
  have key:yP c ((fV cv).map bZ)=δ ({c with bS:=cv,dr:=f},ι):=by rw[anW h hc,e,<-Jr]
  have hS:hds [Af] (fV cv):=Bw (by simp);cases hv:fV cv with
  |nil=>rw[hv]at key;exact key
  |cons y r=>
   have hne:=MA hS (w:=Ah) (by decide) y r hv;rw[hv]at key;simp only[dJ]at key ⊢;rw[xR];split
   ·rw[aB,aE]
    ·exact key
    ·simp only[dZ,decide_eq_true_eq,not_and];exact λ_=>hne
   ·rename_i hlt;rw[aB,aE]
    ·exact key
    ·simp only[dZ,decide_eq_true_eq,not_and];intro k;simp only[decide_eq_true_eq]at hlt;exact absurd k hlt
theorem adF{c:aP}{cv:fZ}{f:Int}{b:Bool}(h:iw cv=0)(hc:c.bS=⟨1,[]⟩)(hf:-1<=f/\f<=36000000)(Jr:c.dr=-1)(hb:c.block=ε):
  (if decide (0<(((gA b++(gj f++fV cv)).map bZ).length:Int))=ι then cJ ((gA b++(gj f++fV cv)).map bZ) 0 else δ default).bind (λx=>
  ((if((decide (0<(((gA b++(gj f++fV cv)).map bZ).length:Int)))&&(decide (x=(⟨#[98,108,111,99,107]⟩:ByteArray))))=ι then(ju ((gA b++(gj f++fV cv)).map bZ) (δ 1) μ).bind λw3=>δ ({c with block:=ι},w3)else δ (c,(gA b++(gj f++fV cv)).map bZ)):Option (aP×List ByteArray)).bind λq=>
  Bh q.1 q.2)=δ ({c with block:=b,bS:=cv,dr:=f},ι):=by
 cases b with
 |true=>
  simp only[gA,if_true,iA,ZH,dJ];have hlen:(0:Int)<((bZ [98,108,111,99,107]::(gj f++fV cv).map bZ).length:Int):=by simp only[n9];omega
  rw[mj hlen,aG rfl,xR,aB,aG (by simp;rfl),Nb,aB,aB];exact S3 (c:={c with block:=ι}) h hc hf Jr
 |false=>
  have e:gA ε++(gj f++fV cv)=gj f++fV cv:=rfl;rw[e];have key:=S3 (c:=c) h hc hf Jr;have hS:hds [Ah,Af] (gj f++fV cv):=oa (Dh (by simp)) (Bw (by simp));have vn:δ (({c with bS:=cv,dr:=f}:aP),ι)=δ (({c with block:=ε,bS:=cv,dr:=f}:aP),ι):=by rw[<-hb]
  rw[<-vn];cases hv:gj f++fV cv with
  |nil=>rw[hv]at key;exact key
  |cons y r=>
   have hne:=MA hS (w:=Cj) (by decide) y r hv;rw[hv]at key;simp only[dJ]at key ⊢;rw[xR,aG (by simp),aB,aE,aB]
   ·exact key
   ·simp only[dZ,decide_eq_true_eq,not_and];exact λ_=>hne
theorem HJ{w:List UInt8}{x:Int}(hw:fF w):∀v∈ff w x,fF v:=by
 unfold ff;split
 ·intro v hv;simp only[dW,ZF,or_false]at hv;rcases hv with rfl|rfl
  ·exact hw
  ·exact Dc _
 ·simp
theorem UL(c:aP):∀v∈oZ c.aY::xW c,fF v:=by
 intro v hv;rcases dW.1 hv with rfl|hv
 ·exact agd (by omega)
 unfold xW at hv;simp only[ga]at hv;rcases hv with hv|hv|hv|hv|hv|hv|hv
 ·exact HJ (by unfold fF;decide) v hv
 ·exact HJ (by unfold fF;decide) v hv
 ·exact HJ (by unfold fF;decide) v hv
 ·exact HJ (by unfold fF;decide) v hv
 ·unfold gA at hv;split at hv
  ·simp only[dW,ZF,or_false]at hv;subst hv;unfold fF;decide
  ·cases hv
 ·unfold gj at hv;split at hv
  ·simp only[dW,ZF,or_false]at hv;rcases hv with rfl|rfl
   ·unfold fF;decide
   ·exact Dc _
  ·cases hv
 ·unfold fV at hv;split at hv
  ·simp only[dW]at hv;rcases hv with rfl|rfl|hv
   ·unfold fF;decide
   ·exact VF _
   ·obtain⟨p,_,rfl⟩:=jJ.1 hv;exact VG p
  ·cases hv
theorem NM{c:UInt8}(hc:c≠32):∀{ws:List (List UInt8)},(∀w∈ws,c∉w)->c∉tl ws
 |[],_=>by simp [tl]
 |w::r,h=>by
  have:=NM hc (ws:=r) λv hv=>h v (iR _ hv)
  have hw:=h w p6;simp only[tl,dW,ga,not_or];exact⟨hc,hw,this⟩
theorem V4{c:aP}{x:UInt8}(h1:x≠32)(h2:x∈([10,32,34]:List UInt8))(h3:x∉([99,117,101]:List UInt8)):x∉qN c:=by
 unfold qN;rw[ga];rintro(m|m)
 ·exact h3 m
 ·exact NM h1 (λw hw=>UL c w hw x h2) m
theorem aaN{n:Int}(h:1<=n/\n<=9999999):yz (bZ (oZ n))=δ (n,ι):=by unfold oZ;rw[aaO (by omega) (by omega)];congr 2;omega
theorem UA{c:aP}(h:oq c){tt:ByteArray}:BA {oP with title:=tt} (bZ (qN c))=δ ({c with title:=tt,bJ:=[]},ι):=by
 have hA:=HN h;unfold BA;rw[eO ⟨by rw[eE];omega,by decide⟩,aB]
 have hsp:mS (bZ (qN c)) (⟨#[32]⟩:ByteArray)=bZ [99,117,101]::bZ (oZ c.aY)::(xW c).map bZ:=by unfold qN;rw[IB _ _ (by unfold fF;decide) (UL c)];rfl
 rw[hsp];have hlen:¬((bZ [99,117,101]::bZ (oZ c.aY)::(xW c).map bZ).length:Int)<2:=by simp only[n9];omega
 rw[gJ hlen,aG (by rfl),xR,aB,aE (by simp;rfl),O8,aB,aaN h.num,aB,aE (by simp),Da,aB];obtain⟨n,t,d,u,w,o,cv,bl,f,m⟩:=c;have hd:=h.xX;have hu:=h.up;have hw:=h.down;have ho:=h.other;simp only at hd hu hw ho;have s1:hds [qY,pH,nK,Cj,Ah,Af] (ff qY u++(ff pH w++(ff nK o++(gA bl++(gj f++fV cv))))):=oa (Bo (by simp)) (oa (Bo (by simp)) (oa (Bo (by simp)) (oa (Iu (by simp)) (oa (Dh (by simp)) (Bw (by simp))))));have s2:hds [pH,nK,Cj,Ah,Af] (ff pH w++(ff nK o++(gA bl++(gj f++fV cv)))):=oa (Bo (by simp)) (oa (Bo (by simp)) (oa (Iu (by simp)) (oa (Dh (by simp)) (Bw (by simp)))));have s3:hds [nK,Cj,Ah,Af] (ff nK o++(gA bl++(gj f++fV cv))):=oa (Bo (by simp)) (oa (Iu (by simp)) (oa (Dh (by simp)) (Bw (by simp))));have s4:hds [Cj,Ah,Af] (gA bl++(gj f++fV cv)):=oa (Iu (by simp)) (oa (Dh (by simp)) (Bw (by simp)));refine(anH (s1:=(⟨n,tt,d,0,0,0,⟨1,[]⟩,ε,-1,[]⟩,(ff qY u++(ff pH w++(ff nK o++(gA bl++(gj f++fV cv))))).map bZ)) (s2:=(⟨n,tt,d,u,0,0,⟨1,[]⟩,ε,-1,[]⟩,(ff pH w++(ff nK o++(gA bl++(gj f++fV cv)))).map bZ)) (s3:=(⟨n,tt,d,u,w,0,⟨1,[]⟩,ε,-1,[]⟩,(ff nK o++(gA bl++(gj f++fV cv))).map bZ)) (s4:=(⟨n,tt,d,u,w,o,⟨1,[]⟩,ε,-1,[]⟩,(gA bl++(gj f++fV cv)).map bZ)) ?_ ?_ ?_ ?_ rfl).trans ?_
 ·exact Ik (i:=0) (w:=uz) (x:=d) hd s1 (by decide) (λ_=>rfl) (λk=>by rw[show d=0 by omega];rfl)
 ·exact Ik (i:=1) (w:=qY) (x:=u) hu s2 (by decide) (λ_=>rfl) (λk=>by rw[show u=0 by omega])
 ·exact Ik (i:=2) (w:=pH) (x:=w) hw s3 (by decide) (λ_=>rfl) (λk=>by rw[show w=0 by omega])
 ·exact Ik (i:=3) (w:=nK) (x:=o) ho s4 (by decide) (λ_=>rfl) (λk=>by rw[show o=0 by omega])
 ·exact adF (c:=⟨n,tt,d,u,w,o,⟨1,[]⟩,ε,-1,[]⟩) h.cur rfl h.Fg rfl rfl
theorem adw{c:aP}(h:oq c):yC (bZ (qj c))=δ ({c with bJ:=[]},ι):=by
 have hL:=HQ h;have hA:=HN h;unfold yC;rw[eO (by rw[eE];omega),aB];have hq:=V4 (c:=c) (x:=34) (by decide) (by decide) (by decide);have htl:=h.title.2;unfold qj Ch;by_cases ht:lZ c.title=[]
 ·rw[aG ht,Zq,ae4 hq,aE (by simp)];have e:c.title=⟨#[]⟩:=by rw[<-xk c.title,ht];rfl
  have:=UA h (tt:=⟨#[]⟩);rw[show({oP with title:=⟨#[]⟩}:aP)=oP from rfl]at this;rw[this,<-e]
 ·rw[aE ht,ae3 hq,aG rfl];simp only;rw[show(⟨#[34]⟩:ByteArray)=bZ [34]from rfl,Sa (by decide) (by omega),aB,aE]
  ·simp only;rw[xk];exact UA h
  ·simp only[AV,ZV,decide_eq_true_eq];exact λe=>ht (pL (e:bZ _=bZ []))
end
section
open Lib
def iW:List (List UInt8)->List UInt8
 |[]=>[]
 |a::r=>a++10::iW r
theorem U8:∀a b:List (List UInt8),iW (a++b)=iW a++iW b
 |[],b=>rfl
 |x::a,b=>by simp [iW,U8 a b]
theorem MZ:∀ls:List (List UInt8),ls.length<=(iW ls).length
 |[]=>cg _
 |a::r=>by have:=MZ r;simp only[iW,p5,n9];omega
theorem Uz:∀ls:List (List UInt8),(∀a∈ls,(10:UInt8)∉a)->mS (bZ (iW ls)) ⟨#[10]⟩=ls.map bZ++[bZ []]
 |[],_=>by rw[iW,TJ (by simp)];rfl
 |a::r,h=>by rw[iW,TI (h a p6),Uz r λb hb=>h b (iR _ hb)];rfl
theorem aeQ{ls:List (List UInt8)}(h:∀a∈ls,(10:UInt8)∉a)(hl:(iW ls).length<=600000):AT (bZ (iW ls))=δ (ls.map bZ,ι):=by
 have hle:=MZ ls;unfold AT;cases hls:ls with
 |nil=>rw[iW,aG (show bZ []=(⟨#[]⟩:ByteArray)from rfl)];rfl
 |cons a r=>
  rw[<-hls]
  have hne:¬bZ (iW ls)=(⟨#[]⟩:ByteArray):=λe=>by have:=pL (e:bZ _=bZ []);rw[hls,iW]at this;simp at this
  have e1:ξ.wrap (((ls.map bZ++[bZ []]).length:Int) -1)=((ls.map bZ).length:Int):=by rw[dh (by unfold aR;simp;omega)];simp
  rw[aE hne,eO ⟨by rw[eE];omega,by decide⟩,aB,Uz ls h,e1]
  have e2:cJ (ls.map bZ++[bZ []]) ((ls.map bZ).length:Int)=δ (bZ []):=by unfold cJ;rw[aG (by omega)];simp
  rw[e2,aB,aG (by rfl)]
  have e3:ju (ls.map bZ++[bZ []]) μ (δ ((ls.map bZ).length:Int))=δ (ls.map bZ):=by unfold ju;simp only[ZY,ZZ];rw[aG ⟨by omega,by omega,by simp;omega⟩];simp
  rw[e3];rfl
def tF(m:aJ):List UInt8:=32::32::sK m
def lV(c:aP):List (List UInt8):=qj c::c.bJ.map tF
def pE(l:List aP):List UInt8:=iW (l.flatMap lV)
theorem acn{l:List UInt8}(h:l.all pc=ι):(10:UInt8)∉l:=λm=>by have:=kV.1 h _ m;revert this;decide
theorem aer{c:aP}(h:oq c):(10:UInt8)∉qj c:=by
 have h1:=acn h.title.1;have h2:=V4 (c:=c) (x:=10) (by decide) (by decide) (by decide);unfold qj Ch;rw[ga];rintro(m|m)
 ·exact h2 m
 ·split at m
  ·cases m
  ·simp at m;exact h1 (by simpa using m)
theorem afA{m:aJ}(h:ou m):(10:UInt8)∉tF m:=by
 have h1:=(aof h).n;have h2:=NM (c:=10) (by decide) λw hw=>(anN h w hw).n
 unfold tF sK;simp only[dW,ga,not_or];exact⟨by decide,by decide,h1,h2⟩
theorem acm{l:List aP}(h:∀c∈l,oq c):∀a∈l.flatMap lV,(10:UInt8)∉a:=by
 intro a ha;obtain⟨c,hc,ha⟩:=List.mem_flatMap.1 ha;unfold lV at ha;rcases dW.1 ha with rfl|ha
 ·exact aer (h c hc)
 ·obtain⟨m,hm,rfl⟩:=jJ.1 ha;exact afA ((h c hc).Jz m hm)
def xj (q:List ByteArray×Bool) (i:Nat) (e:ByteArray) (l:List aP):Option (Lr (List aP) (List aP) Int):=
  (wF e (⟨#[32,32]⟩:ByteArray)).bind λp=>
  ((if((rG q i&&p.2)&&decide (0<(l.length:Int)))=ι then
    (wK p.1).bind λm=>if Ds l=ι then δ (BH l m.1,m.2)else μ
   else if rG q i=ι then
    (yC e).bind λc=>if l.length+1<=1099511627776 then δ (l++[c.1],c.2)else μ
   else δ (l,rG q i)):Option (List aP×Bool)).bind λs=>
  if(!s.2)=ι then δ (Lr.ret (ξ.wrap ((i:Int)+1)))else δ (.go s.1)
theorem agB{q:List ByteArray}{i:Nat}{c:aP}{l:List aP}(h:oq c)(hl:l.length<=1000):xj (q,ι) i (bZ (qj c)) l=δ (.go (l++[{c with bJ:=[]}])):=by have hL:=HQ h;unfold xj;rw[show(⟨#[32,32]⟩:ByteArray)=bZ [32,32]from rfl,GJ (by decide) (by omega)];have hp:([32,32]:List UInt8).isPrefixOf (qj c)=ε:=rfl;rw[hp,aE (by simp),aB];simp only[rG,Bool.true_or,ZO,YM,n5,if_false,if_true];rw[adw h,aB,aG (by omega),aB];rfl
theorem ahd{q:List ByteArray}{i:Nat}{c:aP}{m:aJ}{l:List aP}(h:ou m)(hl:l.length<=1000)(hc:c.bJ.length<=2000):xj (q,ι) i (bZ (tF m)) (l++[c])=δ (.go (l++[{c with bJ:=c.bJ++[m]}])):=by
 have hL:=Ia h;unfold xj tF;rw[show(⟨#[32,32]⟩:ByteArray)=bZ [32,32]from rfl,GJ (by decide) (by simp;omega)];have hp:([32,32]:List UInt8).isPrefixOf (32::32::sK m)=ι:=by simp [Z8]
 have aop:(l++[c])[(l++[c]).length-1]? =δ c:=by simp
 have hroom:Ds (l++[c])=ι:=by unfold Ds;rw[aop];simp;try omega
 have I0:BH (l++[c]) m=l++[{c with bJ:=c.bJ++[m]}]:=by unfold BH;rw[aop];simp
 rw[hp,aG rfl,aB];simp only[rG,Bool.true_or,Y8];rw[aG (by simp;try omega)];show(((wK (bZ (sK m))).bind _).bind _)=_;rw[acs h,aB,aG hroom,aB,I0];rfl
theorem UZ{α S B R:Type}{body:Nat->α->S->Option (Lr S B R)}{fin:S->Option B}{x:α}{l:List α}{i:Nat}{s s':S}(h:body i x s=δ (.go s')):gh body fin (x::l) i s=gh body fin l (i+1) s':=by rw[gh,h];rfl
theorem We{q:List ByteArray}{fin:List aP->Option (List aP)}{l:List aP}(hl:l.length<=1000):∀(ms:List aJ)(c:aP)(i:Nat)(rest:List ByteArray),(∀m∈ms,ou m)->c.bJ.length+ms.length<=2000->
  ∃j,gh (xj (q,ι)) fin ((ms.map tF).map bZ++rest) i (l++[c])=gh (xj (q,ι)) fin rest j (l++[{c with bJ:=c.bJ++ms}])
 |[],c,i,rest,_,_=>⟨i,by simp⟩
 |m::ms,c,i,rest,h,hc=>by simp only[n9]at hc;obtain⟨j,hj⟩:=We hl ms {c with bJ:=c.bJ++[m]} (i+1) rest (λx hx=>h x (iR _ hx)) (by simp;omega);refine⟨j,?_⟩;rw[dJ,dJ,iA,UZ (ahd (h m p6) hl (by omega)),hj];simp
theorem Vr{q:List ByteArray}{fin:List aP->Option (List aP)}:∀(cs:List aP)(l:List aP)(i:Nat),(∀c∈cs,oq c)->l.length+cs.length<=1000->
  gh (xj (q,ι)) fin ((cs.flatMap lV).map bZ) i l=(fin (l++cs)).map .inl
 |[],l,i,_,_=>by simp [gh]
 |c::cs,l,i,h,hl=>by simp only[n9]at hl;have hc:=h c p6;rw[apc,List.map_append];unfold lV;rw[dJ,iA,UZ (agB hc (by omega))];obtain⟨j,hj⟩:=We (q:=q) (fin:=fin) (l:=l) (by omega) c.bJ {c with bJ:=[]} (i+1) ((cs.flatMap lV).map bZ) hc.Jz (by have:=hc.many;simp;omega);rw[show(λc:aP=>qj c::c.bJ.map tF)=lV from rfl,hj,Vr cs _ j (λx hx=>h x (iR _ hx)) (by simp;omega)];simp
theorem MV{l:List aP}(h:tM l=0):l.length<=300/\∀c∈l,oq c:=by
 unfold tM at h;by_cases h1:300<(l.length:Int)
 ·rw[aG h1]at h;cases h
 rw[aE h1]at h;by_cases h2:gK (tW l) l 0=0;case neg=>rw[aG h2]at h;exact absurd h h2
 refine⟨by omega,λc hc=>?_⟩;obtain⟨j,hj,rfl⟩:=To.1 hc;exact agU ((Mc l 0).1 h2 j _ (cy hj))
theorem Mi{r:ef}{ps:List fY}{l:List aP}(h:rO r ps l=0):uH r ps=0/\tM l=0:=by
 unfold rO at h;by_cases h1:uH r ps=0;case neg=>rw[aG h1]at h;exact absurd h h1
 rw[aE (by simp [h1])]at h;by_cases h2:tM l=0;case neg=>rw[aG h2]at h;exact absurd h h2
 exact⟨h1,h2⟩
theorem acN{r:ef}{ps:List fY}{l:List aP}(hr:pQ r)(hp:dX uG ps)(hl:dX rQ l)(h:rO r ps l=0)(hs:(pE l).length<=600000):CM r ps (bZ (pE l))=δ (l,0,0):=by
 obtain⟨h1,h2⟩:=Mi h;obtain⟨h3,h4⟩:=MV h2;unfold CM;rw[RM r ps hr hp,aB,h1,eO (by show 2<=cz;unfold cz;omega),aB];have hz:¬(600000<((bZ (pE l)).size:Int)):=by rw[eE];omega
 rw[gJ hz];rw[aE (by simp)];have YO:=MZ (l.flatMap lV);have hs':(iW (l.flatMap lV)).length<=600000:=hs;rw[show pE l=iW (l.flatMap lV)from rfl,aeQ (acm h4) hs',aB];refine(wR (body:=xj ((l.flatMap lV).map bZ,ι)) (by rw[XZ];unfold cz;omega)).trans ?_;rw[Vr l [] 0 h4 (by simp;omega)];simp only[ZH,eB,aB,Sum.elim_inl];show((yB r ps l).bind _)=_;rw[R9 r ps l hr hp hl,aB,h];rfl
end
theorem VO{α:Type}{l:List α}{body:Nat->α->Unit->Option (Lr Unit Unit Unit)}{K:Unit->Option Bool}(hl:l.length<=cz)(hb:∀i x,l[i]? =δ x->body i x ()=δ (.go ())):gL l body (λs=>δ ()) () (λ_=>δ ι) K=δ ι:=by
 rw[Te (p:=λ_=>ε) (r:=λ_=>()) hl (λi x hx=>by rw[hb i x hx];rfl)];have:l.find? (λ_=>ε)=μ:=by simp
 rw[this]
theorem adK(l:List eA)(hl:l.length<=cz):Aq l l=δ ι:=by
 unfold Aq;simp only[not_true_eq_false,if_false];refine VO hl λi x hx=>?_
 rw[Na (x:=x) (by omega) (by simpa using hx)];simp
theorem adJ(l:List aJ)(hl:l.length<=cz):Ar l l=δ ι:=by
 unfold Ar;simp only[not_true_eq_false,if_false];refine VO hl λi x hx=>?_
 rw[Na (x:=x) (by omega) (by simpa using hx)];simp
theorem adA(c:aP)(h:rQ c):CD c c=δ ι:=by unfold CD;have h1:c.bS.bp.length<=cz:=h.2.2.2.2.2.2.1.2.1;have h2:c.bJ.length<=cz:=h.2.2.2.2.2.2.2.2.1;simp only[decide_true,Bool.and_self,if_true,adK _ h1,adJ _ h2,aB]
theorem acE(l:List aP)(hl:dX rQ l)(σ:Heap):KP [sl 11 bY l,sl 11 bY l] σ=δ (.bool ι,σ):=by
 have hd:∀x∈l,aoQ (λ_ _=>μ) [(201,wM)] 201 [.agg (bY x),.agg (bY x)] σ=δ (.bool ι,σ):=λx hx=>aaY (adA x (hl.2 x hx))
 have key:Gi (aoQ (λ_ _=>μ) [(201,wM)]) [sl 11 bY l,sl 11 bY l,.fn 201 []] σ=δ (.bool ι,σ):=by
  refine wrap_eq rfl ?_ rfl;show Gj _ (sl 11 bY l) (sl 11 bY l) (.fn 201 []) σ=_;unfold Gj;rw[dc,aB,aB,fC,aB,gJ (by simp)];show((Zp _ _ _).bind _)=_
  have ag3:∀(pre rest:List aP),l=pre++rest->∃n,aoM (λv5 s6=>
    (ZS (ak v5 1) (.ah (l.length:Int))).bind λx8=>
    Γ x8 (
     (Zv 11 (sl 11 bY l) (ak v5 1)).bind λx9=>
     ((Ψ x9 s6).bind λdR=>p9 0 11 dR).bind λbB=>
     (Φ 11 bB).bind λeu=>
     (n4 0 eu [(η 0),aV,(η 0),(η 0),(η 0),(η 0),(η 0),IM,aC,(η 0),IM]).bind λqh=>
     (Zv 11 (sl 11 bY l) (ak v5 1)).bind λcr=>
     ((Ψ cr s6).bind λiU=>p9 0 11 iU).bind λcq=>
     (Φ 11 cq).bind λiE=>
     (n4 0 iE [(η 0),aV,(η 0),(η 0),(η 0),(η 0),(η 0),IM,aC,(η 0),IM]).bind λjo=>
     (p9 0 11 qh).bind λcE=>
     (p9 0 11 jo).bind λcK=>
     (A.rK (aoQ (λ_ _=>μ) [(201,wM)]) (.fn 201 []) [cE,cK] s6).bind λqp=>
     (Zo qp.1).bind λbV=>
     Γ bV (
      δ (l8,[aC,(ak v5 1)],qp.2)) (
      (u9 (ak v5 1) (η 1)).bind λcQ=>
      δ (y9,[(ak v5 0),cQ],qp.2))) (
     δ (i6 0,[(ak v5 0),(ak v5 1)],s6))) n [.bool ε,.ah (pre.length:Int)] σ=δ (.exit 0,[.bool ε,.ah (l.length:Int)],σ):=by
   intro pre rest;induction rest generalizing pre with
   |nil=>intro h;rw[Zq]at h;subst h;refine uF ?_ (by simp);simp only[List.getD_cons_zero,List.getD_cons_succ];rw[kQ];rfl
   |cons x rest ih=>
    intro h;have hx:l[pre.length]? =δ x:=by rw[h];simp
    have Qr:=hd x (cW hx);refine sY (σ':=σ) (v':=[.bool ε,.ah ((pre.length+1:Nat):Int)]) ?_ ?_
    ·simp only[List.getD_cons_zero,List.getD_cons_succ];rw[kS hx,aB];show((Zv 11 (sl 11 bY l) (.ah (pre.length:Int))).bind _)=_;rw[kF hx,aB];have hsp:n4 0 (bY x) [(η 0),aV,(η 0),(η 0),(η 0),(η 0),(η 0),IM,aC,(η 0),IM]=δ (bY x):=M9 _ _ rfl;simp only[Ψ,aB,afG,aeV,hsp,kF hx,A.rK,Zq];rw[Qr,aB,show Zo (.bool ι)=δ (.bool ε)from rfl,aB];simp only[Γ,bA];rw[kG hx hl.1];rfl
    ·have:=ih (pre++[x]) (by rw[h];simp);rwa[p5,List.length_singleton]at this
  obtain⟨n,hn⟩:=ag3 [] l rfl;rw[Zh]at hn;erw[yD hn];exact bf _ _
 refine wrap_eq rfl ?_ rfl;rw[show VD [Sh.e 11 [.k,.k,.k,.k,.k,.k,.k,.s 2,.k,.k,.s 8],Sh.e 11 [.k,.k,.k,.k,.k,.k,.k,.s 2,.k,.k,.s 8]] [sl 11 bY l,sl 11 bY l]=[sl 11 bY l,sl 11 bY l]from fB (ng (λ_=>rfl) _) (fB (ng (λ_=>rfl) _) rP)];show GC (sl 11 bY l) (sl 11 bY l) σ=_;unfold GC;rw[key,aB];exact bf _ _
theorem Vb:∀ms:List aJ,(∀m∈ms,ou m)->xy (ms.map aW)=δ (iW (ms.map tF))
 |[],_=>rfl
 |m::ms,h=>by
  have e1:=amZ (σ:=[]) (acj (h m p6));have ih:=Vb ms λx hx=>h x (iR _ hx)
  rw[dJ];generalize ms.map aW=R at ih ⊢;unfold aW at e1 ⊢;rw[xy,e1];simp only[ih,eB,dJ,iW];congr 1;rw[jh];simp [tF]
theorem UP:∀l:List aP,(∀c∈l,oq c)->yS (l.map bY)=δ (pE l)
 |[],_=>rfl
 |c::l,h=>by
  have hc:=h c p6;have e1:=aaq (σ:=[]) (acY hc);have ih:=UP l λx hx=>h x (iR _ hx)
  have e2:=Vb c.bJ hc.Jz;have hm:(c.bJ.map aW).length<=cz:=by rw[XZ];have:=hc.many;unfold cz;omega
  rw[dJ];generalize l.map bY=R at ih ⊢;unfold bY sl at e1 ⊢;rw[yS,e1];simp only[aG hm,e2,ih,aB,eB];congr 1;rw[jh];unfold pE;rw[apc,U8];unfold lV;simp [iW]
theorem af7{r:ef}{ps:List fY}{l:List aP}(hr:pQ r)(hp:dX uG ps)(hl:dX rQ l):
  (rO r ps l≠0/\uE [.agg (cR r),sl 3 gT ps,sl 11 bY l] []=δ (.az [.str ⟨#[]⟩,.ah (rO r ps l)],[]))\/
  (rO r ps l=0/\600000<(pE l).length/\((pE l).length<=140737488355328->uE [.agg (cR r),sl 3 gT ps,sl 11 bY l] []=δ (.az [.str ⟨#[]⟩,.ah 2],[])))\/
  (rO r ps l=0/\(pE l).length<=600000/\uE [.agg (cR r),sl 3 gT ps,sl 11 bY l] []=δ (.az [.str (bZ (pE l)),.ah 0],[])):=by
 have e0:=aoC (σ:=[]) (R9 r ps l hr hp hl);have hlen:(l.map bY).length<=cz:=by rw[XZ];exact hl.1
 have key:uE [.agg (cR r),sl 3 gT ps,sl 11 bY l] []=zk (rO r ps l) (l.map bY):=by unfold uE;show((AD [.agg (cR r),sl 3 gT ps,sl 11 bY l] []).bind _)=_;rw[e0,aB];exact aG hlen
 rw[key];unfold zk;by_cases h0:rO r ps l=0
 ·have hc:=(MV (Mi h0).2).2;rw[aG h0,UP l hc,aB];by_cases h6:(pE l).length<=600000
  ·rw[aG h6];exact .inr (.inr ⟨h0,h6,rfl⟩)
  ·rw[aE h6];exact .inr (.inl ⟨h0,by omega,λh=>aG h⟩)
 ·rw[aE h0];exact .inl ⟨h0,rfl⟩
theorem ags{ls:List (List UInt8)}(h:∀a∈ls,a.length<=999):(iW ls).length<=ls.length*1000:=by
 induction ls with
 |nil=>simp [iW]
 |cons a r ih=>
  have h1:=h a p6;have h2:=ih λx hx=>h x (iR _ hx)
  simp only[iW,p5,n9,fJ];omega
theorem Tr:∀l:List aP,(∀c∈l,oq c)->(l.flatMap lV).length<=l.length*2001
 |[],_=>by simp
 |c::l,h=>by
  have h1:=(h c p6).many;have h2:=Tr l λx hx=>h x (iR _ hx)
  rw[apc,p5,n9,fJ];have h3:(lV c).length=c.bJ.length+1:=by unfold lV;simp
  omega
theorem agQ{l:List aP}(h:tM l=0):(pE l).length<=140737488355328:=by
 obtain⟨h1,h2⟩:=MV h;have h3:=Tr l h2
 have h4:(pE l).length<=(l.flatMap lV).length*1000:=ags λa ha=>by
  obtain⟨c,hc,ha⟩:=List.mem_flatMap.1 ha;unfold lV at ha;rcases dW.1 ha with rfl|ha
  ·have:=HQ (h2 c hc);omega
  ·obtain⟨m,hm,rfl⟩:=jJ.1 ha;have:=Ia ((h2 c hc).Jz m hm);unfold tF;simp only[n9];omega
 omega
theorem ZB{r:ef}{ps:List fY}{l:List aP}(h:pQ r/\dX uG ps/\dX rQ l):Rm [.agg (cR r),sl 3 gT ps,sl 11 bY l] []=δ (.bool ι,[]):=by
 obtain⟨hr,hp,hl⟩:=h;refine Hy (f:=Cq) (y0:=.agg (cR r)) (y1:=sl 3 gT ps) (y2:=sl 11 bY l) (enc:=λb:Bool=>.bool b) (T:=δ ι) (fB (BP (fB (ng (λ_=>(fB rfl (fB rfl (fB (ng (λ_=>rfl) _) rP)))) _) (fB rfl rP))) (fB (ng (λ_=>rfl) _) (fB (ng (λ_=>rfl) _) rfl))) rfl ?_ ι rfl;intro b hb;injection hb with hb
 subst hb;refine⟨(.bool ι,[]),?_,rfl,rfl⟩;unfold Cq
 have fault:∀e:Int,e≠0->uE [.agg (cR r),sl 3 gT ps,sl 11 bY l] []=δ (.az [.str ⟨#[]⟩,.ah e],[])->Cq (.agg (cR r)) (sl 3 gT ps) (sl 11 bY l) []=δ (.bool ι,[]):=by intro e he hT;unfold Cq;refine bE (a:=cR r) rfl<|bE (a:=.agg (cR r)) rfl<|bE hT<|bE (a:=.str ⟨#[]⟩) rfl<|bE (a:=.ah e) rfl<|bE (fC _ _ _) ?_;rw[mj (show ¬e=0 from he),cT];refine bE (kW _ _) ?_;exact bf _ _
 rcases af7 hr hp hl with⟨h0,hT⟩|⟨h0,h6,hT⟩|⟨h0,h6,hT⟩
 ·exact fault _ h0 hT
 ·exact fault 2 (by decide) (hT (agQ (Mi h0).2))
 ·have hR:=ab9 (σ:=[]) (acN hr hp hl h0 h6);refine bE (a:=cR r) rfl<|bE (a:=.agg (cR r)) rfl<|bE hT<|bE (a:=.str (bZ (pE l))) rfl<|bE (a:=.ah 0) rfl<|bE (fC _ _ _) ?_;rw[show decide (¬((0:Int)=0))=ε from rfl,cF];refine bE (a:=.agg (cR r)) rfl<|bE hR<|bE (a:=sl 11 bY l) rfl<|bE (a:=.ah 0) rfl<|bE (a:=.ah 0) rfl<|bE (eG _ _ _) ?_;rw[show decide ((0:Int)=0)=ι from rfl];refine bE (a:=sl 11 bY l) rfl<|bE (a:=sl 11 bY l) rfl<|bE (a:=.bool ι) ?_<|bE (a:=.bool ι) rfl (bf _ _);exact jC (acE l hl [])
theorem ZA(r:ef)(ps:List fY)(l:List aP)(hr:pQ r)(hp:dX uG ps)(hl:dX rQ l):pQ r/\dX uG ps/\dX rQ l:=⟨hr,hp,hl⟩
section
open Go.ChangeShapes Go.WideShapes Go.ChangeAt Go.RowKit
theorem own:ownKnob Tryz.prog.godebug=μ:=by kernel_rfl
theorem laidOut:laidOutB Tryz.prog=ι:=by kernel_rfl
theorem RU{H:Type}{enc:TypeId×Value->H}{P:Program}(hl:laidOutB P=ι){W W':World}(hb:Below W.heap.size W W'):
  ∀{ts:List TypeId}{vs:List Value}{ds:List (DataW H)}{ps:List MemPlace},(ts.all λt=>P.readableRec t&&decide (t<P.types.size))=ι->
   DataW.TrodAll enc P W 0 (λ_=>ι) ι ts vs ds ps->(∀x∈ps,x.block<W.heap.size)->DataW.TrodAll enc P W' 0 (λb=>decide (b<W.heap.size)) ι ts vs ds ps
 |[],[],[],_,_,h,_=>h
 |t::ts,v::vs,d::ds,ps,hts,h,hlt=>by
  obtain⟨p,q,h1,h2,rfl⟩:=h;simp only[Rq,dZ,decide_eq_true_eq]at hts
  exact⟨p,q,Below.trod hl hts.1.1 hts.1.2 h1 hb (λx hx=>hlt x (List.mem_append_left _ hx)),
   RU hl hb (by simpa using hts.2) h2 (λx hx=>hlt x (List.mem_append_right _ hx)),rfl⟩
 |[],_::_,_,_,_,h,_=>h.elim
 |[],[],_::_,_,_,h,_=>h.elim
 |_::_,[],_,_,_,h,_=>h.elim
 |_::_,_::_,[],_,_,h,_=>h.elim
theorem aek{H:Type}{enc:TypeId×Value->H}{f:Func}{s:ChangeSpec}{W W':World}{args:Array Value}{ds gs:List (DataW H)}{before:List MemPlace}{t:TypeId}
  (hts:(f.params.toList.all λt=>Tryz.prog.readableRec t&&decide (t<Tryz.prog.types.size))=ι) (we:f.resultTypes=#[t]) (ht:Tryz.prog.underlying t=δ .bool) (hvs:s.vars=[])
  (hW:DataW.Whole enc Tryz.prog f.params.toList s.vars ε W args.toList ds gs before) (hb:Below W.heap.size W W')
  (hspec:s.fn H (ds++gs)={results:=[.lit (.bool ι)],args:=ds}):
  s.post enc Tryz.prog f ε ι ε ε W args (.bool ι) W':=by
 have Jp:=hW;obtain⟨p,q,hA,hV,rfl,hfz,hnd⟩:=hW;have hlt:∀x∈p++q,x.block<W.heap.size:=λx hx=>Jp.lt x hx
 refine⟨ds,gs,p++q,[],p,[],Jp,?_,?_,?_,hb.frame _,λh=>by cases h⟩
 ·rw[hspec,we];exact trodAll_cons_mk (shut_bool ht _) trodAll_mk0
 ·rw[hspec];exact RU laidOut hb hts hA (λx hx=>hlt x (List.mem_append_left _ hx))
 ·rw[hspec,hvs];exact rfl
end
section
open Go.RowKit Go.Deep
structure ck (α : Type) where
 size:Nat
 is:World->List Value->α->Prop
 len:∀{w cs a},is w cs a->cs.length=size
 mono:∀{w w' cs a},is w cs a->Gr w w'->is w' cs a
 bT:α->Nat
def dj:ck Int where
 size:=1
 is:=λ_ cs n=>cs=[.int ξ n]/\-9223372036854775808<=n/\n<=9223372036854775807
 len:=λh=>by rw[h.1];rfl
 mono:=λh _=>h
 bT:=λ_=>1
def pN:ck Bool where
 size:=1
 is:=λ_ cs b=>cs=[.bool b]
 len:=λh=>by rw[h];rfl
 mono:=λh _=>h
 bT:=λ_=>1
def nv:ck ByteArray where
 size:=1
 is:=λ_ cs s=>cs=[.string s]/\s.size<=maxLen
 len:=λh=>by rw[h.1];rfl
 mono:=λh _=>h
 bT:=λs=>s.size+1
def ck.pair{α β:Type}(c:ck α)(d:ck β):ck (α×β) where
 size:=c.size+d.size
 is:=λw cs x=>c.is w (cs.take c.size) x.1/\d.is w (cs.drop c.size) x.2
 len:=λ{w cs a}h=>by have h1:=c.len h.1;have h2:=d.len h.2;simp at h1 h2;omega
 mono:=λh g=>⟨c.mono h.1 g,d.mono h.2 g⟩
 bT:=λx=>c.bT x.1+d.bT x.2
def dH{α:Type}(c:ck α):ck (List α) where
 size:=1
 is:=λw cs l=>(cs=[.slice μ 0 0]/\l=[])\/∃(b off:Nat)(sp:Option Nat)(cap:Nat),cs=[.slice (δ ⟨b,off,sp⟩) l.length cap]/\l.length<=cap/\l.length<=maxLen/\
  ∀i(h:i<l.length),sp=μ/\∃cs',(∀j,j<c.size->w.cell? ⟨b,off+(i*c.size+j),μ⟩=cs'[j]?)/\c.is w cs' l[i]
 len:=λh=>by rcases h with⟨rfl,_⟩|⟨b,off,sp,cap,rfl,_⟩<;>rfl
 mono:=λ{w w' cs l}h g=>by
  rcases h with h|⟨b,off,sp,cap,h1,h2,h3,h4⟩
  ·exact .inl h
  ·refine .inr ⟨b,off,sp,cap,h1,h2,h3,λi hi=>?_⟩;obtain⟨e,cs',h5,h6⟩:=h4 i hi;refine⟨e,cs',λj hj=>?_,c.mono h6 g⟩;have h7:=h5 j hj;have hl:=c.len h6;rw[cy (by omega)]at h7 ⊢;exact g.cell h7
 bT:=λl=>(l.map c.bT).sum+1
def dV{α:Type}(F:Nat->Prop)(P:Program)(c:ck α)(t:TypeId):Prop:=∀⦃H:Type⦄ ⦃enc:TypeId×Value->H⦄ ⦃w:World⦄ ⦃base:Nat⦄ ⦃spare:Nat->Bool⦄ ⦃held:Bool⦄ ⦃fuel:Nat⦄ ⦃cs:List Value⦄ ⦃x:DataW H×List MemPlace⦄,F fuel->DataW.trod enc P w base spare held fuel t cs=δ x->∃a,c.is w cs a/\c.bT a<=Rows.uptoBulk x.1
abbrev Reads{α:Type}(P:Program)(c:ck α)(t:TypeId):Prop:=dV (λ_=>True) P c t
theorem yF{H:Type}(l:List (DataW H)):Rows.uptoBulkAll l=(l.map Rows.uptoBulk).sum:=by
 induction l with
 |nil=>rfl
 |cons x r ih=>simp only[Rows.uptoBulkAll,dJ,List.sum_cons,ih]
theorem R8{α:Type}(f:α->Nat)(D:Nat->Nat):∀(l:List α)(o:Nat),(∀i(h:i<l.length),f l[i]<=D (o+i))->(l.map f).sum<=((ZQ o l.length).map D).sum
 |[],_,_=>by simp
 |x::r,o,h=>by simp only[n9,apw,dJ,List.sum_cons];have h0:=h 0 (by simp);have:=R8 f D r (o+1) (λi hi=>by have:=h (i+1) (by simp;omega);simp only[List.getElem_cons_succ]at this;rw[show o+1+i=o+(i+1) by omega];exact this);simp at h0;omega
theorem wf_i64{n:Int}(h:(Lit.int ξ n).wf=ι):-9223372036854775808<=n/\n<=9223372036854775807:=by simpa [Lit.wf,IntKind.min,IntKind.max,IntKind.signed,IntKind.bits]using h
theorem TU{H:Type}(d:DataW H):1<=Rows.uptoBulk d:=by
 cases d with
 |lit l=>cases l<;>simp [Rows.uptoBulk]
 |_=>simp [Rows.uptoBulk]
theorem ij{F:Nat->Prop}{P:Program}{t:TypeId}(ht:P.underlying t=δ (.int ξ)):dV F P dj t:=by intro H enc w base spare held fuel cs x _ h;obtain⟨n,rfl,_,hw⟩:=DataW.trod_int ht h;exact⟨n,⟨rfl,wf_i64 hw⟩,TU _⟩
theorem GV{F:Nat->Prop}{P:Program}{t:TypeId}(ht:P.underlying t=δ .bool):dV F P pN t:=by intro H enc w base spare held fuel cs x _ h;obtain⟨n,rfl,_⟩:=DataW.trod_bool ht h;exact⟨n,rfl,TU _⟩
theorem yK{F:Nat->Prop}{P:Program}{t:TypeId}(ht:P.underlying t=δ .string):dV F P nv t:=by intro H enc w base spare held fuel cs x _ h;obtain⟨n,rfl,hx,hw⟩:=DataW.trod_string ht h;refine⟨n,⟨rfl,hw⟩,?_⟩;subst hx;simp only[Rows.uptoBulk,nv];first|(simp;done)|omega
theorem uC{F:Nat->Prop}{P:Program}{α:Type}{c:ck α}{t e:TypeId}(ht:P.underlying t=δ (.slice e))(hz:P.cellsOf e=c.size)(hp:0<c.size)(hr:dV (λm=>F (m+1)) P c e):dV F P (dH c) t:=by
 intro H enc w base spare held fuel cs x hF h;rcases DataW.trod_slice ht h with⟨rfl,rfl⟩|⟨a,len,cap,elems,rest,n,fq,rfl,Y0,hb,hl,hm,hlen,hel,h8,h9⟩
 ·exact⟨[],.inl ⟨rfl,rfl⟩,by simp [dH,Rows.uptoBulk]⟩
 ·obtain⟨D,hD⟩:∃D:Nat->DataW H,D=λi=>(elems.getD i (.nil,[])).1:=⟨_,rfl⟩
  have key:∀i,i<len->∃(y:α)(cs':List Value),(∀j,j<c.size->w.cell? (a.add (i*c.size+j))=cs'[j]?)/\c.is w cs' y/\c.bT y<=Rows.uptoBulk (D i):=by
   intro i hi;have hk:=hel i hi;rw[cy (by omega)]at hk;obtain⟨cs',h1,h2⟩:=bh.1 hk;obtain⟨y,hy,FI⟩:=hr (by subst fq;exact hF) h2
   have FI:c.bT y<=Rows.uptoBulk (D i):=by rw[hD];simpa [ZI,cy (show i<elems.length by omega)]using FI
   obtain⟨_,h3,h4⟩:=World.cells?_some h1;refine⟨y,cs',λj hj=>?_,hy,FI⟩;have:=h4 j (by rw[hz];exact hj);rw[hz]at this;rw[<-this,add_add]
  obtain⟨ys,hys⟩:∃ys:List α,ys.length=len/\∀i(h:i<ys.length),c.bT ys[i]<=Rows.uptoBulk (D i)/\∃cs',(∀j,j<c.size->w.cell? (a.add (i*c.size+j))=cs'[j]?)/\c.is w cs' ys[i]:=by
   clear hel hlen h hl Y0 h8 h9;induction len with
   |zero=>exact⟨[],rfl,λi h=>by simp at h⟩
   |succ k ih=>
    obtain⟨ys,h1,h2⟩:=ih (λi hi=>key i (by omega));obtain⟨y,cs',h3,h4,h4b⟩:=key k (by omega);refine⟨ys++[y],by simp [h1],λi hi=>?_⟩;by_cases hk:i<ys.length
    ·rw[List.getElem_append_left hk];exact h2 i hk
    ·have:i=k:=by simp at hi;omega
     subst this;rw[List.getElem_append_right (by omega)];simp only[h1,Nat.sub_self,List.getElem_cons_zero];exact⟨h4b,cs',h3,h4⟩
  obtain⟨h1,h2⟩:=hys;obtain⟨b,off,sp⟩:=a;refine⟨ys,.inr ⟨b,off,sp,cap,by rw[h1],by omega,TN (show ys.length<=cap by omega) hm,λi hi=>?_⟩,?_⟩
  ·have hs:sp=μ:=by
    cases sp with
    |none=>rfl
    |some q=>exfalso;obtain⟨_,cs',h3,h4⟩:=h2 0 (by omega);have h5:=h3 0 hp;have hl:=c.len h4;rw[cy (by omega)]at h5;simp only[Nat.zero_mul,ZP,RD,Addr.add]at h5;split at h5<;>simp at h5
   obtain⟨_,cs',h3,h4⟩:=h2 i hi;subst hs;refine⟨rfl,cs',λj hj=>?_,h4⟩;have h6:=h3 j hj;rw[<-h6];congr 1;simp only[Addr.add];split
   ·rename_i h7;simp only[h7,aps]
   ·rfl
  ·subst Y0;simp only[dH,Rows.uptoBulk,yF,List.map_map];have:=R8 c.bT (λi=>Rows.uptoBulk (D i)) ys 0 (λi hi=>by simpa using(h2 i hi).1);rw[h1,<-Z1]at this
   have e:Zt (Rows.uptoBulk∘λx=>x.1) elems=Zt (λi=>Rows.uptoBulk (D i)) (List.range len):=by rw[<-hlen,hD];apply List.ext_getElem (by simp);intro i h3 h4;simp at h3;simp [ZI,cy h3]
   rw[e];omega
theorem AP{α:Type}(l:List α)(o n:Nat)(h:l.length=o+n):(l.drop o).take n=l.drop o:=rU (by simp;omega)
theorem aa4{α:Type}(l:List α)(h:l.length=2):∃x0 x1,l=[x0,x1]:=by
 match l,h with
 |[x0,x1],_=>exact⟨x0,x1,rfl⟩
theorem AL{F:Nat->Prop}{P:Program}{sR sS:Type}{t:TypeId}{f0 f1:Field}{c0:ck sR}{c1:ck sS}(ht:P.underlying t=δ (.struct #[f0,f1]))(hz:P.cellsOf t=c0.size+c1.size)(o0:f0.offset=0)(o1:f1.offset=c0.size)(z0:P.cellsOf f0.type=c0.size)(z1:P.cellsOf f1.type=c1.size)(r0:dV (λm=>F (m+1)) P c0 f0.type) (r1:dV (λm=>F (m+1)) P c1 f1.type):dV F P (c0.pair c1) t:=by
 intro H enc w base spare held fuel cs x hF h;obtain⟨xs,m,fq,cX,hlen,hxl,hf⟩:=Yi ht h;rw[hz]at hlen;have hxl:xs.length=2:=hxl;have h0:=hf 0 f0 rfl;rw[o0,z0,cy (show 0<xs.length by omega)]at h0;obtain⟨a0,k0,b0⟩:=r0 (by subst fq;exact hF) h0;have h1:=hf 1 f1 rfl;rw[o1,z1,cy (show 1<xs.length by omega)]at h1;obtain⟨a1,k1,b1⟩:=r1 (by subst fq;exact hF) h1;rw[AP cs (c0.size) c1.size (by omega)]at k1;refine⟨(a0,a1),?_,?_⟩
 ·exact⟨by simpa using k0,(by simpa [gI,gf]using k1)⟩
 ·subst cX;simp only[Rows.uptoBulk,yF,ck.pair]
  have hs:(Zt Rows.uptoBulk (xs.map (·.1))).sum=Rows.uptoBulk xs[0].1+(Rows.uptoBulk xs[1].1):=by obtain⟨x0,x1,rfl⟩:=aa4 xs hxl;simp
  rw[hs];exact SW (iz b0 b1)
theorem aa5{α:Type}(l:List α)(h:l.length=3):∃x0 x1 x2,l=[x0,x1,x2]:=by
 match l,h with
 |[x0,x1,x2],_=>exact⟨x0,x1,x2,rfl⟩
theorem KZ{F:Nat->Prop}{P:Program}{sR sS wE:Type}{t:TypeId}{f0 f1 f2:Field}{c0:ck sR}{c1:ck sS}{c2:ck wE}(ht:P.underlying t=δ (.struct #[f0,f1,f2]))(hz:P.cellsOf t=c0.size+c1.size+c2.size)(o0:f0.offset=0)(o1:f1.offset=c0.size)(o2:f2.offset=c0.size+c1.size)(z0:P.cellsOf f0.type=c0.size)(z1:P.cellsOf f1.type=c1.size)(z2:P.cellsOf f2.type=c2.size)(r0:dV (λm=>F (m+1)) P c0 f0.type) (r1:dV (λm=>F (m+1)) P c1 f1.type) (r2:dV (λm=>F (m+1)) P c2 f2.type):dV F P (c0.pair (c1.pair c2)) t:=by
 intro H enc w base spare held fuel cs x hF h;obtain⟨xs,m,fq,cX,hlen,hxl,hf⟩:=Yi ht h;rw[hz]at hlen;have hxl:xs.length=3:=hxl;have h0:=hf 0 f0 rfl;rw[o0,z0,cy (show 0<xs.length by omega)]at h0;obtain⟨a0,k0,b0⟩:=r0 (by subst fq;exact hF) h0;have h1:=hf 1 f1 rfl;rw[o1,z1,cy (show 1<xs.length by omega)]at h1;obtain⟨a1,k1,b1⟩:=r1 (by subst fq;exact hF) h1;have h2:=hf 2 f2 rfl;rw[o2,z2,cy (show 2<xs.length by omega)]at h2;obtain⟨a2,k2,b2⟩:=r2 (by subst fq;exact hF) h2;rw[AP cs (c0.size+c1.size) c2.size (by omega)]at k2;refine⟨(a0,(a1,a2)),?_,?_⟩
 ·exact⟨by simpa using k0,⟨by simpa [gI,gf]using k1,(by simpa [gI,gf]using k2)⟩⟩
 ·subst cX;simp only[Rows.uptoBulk,yF,ck.pair]
  have hs:(Zt Rows.uptoBulk (xs.map (·.1))).sum=Rows.uptoBulk xs[0].1+(Rows.uptoBulk xs[1].1+(Rows.uptoBulk xs[2].1)):=by obtain⟨x0,x1,x2,rfl⟩:=aa5 xs hxl;simp
  rw[hs];exact SW (iz b0 (iz b1 b2))
theorem aa6{α:Type}(l:List α)(h:l.length=4):∃x0 x1 x2 x3,l=[x0,x1,x2,x3]:=by
 match l,h with
 |[x0,x1,x2,x3],_=>exact⟨x0,x1,x2,x3,rfl⟩
theorem aaA{F:Nat->Prop}{P:Program}{sR sS wE Ao:Type}{t:TypeId}{f0 f1 f2 f3:Field}{c0:ck sR}{c1:ck sS}{c2:ck wE}{c3:ck Ao}(ht:P.underlying t=δ (.struct #[f0,f1,f2,f3]))(hz:P.cellsOf t=c0.size+c1.size+c2.size+c3.size)(o0:f0.offset=0)(o1:f1.offset=c0.size)(o2:f2.offset=c0.size+c1.size)(o3:f3.offset=c0.size+c1.size+c2.size)(z0:P.cellsOf f0.type=c0.size)(z1:P.cellsOf f1.type=c1.size)(z2:P.cellsOf f2.type=c2.size)(z3:P.cellsOf f3.type=c3.size)(r0:dV (λm=>F (m+1)) P c0 f0.type) (r1:dV (λm=>F (m+1)) P c1 f1.type) (r2:dV (λm=>F (m+1)) P c2 f2.type) (r3:dV (λm=>F (m+1)) P c3 f3.type):dV F P (c0.pair (c1.pair (c2.pair c3))) t:=by
 intro H enc w base spare held fuel cs x hF h;obtain⟨xs,m,fq,cX,hlen,hxl,hf⟩:=Yi ht h;rw[hz]at hlen;have hxl:xs.length=4:=hxl;have h0:=hf 0 f0 rfl;rw[o0,z0,cy (show 0<xs.length by omega)]at h0;obtain⟨a0,k0,b0⟩:=r0 (by subst fq;exact hF) h0;have h1:=hf 1 f1 rfl;rw[o1,z1,cy (show 1<xs.length by omega)]at h1;obtain⟨a1,k1,b1⟩:=r1 (by subst fq;exact hF) h1;have h2:=hf 2 f2 rfl;rw[o2,z2,cy (show 2<xs.length by omega)]at h2;obtain⟨a2,k2,b2⟩:=r2 (by subst fq;exact hF) h2;have h3:=hf 3 f3 rfl;rw[o3,z3,cy (show 3<xs.length by omega)]at h3;obtain⟨a3,k3,b3⟩:=r3 (by subst fq;exact hF) h3;rw[AP cs (c0.size+c1.size+c2.size) c3.size (by omega)]at k3;refine⟨(a0,(a1,(a2,a3))),?_,?_⟩
 ·exact⟨by simpa using k0,⟨by simpa [gI,gf]using k1,⟨by simpa [gI,gf]using k2,(by simpa [gI,gf]using k3)⟩⟩⟩
 ·subst cX;simp only[Rows.uptoBulk,yF,ck.pair]
  have hs:(Zt Rows.uptoBulk (xs.map (·.1))).sum=Rows.uptoBulk xs[0].1+(Rows.uptoBulk xs[1].1+(Rows.uptoBulk xs[2].1+(Rows.uptoBulk xs[3].1))):=by obtain⟨x0,x1,x2,x3,rfl⟩:=aa6 xs hxl;simp
  rw[hs];exact SW (iz b0 (iz b1 (iz b2 b3)))
theorem aa7{α:Type}(l:List α)(h:l.length=6):∃x0 x1 x2 x3 x4 x5,l=[x0,x1,x2,x3,x4,x5]:=by
 match l,h with
 |[x0,x1,x2,x3,x4,x5],_=>exact⟨x0,x1,x2,x3,x4,x5,rfl⟩
theorem aaB{F:Nat->Prop}{P:Program}{sR sS wE Ao Gb Gc:Type}{t:TypeId}{f0 f1 f2 f3 f4 f5:Field}{c0:ck sR}{c1:ck sS}{c2:ck wE}{c3:ck Ao}{c4:ck Gb}{c5:ck Gc}(ht:P.underlying t=δ (.struct #[f0,f1,f2,f3,f4,f5]))(hz:P.cellsOf t=c0.size+c1.size+c2.size+c3.size+c4.size+c5.size)(o0:f0.offset=0)(o1:f1.offset=c0.size)(o2:f2.offset=c0.size+c1.size)(o3:f3.offset=c0.size+c1.size+c2.size)(o4:f4.offset=c0.size+c1.size+c2.size+c3.size)(o5:f5.offset=c0.size+c1.size+c2.size+c3.size+c4.size)(z0:P.cellsOf f0.type=c0.size)(z1:P.cellsOf f1.type=c1.size)(z2:P.cellsOf f2.type=c2.size)(z3:P.cellsOf f3.type=c3.size)(z4:P.cellsOf f4.type=c4.size)(z5:P.cellsOf f5.type=c5.size)(r0:dV (λm=>F (m+1)) P c0 f0.type) (r1:dV (λm=>F (m+1)) P c1 f1.type) (r2:dV (λm=>F (m+1)) P c2 f2.type) (r3:dV (λm=>F (m+1)) P c3 f3.type) (r4:dV (λm=>F (m+1)) P c4 f4.type) (r5:dV (λm=>F (m+1)) P c5 f5.type):dV F P (c0.pair (c1.pair (c2.pair (c3.pair (c4.pair c5))))) t:=by
 intro H enc w base spare held fuel cs x hF h;obtain⟨xs,m,fq,cX,hlen,hxl,hf⟩:=Yi ht h;rw[hz]at hlen;have hxl:xs.length=6:=hxl;have h0:=hf 0 f0 rfl;rw[o0,z0,cy (show 0<xs.length by omega)]at h0;obtain⟨a0,k0,b0⟩:=r0 (by subst fq;exact hF) h0;have h1:=hf 1 f1 rfl;rw[o1,z1,cy (show 1<xs.length by omega)]at h1;obtain⟨a1,k1,b1⟩:=r1 (by subst fq;exact hF) h1;have h2:=hf 2 f2 rfl;rw[o2,z2,cy (show 2<xs.length by omega)]at h2;obtain⟨a2,k2,b2⟩:=r2 (by subst fq;exact hF) h2;have h3:=hf 3 f3 rfl;rw[o3,z3,cy (show 3<xs.length by omega)]at h3;obtain⟨a3,k3,b3⟩:=r3 (by subst fq;exact hF) h3;have h4:=hf 4 f4 rfl;rw[o4,z4,cy (show 4<xs.length by omega)]at h4;obtain⟨a4,k4,b4⟩:=r4 (by subst fq;exact hF) h4;have h5:=hf 5 f5 rfl;rw[o5,z5,cy (show 5<xs.length by omega)]at h5;obtain⟨a5,k5,b5⟩:=r5 (by subst fq;exact hF) h5;rw[AP cs (c0.size+c1.size+c2.size+c3.size+c4.size) c5.size (by omega)]at k5;refine⟨(a0,(a1,(a2,(a3,(a4,a5))))),?_,?_⟩
 ·exact⟨by simpa using k0,⟨by simpa [gI,gf]using k1,⟨by simpa [gI,gf]using k2,⟨by simpa [gI,gf]using k3,⟨by simpa [gI,gf]using k4,(by simpa [gI,gf]using k5)⟩⟩⟩⟩⟩
 ·subst cX;simp only[Rows.uptoBulk,yF,ck.pair]
  have hs:(Zt Rows.uptoBulk (xs.map (·.1))).sum=Rows.uptoBulk xs[0].1+(Rows.uptoBulk xs[1].1+(Rows.uptoBulk xs[2].1+(Rows.uptoBulk xs[3].1+(Rows.uptoBulk xs[4].1+(Rows.uptoBulk xs[5].1))))):=by obtain⟨x0,x1,x2,x3,x4,x5,rfl⟩:=aa7 xs hxl;simp
  rw[hs];exact SW (iz b0 (iz b1 (iz b2 (iz b3 (iz b4 b5)))))
theorem aa8{α:Type}(l:List α)(h:l.length=7):∃x0 x1 x2 x3 x4 x5 x6,l=[x0,x1,x2,x3,x4,x5,x6]:=by
 match l,h with
 |[x0,x1,x2,x3,x4,x5,x6],_=>exact⟨x0,x1,x2,x3,x4,x5,x6,rfl⟩
theorem aaC{F:Nat->Prop}{P:Program}{sR sS wE Ao Gb Gc Rj:Type}{t:TypeId}{f0 f1 f2 f3 f4 f5 f6:Field}{c0:ck sR}{c1:ck sS}{c2:ck wE}{c3:ck Ao}{c4:ck Gb}{c5:ck Gc}{c6:ck Rj}(ht:P.underlying t=δ (.struct #[f0,f1,f2,f3,f4,f5,f6]))(hz:P.cellsOf t=c0.size+c1.size+c2.size+c3.size+c4.size+c5.size+c6.size)(o0:f0.offset=0)(o1:f1.offset=c0.size)(o2:f2.offset=c0.size+c1.size)(o3:f3.offset=c0.size+c1.size+c2.size)(o4:f4.offset=c0.size+c1.size+c2.size+c3.size)(o5:f5.offset=c0.size+c1.size+c2.size+c3.size+c4.size)(o6:f6.offset=c0.size+c1.size+c2.size+c3.size+c4.size+c5.size)(z0:P.cellsOf f0.type=c0.size)(z1:P.cellsOf f1.type=c1.size)(z2:P.cellsOf f2.type=c2.size)(z3:P.cellsOf f3.type=c3.size)(z4:P.cellsOf f4.type=c4.size)(z5:P.cellsOf f5.type=c5.size)(z6:P.cellsOf f6.type=c6.size)(r0:dV (λm=>F (m+1)) P c0 f0.type) (r1:dV (λm=>F (m+1)) P c1 f1.type) (r2:dV (λm=>F (m+1)) P c2 f2.type) (r3:dV (λm=>F (m+1)) P c3 f3.type) (r4:dV (λm=>F (m+1)) P c4 f4.type) (r5:dV (λm=>F (m+1)) P c5 f5.type) (r6:dV (λm=>F (m+1)) P c6 f6.type):dV F P (c0.pair (c1.pair (c2.pair (c3.pair (c4.pair (c5.pair c6)))))) t:=by
 intro H enc w base spare held fuel cs x hF h;obtain⟨xs,m,fq,cX,hlen,hxl,hf⟩:=Yi ht h;rw[hz]at hlen;have hxl:xs.length=7:=hxl;have h0:=hf 0 f0 rfl;rw[o0,z0,cy (show 0<xs.length by omega)]at h0;obtain⟨a0,k0,b0⟩:=r0 (by subst fq;exact hF) h0;have h1:=hf 1 f1 rfl;rw[o1,z1,cy (show 1<xs.length by omega)]at h1;obtain⟨a1,k1,b1⟩:=r1 (by subst fq;exact hF) h1;have h2:=hf 2 f2 rfl;rw[o2,z2,cy (show 2<xs.length by omega)]at h2;obtain⟨a2,k2,b2⟩:=r2 (by subst fq;exact hF) h2;have h3:=hf 3 f3 rfl;rw[o3,z3,cy (show 3<xs.length by omega)]at h3;obtain⟨a3,k3,b3⟩:=r3 (by subst fq;exact hF) h3;have h4:=hf 4 f4 rfl;rw[o4,z4,cy (show 4<xs.length by omega)]at h4;obtain⟨a4,k4,b4⟩:=r4 (by subst fq;exact hF) h4;have h5:=hf 5 f5 rfl;rw[o5,z5,cy (show 5<xs.length by omega)]at h5;obtain⟨a5,k5,b5⟩:=r5 (by subst fq;exact hF) h5;have h6:=hf 6 f6 rfl;rw[o6,z6,cy (show 6<xs.length by omega)]at h6;obtain⟨a6,k6,b6⟩:=r6 (by subst fq;exact hF) h6;rw[AP cs (c0.size+c1.size+c2.size+c3.size+c4.size+c5.size) c6.size (by omega)]at k6;refine⟨(a0,(a1,(a2,(a3,(a4,(a5,a6)))))),?_,?_⟩
 ·exact⟨by simpa using k0,⟨by simpa [gI,gf]using k1,⟨by simpa [gI,gf]using k2,⟨by simpa [gI,gf]using k3,⟨by simpa [gI,gf]using k4,⟨by simpa [gI,gf]using k5,(by simpa [gI,gf]using k6)⟩⟩⟩⟩⟩⟩
 ·subst cX;simp only[Rows.uptoBulk,yF,ck.pair]
  have hs:(Zt Rows.uptoBulk (xs.map (·.1))).sum=Rows.uptoBulk xs[0].1+(Rows.uptoBulk xs[1].1+(Rows.uptoBulk xs[2].1+(Rows.uptoBulk xs[3].1+(Rows.uptoBulk xs[4].1+(Rows.uptoBulk xs[5].1+(Rows.uptoBulk xs[6].1)))))):=by obtain⟨x0,x1,x2,x3,x4,x5,x6,rfl⟩:=aa8 xs hxl;simp
  rw[hs];exact SW (iz b0 (iz b1 (iz b2 (iz b3 (iz b4 (iz b5 b6))))))
theorem aau{α:Type}(l:List α)(h:l.length=10):∃x0 x1 x2 x3 x4 x5 x6 x7 x8 x9,l=[x0,x1,x2,x3,x4,x5,x6,x7,x8,x9]:=by
 match l,h with
 |[x0,x1,x2,x3,x4,x5,x6,x7,x8,x9],_=>exact⟨x0,x1,x2,x3,x4,x5,x6,x7,x8,x9,rfl⟩
theorem aae{F:Nat->Prop}{P:Program}{sR sS wE Ao Gb Gc Rj α7 α8 α9:Type}{t:TypeId}{f0 f1 f2 f3 f4 f5 f6 f7 f8 f9:Field}{c0:ck sR}{c1:ck sS}{c2:ck wE}{c3:ck Ao}{c4:ck Gb}{c5:ck Gc}{c6:ck Rj}{c7:ck α7}{c8:ck α8}{c9:ck α9}(ht:P.underlying t=δ (.struct #[f0,f1,f2,f3,f4,f5,f6,f7,f8,f9]))(hz:P.cellsOf t=c0.size+c1.size+c2.size+c3.size+c4.size+c5.size+c6.size+c7.size+c8.size+c9.size)(o0:f0.offset=0)(o1:f1.offset=c0.size)(o2:f2.offset=c0.size+c1.size)(o3:f3.offset=c0.size+c1.size+c2.size)(o4:f4.offset=c0.size+c1.size+c2.size+c3.size)(o5:f5.offset=c0.size+c1.size+c2.size+c3.size+c4.size)(o6:f6.offset=c0.size+c1.size+c2.size+c3.size+c4.size+c5.size)(o7:f7.offset=c0.size+c1.size+c2.size+c3.size+c4.size+c5.size+c6.size)(o8:f8.offset=c0.size+c1.size+c2.size+c3.size+c4.size+c5.size+c6.size+c7.size)(o9:f9.offset=c0.size+c1.size+c2.size+c3.size+c4.size+c5.size+c6.size+c7.size+c8.size)(z0:P.cellsOf f0.type=c0.size)(z1:P.cellsOf f1.type=c1.size)(z2:P.cellsOf f2.type=c2.size)(z3:P.cellsOf f3.type=c3.size)(z4:P.cellsOf f4.type=c4.size)(z5:P.cellsOf f5.type=c5.size)(z6:P.cellsOf f6.type=c6.size)(z7:P.cellsOf f7.type=c7.size)(z8:P.cellsOf f8.type=c8.size)(z9:P.cellsOf f9.type=c9.size)(r0:dV (λm=>F (m+1)) P c0 f0.type) (r1:dV (λm=>F (m+1)) P c1 f1.type) (r2:dV (λm=>F (m+1)) P c2 f2.type) (r3:dV (λm=>F (m+1)) P c3 f3.type) (r4:dV (λm=>F (m+1)) P c4 f4.type) (r5:dV (λm=>F (m+1)) P c5 f5.type) (r6:dV (λm=>F (m+1)) P c6 f6.type) (r7:dV (λm=>F (m+1)) P c7 f7.type) (r8:dV (λm=>F (m+1)) P c8 f8.type) (r9:dV (λm=>F (m+1)) P c9 f9.type):dV F P (c0.pair (c1.pair (c2.pair (c3.pair (c4.pair (c5.pair (c6.pair (c7.pair (c8.pair c9))))))))) t:=by
 intro H enc w base spare held fuel cs x hF h;obtain⟨xs,m,fq,cX,hlen,hxl,hf⟩:=Yi ht h;rw[hz]at hlen;have hxl:xs.length=10:=hxl;have h0:=hf 0 f0 rfl;rw[o0,z0,cy (show 0<xs.length by omega)]at h0;obtain⟨a0,k0,b0⟩:=r0 (by subst fq;exact hF) h0;have h1:=hf 1 f1 rfl;rw[o1,z1,cy (show 1<xs.length by omega)]at h1;obtain⟨a1,k1,b1⟩:=r1 (by subst fq;exact hF) h1;have h2:=hf 2 f2 rfl;rw[o2,z2,cy (show 2<xs.length by omega)]at h2;obtain⟨a2,k2,b2⟩:=r2 (by subst fq;exact hF) h2;have h3:=hf 3 f3 rfl;rw[o3,z3,cy (show 3<xs.length by omega)]at h3;obtain⟨a3,k3,b3⟩:=r3 (by subst fq;exact hF) h3;have h4:=hf 4 f4 rfl;rw[o4,z4,cy (show 4<xs.length by omega)]at h4;obtain⟨a4,k4,b4⟩:=r4 (by subst fq;exact hF) h4;have h5:=hf 5 f5 rfl;rw[o5,z5,cy (show 5<xs.length by omega)]at h5;obtain⟨a5,k5,b5⟩:=r5 (by subst fq;exact hF) h5;have h6:=hf 6 f6 rfl;rw[o6,z6,cy (show 6<xs.length by omega)]at h6;obtain⟨a6,k6,b6⟩:=r6 (by subst fq;exact hF) h6;have h7:=hf 7 f7 rfl;rw[o7,z7,cy (show 7<xs.length by omega)]at h7;obtain⟨a7,k7,b7⟩:=r7 (by subst fq;exact hF) h7;have h8:=hf 8 f8 rfl;rw[o8,z8,cy (show 8<xs.length by omega)]at h8;obtain⟨a8,k8,b8⟩:=r8 (by subst fq;exact hF) h8;have h9:=hf 9 f9 rfl;rw[o9,z9,cy (show 9<xs.length by omega)]at h9;obtain⟨a9,k9,b9⟩:=r9 (by subst fq;exact hF) h9;rw[AP cs (c0.size+c1.size+c2.size+c3.size+c4.size+c5.size+c6.size+c7.size+c8.size) c9.size (by omega)]at k9;refine⟨(a0,(a1,(a2,(a3,(a4,(a5,(a6,(a7,(a8,a9))))))))),?_,?_⟩
 ·exact⟨by simpa using k0,⟨by simpa [gI,gf]using k1,⟨by simpa [gI,gf]using k2,⟨by simpa [gI,gf]using k3,⟨by simpa [gI,gf]using k4,⟨by simpa [gI,gf]using k5,⟨by simpa [gI,gf]using k6,⟨by simpa [gI,gf]using k7,⟨by simpa [gI,gf]using k8,(by simpa [gI,gf]using k9)⟩⟩⟩⟩⟩⟩⟩⟩⟩
 ·subst cX;simp only[Rows.uptoBulk,yF,ck.pair]
  have hs:(Zt Rows.uptoBulk (xs.map (·.1))).sum=Rows.uptoBulk xs[0].1+(Rows.uptoBulk xs[1].1+(Rows.uptoBulk xs[2].1+(Rows.uptoBulk xs[3].1+(Rows.uptoBulk xs[4].1+(Rows.uptoBulk xs[5].1+(Rows.uptoBulk xs[6].1+(Rows.uptoBulk xs[7].1+(Rows.uptoBulk xs[8].1+(Rows.uptoBulk xs[9].1))))))))):=by obtain⟨x0,x1,x2,x3,x4,x5,x6,x7,x8,x9,rfl⟩:=aau xs hxl;simp
  rw[hs];exact SW (iz b0 (iz b1 (iz b2 (iz b3 (iz b4 (iz b5 (iz b6 (iz b7 (iz b8 b9)))))))))
end
section
open Go.RowKit Go.Deep
theorem dV.imp{F:Nat->Prop}{P:Program}{α β:Type}{c:ck α}{d:ck β}{t:TypeId}(h:dV F P c t)(k:∀w cs a,c.is w cs a->∃b,d.is w cs b/\d.bT b<=c.bT a):dV F P d t:=by intro H enc w base spare held fuel cs x hF h1;obtain⟨a,ha,hb⟩:=h hF h1;obtain⟨b,h2,h3⟩:=k _ _ _ ha;exact⟨b,h2,TN h3 hb⟩
theorem fN{α:Type}{cs a b:List α}{n:Nat}(h1:cs.take n=a)(h2:cs.drop n=b):cs=a++b:=by rw[<-h1,<-h2,List.take_append_drop]
def rI:ck eA where
 size:=2
 is:=λw cs x=>cs=[.int ξ x.time,.int ξ x.way]/\aR x.time/\aR x.way
 len:=λh=>by obtain⟨rfl,_⟩:=h;rfl
 mono:=λh _=>h
 bT:=λx=>dj.bT x.time+(dj.bT x.way)
theorem abJ:Reads Tryz.prog rI 113:=
 (AL (F:=λ_=>True) Tryz.underlying113 (c0:=dj) (c1:=dj) (by kernel_rfl) rfl rfl (by kernel_rfl) (by kernel_rfl) (ij Tryz.underlying3) (ij Tryz.underlying3)).imp λw cs a h=>by obtain⟨a0,a1⟩:=a;obtain⟨h0,h1⟩:=h;obtain⟨e0,b0⟩:=h0;obtain⟨e1,b1⟩:=h1;have iM:=fN e0 e1;exact⟨⟨a0,a1⟩,⟨by rw[iM];rfl,b0,b1⟩,cg _⟩
theorem abd:Reads Tryz.prog (dH rI) 41:=uC Tryz.underlying41 (c:=rI) (by kernel_rfl) (by decide) abJ
def Ng:ck fZ where
 size:=2
 is:=λw cs x=>∃v0:Value,cs=[.int ξ x.kind,v0]/\aR x.kind/\(dH rI).is w [v0] x.bp
 len:=λh=>by obtain⟨v0,rfl,_⟩:=h;rfl
 mono:=λ{w w' cs x}h g=>by obtain⟨v0,e,h0,h1⟩:=h;exact⟨v0,e,h0,((dH rI)).mono h1 g⟩
 bT:=λx=>dj.bT x.kind+((dH rI).bT x.bp)
theorem abG:Reads Tryz.prog Ng 43:=
 (AL (F:=λ_=>True) Tryz.underlying43 (c0:=dj) (c1:=(dH rI)) (by kernel_rfl) rfl rfl (by kernel_rfl) (by kernel_rfl) (ij Tryz.underlying3) abd).imp λw cs a h=>by obtain⟨a0,a1⟩:=a;obtain⟨h0,h1⟩:=h;obtain⟨e0,b0⟩:=h0;obtain⟨s1,e1⟩:=rS.1 (((dH rI)).len h1);rw[e1]at h1;have iM:=fN e0 e1;exact⟨⟨a0,a1⟩,⟨s1,by rw[iM];rfl,b0,h1⟩,cg _⟩
def uT:ck lX where
 size:=3
 is:=λw cs x=>cs=[.int ξ x.low,.int ξ x.high,.string x.name]/\aR x.low/\aR x.high/\x.name.size<=maxLen
 len:=λh=>by obtain⟨rfl,_⟩:=h;rfl
 mono:=λh _=>h
 bT:=λx=>dj.bT x.low+(dj.bT x.high+(nv.bT x.name))
theorem abK:Reads Tryz.prog uT 212:=
 (KZ (F:=λ_=>True) Tryz.underlying212 (c0:=dj) (c1:=dj) (c2:=nv) (by kernel_rfl) rfl rfl rfl (by kernel_rfl) (by kernel_rfl) (by kernel_rfl) (ij Tryz.underlying3) (ij Tryz.underlying3) (yK Tryz.underlying9)).imp λw cs a h=>by obtain⟨a0,a1,a2⟩:=a;obtain⟨h0,h1,h2⟩:=h;obtain⟨e0,b0⟩:=h0;obtain⟨e1,b1⟩:=h1;obtain⟨e2,b2⟩:=h2;have pY:=fN e1 e2;have iM:=fN e0 pY;exact⟨⟨a0,a1,a2⟩,⟨by rw[iM];rfl,b0,b1,b2⟩,cg _⟩
theorem abf:Reads Tryz.prog (dH uT) 115:=uC Tryz.underlying115 (c:=uT) (by kernel_rfl) (by decide) abK
def uS:ck iu where
 size:=7
 is:=λw cs x=>∃v0:Value,cs=[.string x.name,.int ξ x.group,.int ξ x.mB,.int ξ x.lI,.int ξ x.default,.bool x.snap,v0]/\x.name.size<=maxLen/\aR x.group/\aR x.mB/\aR x.lI/\aR x.default/\(dH uT).is w [v0] x.ranges
 len:=λh=>by obtain⟨v0,rfl,_⟩:=h;rfl
 mono:=λ{w w' cs x}h g=>by obtain⟨v0,e,h0,h1,h2,h3,h4,h5⟩:=h;exact⟨v0,e,h0,h1,h2,h3,h4,((dH uT)).mono h5 g⟩
 bT:=λx=>nv.bT x.name+(dj.bT x.group+(dj.bT x.mB+(dj.bT x.lI+(dj.bT x.default+(pN.bT x.snap+((dH uT).bT x.ranges))))))
theorem abI:Reads Tryz.prog uS 117:=
 (aaC (F:=λ_=>True) Tryz.underlying117 (c0:=nv) (c1:=dj) (c2:=dj) (c3:=dj) (c4:=dj) (c5:=pN) (c6:=(dH uT)) (by kernel_rfl) rfl rfl rfl rfl rfl rfl rfl (by kernel_rfl) (by kernel_rfl) (by kernel_rfl) (by kernel_rfl) (by kernel_rfl) (by kernel_rfl) (by kernel_rfl) (yK Tryz.underlying9) (ij Tryz.underlying3) (ij Tryz.underlying3) (ij Tryz.underlying3) (ij Tryz.underlying3) (GV Tryz.underlying4) abf).imp λw cs a h=>by obtain⟨a0,a1,a2,a3,a4,a5,a6⟩:=a;obtain⟨h0,h1,h2,h3,h4,h5,h6⟩:=h;obtain⟨e0,b0⟩:=h0;obtain⟨e1,b1⟩:=h1;obtain⟨e2,b2⟩:=h2;obtain⟨e3,b3⟩:=h3;obtain⟨e4,b4⟩:=h4;have e5:=h5;simp only[pN]at e5;obtain⟨s6,e6⟩:=rS.1 (((dH uT)).len h6);rw[e6]at h6;have OD:=fN e5 e6;have DL:=fN e4 OD;have DK:=fN e3 DL;have za:=fN e2 DK;have pY:=fN e1 za;have iM:=fN e0 pY;exact⟨⟨a0,a1,a2,a3,a4,a5,a6⟩,⟨s6,by rw[iM];rfl,b0,b1,b2,b3,b4,h6⟩,cg _⟩
theorem abc:Reads Tryz.prog (dH uS) 134:=uC Tryz.underlying134 (c:=uS) (by kernel_rfl) (by decide) abI
def uI:ck dG where
 size:=3
 is:=λw cs x=>∃v0:Value,cs=[.string x.name,.int ξ x.size,v0]/\x.name.size<=maxLen/\aR x.size/\(dH uS).is w [v0] x.params
 len:=λh=>by obtain⟨v0,rfl,_⟩:=h;rfl
 mono:=λ{w w' cs x}h g=>by obtain⟨v0,e,h0,h1,h2⟩:=h;exact⟨v0,e,h0,h1,((dH uS)).mono h2 g⟩
 bT:=λx=>nv.bT x.name+(dj.bT x.size+((dH uS).bT x.params))
theorem aay:Reads Tryz.prog uI 136:=
 (KZ (F:=λ_=>True) Tryz.underlying136 (c0:=nv) (c1:=dj) (c2:=(dH uS)) (by kernel_rfl) rfl rfl rfl (by kernel_rfl) (by kernel_rfl) (by kernel_rfl) (yK Tryz.underlying9) (ij Tryz.underlying3) abc).imp λw cs a h=>by obtain⟨a0,a1,a2⟩:=a;obtain⟨h0,h1,h2⟩:=h;obtain⟨e0,b0⟩:=h0;obtain⟨e1,b1⟩:=h1;obtain⟨s2,e2⟩:=rS.1 (((dH uS)).len h2);rw[e2]at h2;have pY:=fN e1 e2;have iM:=fN e0 pY;exact⟨⟨a0,a1,a2⟩,⟨s2,by rw[iM];rfl,b0,b1,h2⟩,cg _⟩
theorem aac:Reads Tryz.prog (dH uI) 22:=uC Tryz.underlying22 (c:=uI) (by kernel_rfl) (by decide) aay
def uZ:ck fS where
 size:=4
 is:=λw cs x=>cs=[.int ξ x.aY,.string x.iq,.int ξ x.univ,.int ξ x.address]/\aR x.aY/\x.iq.size<=maxLen/\aR x.univ/\aR x.address
 len:=λh=>by obtain⟨rfl,_⟩:=h;rfl
 mono:=λh _=>h
 bT:=λx=>dj.bT x.aY+(nv.bT x.iq+(dj.bT x.univ+(dj.bT x.address)))
theorem acw:Reads Tryz.prog uZ 133:=
 (aaA (F:=λ_=>True) Tryz.underlying133 (c0:=dj) (c1:=nv) (c2:=dj) (c3:=dj) (by kernel_rfl) rfl rfl rfl rfl (by kernel_rfl) (by kernel_rfl) (by kernel_rfl) (by kernel_rfl) (ij Tryz.underlying3) (yK Tryz.underlying9) (ij Tryz.underlying3) (ij Tryz.underlying3)).imp λw cs a h=>by obtain⟨a0,a1,a2,a3⟩:=a;obtain⟨h0,h1,h2,h3⟩:=h;obtain⟨e0,b0⟩:=h0;obtain⟨e1,b1⟩:=h1;obtain⟨e2,b2⟩:=h2;obtain⟨e3,b3⟩:=h3;have za:=fN e2 e3;have pY:=fN e1 za;have iM:=fN e0 pY;exact⟨⟨a0,a1,a2,a3⟩,⟨by rw[iM];rfl,b0,b1,b2,b3⟩,cg _⟩
theorem abL:Reads Tryz.prog (dH uZ) 23:=uC Tryz.underlying23 (c:=uZ) (by kernel_rfl) (by decide) acw
def X5:ck ef where
 size:=2
 is:=λw cs x=>∃v0 v1:Value,cs=[v0,v1]/\(dH uI).is w [v0] x.dn/\(dH uZ).is w [v1] x.ji
 len:=λh=>by obtain⟨v0,v1,rfl,_⟩:=h;rfl
 mono:=λ{w w' cs x}h g=>by obtain⟨v0,v1,e,h0,h1⟩:=h;exact⟨v0,v1,e,((dH uI)).mono h0 g,((dH uZ)).mono h1 g⟩
 bT:=λx=>(dH uI).bT x.dn+((dH uZ).bT x.ji)
theorem ady:Reads Tryz.prog X5 25:=
 (AL (F:=λ_=>True) Tryz.underlying25 (c0:=(dH uI)) (c1:=(dH uZ)) (by kernel_rfl) rfl rfl (by kernel_rfl) (by kernel_rfl) aac abL).imp λw cs a h=>by obtain⟨a0,a1⟩:=a;obtain⟨h0,h1⟩:=h;obtain⟨s0,e0⟩:=rS.1 (((dH uI)).len h0);rw[e0]at h0;obtain⟨s1,e1⟩:=rS.1 (((dH uZ)).len h1);rw[e1]at h1;have iM:=fN e0 e1;exact⟨⟨a0,a1⟩,⟨s0,s1,by rw[iM];rfl,h0,h1⟩,cg _⟩
def D5:ck au where
 size:=2
 is:=λw cs x=>cs=[.int ξ x.unit,.string x.param]/\aR x.unit/\x.param.size<=maxLen
 len:=λh=>by obtain⟨rfl,_⟩:=h;rfl
 mono:=λh _=>h
 bT:=λx=>dj.bT x.unit+(nv.bT x.param)
theorem Ty:Reads Tryz.prog D5 53:=
 (AL (F:=λ_=>True) Tryz.underlying53 (c0:=dj) (c1:=nv) (by kernel_rfl) rfl rfl (by kernel_rfl) (by kernel_rfl) (ij Tryz.underlying3) (yK Tryz.underlying9)).imp λw cs a h=>by obtain⟨a0,a1⟩:=a;obtain⟨h0,h1⟩:=h;obtain⟨e0,b0⟩:=h0;obtain⟨e1,b1⟩:=h1;have iM:=fN e0 e1;exact⟨⟨a0,a1⟩,⟨by rw[iM];rfl,b0,b1⟩,cg _⟩
def uK:ck rD where
 size:=3
 is:=λw cs x=>cs=[.int ξ x.key.unit,.string x.key.param,.int ξ x.level]/\aR x.key.unit/\x.key.param.size<=maxLen/\aR x.level
 len:=λh=>by obtain⟨rfl,_⟩:=h;rfl
 mono:=λh _=>h
 bT:=λx=>D5.bT x.key+(dj.bT x.level)
theorem aaz:Reads Tryz.prog uK 97:=
 (AL (F:=λ_=>True) Tryz.underlying97 (c0:=D5) (c1:=dj) (by kernel_rfl) rfl rfl (by kernel_rfl) (by kernel_rfl) Ty (ij Tryz.underlying3)).imp λw cs a h=>by obtain⟨a0,a1⟩:=a;obtain⟨h0,h1⟩:=h;obtain⟨e0,b0⟩:=h0;obtain⟨N2,N3⟩:=b0;obtain⟨e1,b1⟩:=h1;have iM:=fN e0 e1;exact⟨⟨a0,a1⟩,⟨by rw[iM];rfl,N2,N3,b1⟩,cg _⟩
theorem aad:Reads Tryz.prog (dH uK) 91:=uC Tryz.underlying91 (c:=uK) (by kernel_rfl) (by decide) aaz
def Ie:ck fY where
 size:=3
 is:=λw cs x=>∃v0:Value,cs=[.int ξ x.aY,.string x.title,v0]/\aR x.aY/\x.title.size<=maxLen/\(dH uK).is w [v0] x.jX
 len:=λh=>by obtain⟨v0,rfl,_⟩:=h;rfl
 mono:=λ{w w' cs x}h g=>by obtain⟨v0,e,h0,h1,h2⟩:=h;exact⟨v0,e,h0,h1,((dH uK)).mono h2 g⟩
 bT:=λx=>dj.bT x.aY+(nv.bT x.title+((dH uK).bT x.jX))
theorem abe:Reads Tryz.prog Ie 93:=
 (KZ (F:=λ_=>True) Tryz.underlying93 (c0:=dj) (c1:=nv) (c2:=(dH uK)) (by kernel_rfl) rfl rfl rfl (by kernel_rfl) (by kernel_rfl) (by kernel_rfl) (ij Tryz.underlying3) (yK Tryz.underlying9) aad).imp λw cs a h=>by obtain⟨a0,a1,a2⟩:=a;obtain⟨h0,h1,h2⟩:=h;obtain⟨e0,b0⟩:=h0;obtain⟨e1,b1⟩:=h1;obtain⟨s2,e2⟩:=rS.1 (((dH uK)).len h2);rw[e2]at h2;have pY:=fN e1 e2;have iM:=fN e0 pY;exact⟨⟨a0,a1,a2⟩,⟨s2,by rw[iM];rfl,b0,b1,h2⟩,cg _⟩
theorem aax:Reads Tryz.prog (dH Ie) 26:=uC Tryz.underlying26 (c:=Ie) (by kernel_rfl) (by decide) abe
def NA:ck aO where
 size:=2
 is:=λw cs x=>cs=[.int ξ x.level,.int ξ x.bW]/\aR x.level/\aR x.bW
 len:=λh=>by obtain⟨rfl,_⟩:=h;rfl
 mono:=λh _=>h
 bT:=λx=>dj.bT x.level+(dj.bT x.bW)
theorem abM:Reads Tryz.prog NA 55:=
 (AL (F:=λ_=>True) Tryz.underlying55 (c0:=dj) (c1:=dj) (by kernel_rfl) rfl rfl (by kernel_rfl) (by kernel_rfl) (ij Tryz.underlying3) (ij Tryz.underlying3)).imp λw cs a h=>by obtain⟨a0,a1⟩:=a;obtain⟨h0,h1⟩:=h;obtain⟨e0,b0⟩:=h0;obtain⟨e1,b1⟩:=h1;have iM:=fN e0 e1;exact⟨⟨a0,a1⟩,⟨by rw[iM];rfl,b0,b1⟩,cg _⟩
def uW:ck aJ where
 size:=8
 is:=λw cs x=>cs=[.int ξ x.key.unit,.string x.key.param,.int ξ x.value.level,.int ξ x.value.bW,.bool x.release,.bool x.cG,.int ξ x.br,.int ξ x.time]/\aR x.key.unit/\x.key.param.size<=maxLen/\aR x.value.level/\aR x.value.bW/\aR x.br/\aR x.time
 len:=λh=>by obtain⟨rfl,_⟩:=h;rfl
 mono:=λh _=>h
 bT:=λx=>D5.bT x.key+(NA.bT x.value+(pN.bT x.release+(pN.bT x.cG+(dj.bT x.br+(dj.bT x.time)))))
theorem acv:Reads Tryz.prog uW 57:=
 (aaB (F:=λ_=>True) Tryz.underlying57 (c0:=D5) (c1:=NA) (c2:=pN) (c3:=pN) (c4:=dj) (c5:=dj) (by kernel_rfl) rfl rfl rfl rfl rfl rfl (by kernel_rfl) (by kernel_rfl) (by kernel_rfl) (by kernel_rfl) (by kernel_rfl) (by kernel_rfl) Ty abM (GV Tryz.underlying4) (GV Tryz.underlying4) (ij Tryz.underlying3) (ij Tryz.underlying3)).imp λw cs a h=>by obtain⟨a0,a1,a2,a3,a4,a5⟩:=a;obtain⟨h0,h1,h2,h3,h4,h5⟩:=h;obtain⟨e0,b0⟩:=h0;obtain⟨N2,N3⟩:=b0;obtain⟨e1,b1⟩:=h1;obtain⟨ahm,ahn⟩:=b1;have e2:=h2;simp only[pN]at e2;have e3:=h3;simp only[pN]at e3;obtain⟨e4,b4⟩:=h4;obtain⟨e5,b5⟩:=h5;have DL:=fN e4 e5;have DK:=fN e3 DL;have za:=fN e2 DK;have pY:=fN e1 za;have iM:=fN e0 pY;exact⟨⟨a0,a1,a2,a3,a4,a5⟩,⟨by rw[iM];rfl,N2,N3,ahm,ahn,b4,b5⟩,cg _⟩
theorem abH:Reads Tryz.prog (dH uW) 44:=uC Tryz.underlying44 (c:=uW) (by kernel_rfl) (by decide) acv
def IX:ck aP where
 size:=11
 is:=λw cs x=>∃v0 v1:Value,cs=[.int ξ x.aY,.string x.title,.int ξ x.br,.int ξ x.up,.int ξ x.down,.int ξ x.other,.int ξ x.bS.kind,v0,.bool x.block,.int ξ x.dr,v1]/\aR x.aY/\x.title.size<=maxLen/\aR x.br/\aR x.up/\aR x.down/\aR x.other/\aR x.bS.kind/\(dH rI).is w [v0] x.bS.bp/\aR x.dr/\(dH uW).is w [v1] x.bJ
 len:=λh=>by obtain⟨v0,v1,rfl,_⟩:=h;rfl
 mono:=λ{w w' cs x}h g=>by obtain⟨v0,v1,e,h0,h1,h2,h3,h4,h5,h6,h7,h8,h9⟩:=h;exact⟨v0,v1,e,h0,h1,h2,h3,h4,h5,h6,((dH rI)).mono h7 g,h8,((dH uW)).mono h9 g⟩
 bT:=λx=>dj.bT x.aY+(nv.bT x.title+(dj.bT x.br+(dj.bT x.up+(dj.bT x.down+(dj.bT x.other+(Ng.bT x.bS+(pN.bT x.block+(dj.bT x.dr+((dH uW).bT x.bJ)))))))))
theorem adx:Reads Tryz.prog IX 46:=
 (aae (F:=λ_=>True) Tryz.underlying46 (c0:=dj) (c1:=nv) (c2:=dj) (c3:=dj) (c4:=dj) (c5:=dj) (c6:=Ng) (c7:=pN) (c8:=dj) (c9:=(dH uW)) (by kernel_rfl) rfl rfl rfl rfl rfl rfl rfl rfl rfl rfl (by kernel_rfl) (by kernel_rfl) (by kernel_rfl) (by kernel_rfl) (by kernel_rfl) (by kernel_rfl) (by kernel_rfl) (by kernel_rfl) (by kernel_rfl) (by kernel_rfl) (ij Tryz.underlying3) (yK Tryz.underlying9) (ij Tryz.underlying3) (ij Tryz.underlying3) (ij Tryz.underlying3) (ij Tryz.underlying3) abG (GV Tryz.underlying4) (ij Tryz.underlying3) abH).imp λw cs a h=>by obtain⟨a0,a1,a2,a3,a4,a5,a6,a7,a8,a9⟩:=a;obtain⟨h0,h1,h2,h3,h4,h5,h6,h7,h8,h9⟩:=h;obtain⟨e0,b0⟩:=h0;obtain⟨e1,b1⟩:=h1;obtain⟨e2,b2⟩:=h2;obtain⟨e3,b3⟩:=h3;obtain⟨e4,b4⟩:=h4;obtain⟨e5,b5⟩:=h5;obtain⟨ajI,e6,b6⟩:=h6;obtain⟨aho,ahp⟩:=b6;have e7:=h7;simp only[pN]at e7;obtain⟨e8,b8⟩:=h8;obtain⟨s9,e9⟩:=rS.1 (((dH uW)).len h9);rw[e9]at h9;have ajb:=fN e8 e9;have aja:=fN e7 ajb;have ai9:=fN e6 aja;have OD:=fN e5 ai9;have DL:=fN e4 OD;have DK:=fN e3 DL;have za:=fN e2 DK;have pY:=fN e1 za;have iM:=fN e0 pY;exact⟨⟨a0,a1,a2,a3,a4,a5,a6,a7,a8,a9⟩,⟨ajI,s9,by rw[iM];rfl,b0,b1,b2,b3,b4,b5,aho,ahp,b8,h9⟩,cg _⟩
theorem acu:Reads Tryz.prog (dH IX) 27:=uC Tryz.underlying27 (c:=IX) (by kernel_rfl) (by decide) adx
end
section
open Go.RowKit Go.Deep
section
variable {c : RC}
theorem rF:aF c [] []:=by simp [aF]
theorem dN{a:U}{v:Value}{l:ay}{vs:List Value}(h:an c a v)(k:aF c l vs):aF c (a::l) (v::vs):=by simp only[aF];exact⟨v,vs,rfl,h,k⟩
theorem gU(k:IntKind)(n:Int):an c (.int k n) (.int k n):=by simp [an]
theorem Hx(b:Bool):an c (.bool b) (.bool b):=by simp [an]
theorem wW(s:ByteArray):an c (.str s) (.string s):=by simp [an]
def RP{α:Type}(c:RC)(d:ck α)(e:α->ay)(ok:α->Prop):Prop:=∀cs x,d.is c.w cs x->aF c (e x) cs/\ok x/\(∀v∈cs,cM v=ι)
theorem Uv:∀{l:ay}{vs:List Value},aF c l vs->l.length=vs.length
 |[],vs,h=>by simp only[aF]at h;subst h;rfl
 |a::l,vs,h=>by simp only[aF]at h;obtain⟨v,vs',rfl,_,h⟩:=h;simp [Uv h]
theorem Ut{b:Nat}:∀{l:ay}{vs:List Value}{off:Nat},aF c l vs->(∀v∈vs,cM v=ι)->(∀j,j<vs.length->c.w.cell? ⟨b,off+j,μ⟩=vs[j]?)->aS c b off l
 |[],vs,off,h,_,_=>by simp [aS]
 |a::l,vs,off,h,ho,hc=>by simp only[aF]at h;obtain⟨v,vs',rfl,h1,h2⟩:=h;simp only[aS];refine⟨⟨v,by simpa using hc 0 (by simp),ho v (by simp),h1⟩,Ut h2 (λv hv=>ho v (by simp [hv])) λj hj=>?_⟩;have:=hc (j+1) (by simpa using hj);rw[show off+1+j=off+(j+1) by omega];simpa using this
theorem Uu{α:Type}{d:ck α}{e:α->ay}{ok:α->Prop}(H:RP c d e ok){b sz:Nat}(hsz:d.size=sz):∀{l:List α}{off:Nat},(∀(i:Nat)(x:α),l[i]? =δ x->∃cs',(∀j,j<d.size->c.w.cell? ⟨b,off+(i*d.size+j),μ⟩=cs'[j]?)/\d.is c.w cs' x)->bw c sz b off (l.map e)/\∀x∈l,ok x
 |[],off,h=>by simp [bw]
 |x::l,off,h=>by
  obtain⟨cs,h1,h2⟩:=h 0 x rfl;obtain⟨k1,k2,k3⟩:=H cs x h2;have hl:cs.length=d.size:=d.len h2
  obtain⟨r1,r2⟩:=Uu H hsz (l:=l) (off:=off+sz) (λi y hy=>by
   obtain⟨cs',q1,q2⟩:=h (i+1) y (by simpa using hy);refine⟨cs',λj hj=>?_,q2⟩;have:=q1 j hj;rw[<-hsz]
   rwa[show off+d.size+(i*d.size+j)=off+((i+1)*d.size+j) by rw[Nat.succ_mul];omega])
  refine⟨?_,λy hy=>?_⟩
  ·simp only[dJ,bw];refine⟨by rw[Uv k1,hl,hsz],Ut k1 k3 λj hj=>?_,r1⟩;have:=h1 j (by rw[<-hl];exact hj);simpa using this
  ·rcases dW.1 hy with rfl|hy
   ·exact k2
   ·exact r2 y hy
theorem aeW{w:World}{b off:Nat}{v:Value}(h:w.cell? ⟨b,off,μ⟩=δ v):b<w.heap.size:=by
 rcases Nat.lt_or_ge b w.heap.size with k|k
 ·exact k
 ·simp [RD,ao8 k]at h
theorem uJ{α:Type}{d:ck α}{e:α->ay}{ok:α->Prop}(hX:∀b,¬c.X b)(H:RP c d e ok){sz:Nat}(hsz:d.size=sz)(h0:0<sz){v:Value}{l:List α}(h:(dH d).is c.w [v] l):an c (sl sz e l) v/\dX ok l/\cM v=ι:=by
 rcases h with⟨h1,rfl⟩|⟨b,off,sp,cap,h1,h2,h3,h4⟩
 ·simp only[VP,and_true]at h1;subst h1;exact⟨by simp [sl,an,h0],⟨by simp,by simp⟩,rfl⟩
 ·simp only[VP,and_true]at h1;subst h1
  have Qu:sp=μ\/l=[]:=by
   cases l with
   |nil=>exact .inr rfl
   |cons x l=>exact .inl (h4 0 (by simp)).1
  have hh:∀(i:Nat)(x:α),l[i]? =δ x->∃cs',(∀j,j<d.size->c.w.cell? ⟨b,off+(i*d.size+j),μ⟩=cs'[j]?)/\d.is c.w cs' x:=by intro i x hx;obtain⟨hi,hx⟩:=cD.1 hx;subst hx;exact(h4 i hi).2
  obtain⟨r1,r2⟩:=Uu H hsz hh;refine⟨?_,⟨by unfold maxLen at h3;unfold cz;omega,r2⟩,rfl⟩;simp only[sl,an];refine⟨δ ⟨b,off,sp⟩,cap,by simp,by simpa using h2,h0,?_⟩;rcases Qu with rfl|rfl
  ·cases l with
   |nil=>exact .inl rfl
   |cons x l=>
    refine .inr ⟨b,off,rfl,?_,hX b,r1⟩;obtain⟨cs,q1,q2⟩:=hh 0 x rfl;have hl:cs.length=d.size:=d.len q2;have:=q1 0 (by omega);obtain⟨y,hy⟩:∃y,cs[0]? =δ y:=⟨cs[0],cy (by omega)⟩
    rw[hy]at this;exact aeW this
  ·exact .inl rfl
theorem tr:∀v∈([]:List Value),cM v=ι:=by simp
theorem dY{v:Value}{vs:List Value}(h:cM v=ι)(k:∀x∈vs,cM x=ι):∀x∈v::vs,cM x=ι:=by
 intro x hx;rcases dW.1 hx with rfl|hx
 ·exact h
 ·exact k x hx
theorem aeB:RP c rI cx Vh:=by rintro cs x ⟨rfl,h0,h1⟩;exact⟨(dN (gU _ _) (dN (gU _ _) rF)),⟨h0,h1⟩,(dY rfl (dY rfl tr))⟩
theorem aeC:RP c uT lz M4:=by rintro cs x ⟨rfl,h0,h1,h2⟩;exact⟨(dN (gU _ _) (dN (gU _ _) (dN (wW _) rF))),⟨h0,h1,(show gb _ by unfold gb cz;have:=h2;unfold maxLen at this;omega)⟩,(dY rfl (dY rfl (dY rfl tr)))⟩
theorem aeA(hX:∀b,¬c.X b):RP c uS jf Vg:=by rintro cs x ⟨v0,rfl,h0,h1,h2,h3,h4,h6⟩;obtain⟨r6,o6,n6⟩:=uJ hX aeC (sz:=3) rfl (by decide) h6;exact⟨(dN (wW _) (dN (gU _ _) (dN (gU _ _) (dN (gU _ _) (dN (gU _ _) (dN (Hx _) (dN r6 rF))))))),⟨(show gb _ by unfold gb cz;have:=h0;unfold maxLen at this;omega),h1,h2,h3,h4,o6⟩,(dY rfl (dY rfl (dY rfl (dY rfl (dY rfl (dY rfl (dY n6 tr)))))))⟩
theorem acz(hX:∀b,¬c.X b):RP c uI fI G4:=by rintro cs x ⟨v0,rfl,h0,h1,h2⟩;obtain⟨r2,o2,n2⟩:=uJ hX (aeA hX) (sz:=7) rfl (by decide) h2;exact⟨(dN (wW _) (dN (gU _ _) (dN r2 rF))),⟨(show gb _ by unfold gb cz;have:=h0;unfold maxLen at this;omega),h1,o2⟩,(dY rfl (dY rfl (dY n2 tr)))⟩
theorem afN:RP c uZ gH V6:=by rintro cs x ⟨rfl,h0,h1,h2,h3⟩;exact⟨(dN (gU _ _) (dN (wW _) (dN (gU _ _) (dN (gU _ _) rF)))),⟨h0,(show gb _ by unfold gb cz;have:=h1;unfold maxLen at this;omega),h2,h3⟩,(dY rfl (dY rfl (dY rfl (dY rfl tr))))⟩
theorem agE(hX:∀b,¬c.X b):RP c X5 cR pQ:=by rintro cs x ⟨v0,v1,rfl,h0,h1⟩;obtain⟨r0,o0,n0⟩:=uJ hX (acz hX) (sz:=3) rfl (by decide) h0;obtain⟨r1,o1,n1⟩:=uJ hX afN (sz:=4) rfl (by decide) h1;exact⟨(dN r0 (dN r1 rF)),⟨o0,o1⟩,(dY n0 (dY n1 tr))⟩
theorem acA:RP c uK qD Tt:=by rintro cs x ⟨rfl,h0,h1,h2⟩;exact⟨(dN (gU _ _) (dN (wW _) (dN (gU _ _) rF))),⟨⟨h0,(show gb _ by unfold gb cz;have:=h1;unfold maxLen at this;omega)⟩,h2⟩,(dY rfl (dY rfl (dY rfl tr)))⟩
theorem adz(hX:∀b,¬c.X b):RP c Ie gT uG:=by rintro cs x ⟨v0,rfl,h0,h1,h2⟩;obtain⟨r2,o2,n2⟩:=uJ hX acA (sz:=3) rfl (by decide) h2;exact⟨(dN (gU _ _) (dN (wW _) (dN r2 rF))),⟨h0,(show gb _ by unfold gb cz;have:=h1;unfold maxLen at this;omega),o2⟩,(dY rfl (dY rfl (dY n2 tr)))⟩
theorem afM:RP c uW aW Ix:=by rintro cs x ⟨rfl,h0,h1,h2,h3,h6,h7⟩;exact⟨(dN (gU _ _) (dN (wW _) (dN (gU _ _) (dN (gU _ _) (dN (Hx _) (dN (Hx _) (dN (gU _ _) (dN (gU _ _) rF)))))))),⟨⟨h0,(show gb _ by unfold gb cz;have:=h1;unfold maxLen at this;omega)⟩,⟨h2,h3⟩,h6,h7⟩,(dY rfl (dY rfl (dY rfl (dY rfl (dY rfl (dY rfl (dY rfl (dY rfl tr))))))))⟩
theorem agD(hX:∀b,¬c.X b):RP c IX bY rQ:=by rintro cs x ⟨v0,v1,rfl,h0,h1,h2,h3,h4,h5,h6,h7,h9,h10⟩;obtain⟨r7,o7,n7⟩:=uJ hX aeB (sz:=2) rfl (by decide) h7;obtain⟨bG,JB,n10⟩:=uJ hX afM (sz:=8) rfl (by decide) h10;exact⟨(dN (gU _ _) (dN (wW _) (dN (gU _ _) (dN (gU _ _) (dN (gU _ _) (dN (gU _ _) (dN (gU _ _) (dN r7 (dN (Hx _) (dN (gU _ _) (dN bG rF))))))))))),⟨h0,(show gb _ by unfold gb cz;have:=h1;unfold maxLen at this;omega),h2,h3,h4,h5,⟨h6,o7⟩,h9,JB⟩,(dY rfl (dY rfl (dY rfl (dY rfl (dY rfl (dY rfl (dY rfl (dY n7 (dY rfl (dY rfl (dY n10 tr)))))))))))⟩
theorem agF{α:Type}{d:ck α}{e:α->ay}{ok:α->Prop}(H:RP c d e ok){cs:Array Value}{x:α}(h:d.is c.w cs.toList x):an c (.agg (e x)) (.agg cs)/\ok x:=by obtain⟨h1,h2,h3⟩:=H _ _ h;simp only[an];exact⟨⟨cs,rfl,h1,h3⟩,h2⟩
end
end
section
open Go.RowKit
def base (W:World):RC:=ctx ⟨W,[],λ_=>False,aX⟩ W [] cm
theorem Db(W:World):∀b,¬(base W).X b:=by
 rintro b (k|⟨p,hp,_⟩|⟨i,k⟩)
 ·exact k
 ·cases hp
 ·cases k
theorem ael{n:FuncId}{m:ay->Heap->aL}{iT:ay}(hs:Sound Tryz.prog aX n m)(hc:∀us w,(callFunc n us).run Tryz.prog w=.ok (.enter n us) w)(W:World)(hT:tP W (λ_=>False)) (vs:Array Value) (hr:aF (base W) iT vs.toList) (hm:m iT []=δ (.bool ι,[])):
  Calls Tryz.prog n vs W λe W'=>e=.returned (.bool ι)/\Below W.heap.size W W':=by
 have hZ:oU ⟨W,[],λ_=>False,aX⟩:=⟨λ_(k:False)=>k.elim,hT.to (cg _) (λ_ _ _=>rfl) λb _ k=>by rcases k with k|⟨p,hp,_⟩;exact k;cases hp⟩
 have vW:fQ (ctx ⟨W,[],λ_=>False,aX⟩ W [] cm) []:=by
  refine⟨rfl,λi j p q hp=>?_,λi p x hp=>?_⟩
  ·simp [ctx]at hp
  ·simp [ctx]at hp
 rcases hs _ _ _ _ hm with⟨g,h1,h2⟩|hv
 case inr=>
  obtain⟨v,w',E',k1,_⟩:=hv ⟨W,[],λ_=>False,aX⟩ vs rfl hZ vW hr;rw[hc]at k1;injection k1 with k1
  cases k1
 have hg:g=n:=by
  have e1:=h1 #[] W;rw[hc #[] W]at e1;injection e1 with e1
  injection e1 with e1
  exact e1.symm
 subst hg
 have hh:fQ (ctx ⟨W,[],λ_=>False,aX⟩ W [] cm) []:=by
  refine⟨rfl,λi j p q hp=>?_,λi p x hp=>?_⟩
  ·simp [ctx]at hp
  ·simp [ctx]at hp
 refine(h2 ⟨W,[],λ_=>False,aX⟩ vs rfl hZ hh hr).mono ?_;rintro e w' ⟨v,E',rfl,ho,_,hv⟩;simp only[an]at hv;subst hv;exact⟨rfl,ho.os,ho.tape,ho.output,ho.size,λk hk=>ho.stay k hk (λp hp=>by cases hp)⟩
end
section
open Go.ChangeShapes Go.WideShapes Go.ChangeAt Go.RowKit
mutual
def WJ:DataW Unit->List Value
 |.lit (.int k z)=>[.int k z]
 |.agg l=>VU l
 |_=>[]
def VU:List (DataW Unit)->List Value
 |[]=>[]
 |d::l=>WJ d++VU l
end
def D6(d:DataW Unit):Obj->Obj
 |.cells _ t fr=>.cells (WJ d).toArray t fr
 |o=>o
theorem afU:(Tryz.prog.globals[1]?).map (·.type)=δ 207:=by kernel_rfl
theorem ado{W:World}(h:W.ShapedOpen Tryz.prog):Un W:=cell_of_shapedOpen_int (g:=0) (t:=3) (zero:=#[Go.Value.int Go.IntKind.i64 0]) h (of_decide_eq_true (by kernel_rfl)) (by kernel_rfl) rfl (by kernel_rfl) (by kernel_rfl) Tryz.underlying3
theorem aeF {W : World} (h : Lib.TabIs Tryz.prog W "internal/strconv.uint64pow10" .u64 Lib.pow10Tab) (hs : W.ShapedOpen Tryz.prog) : tP W (fun _ => False) := by
 obtain⟨m,hm⟩:=ado hs;refine⟨⟨h,?_,id⟩,⟨m,hm⟩,?_,id⟩
 ·unfold Lib.TabIs World.var? at h;rw[OG,aB]at h;split at h
  ·rename_i k;exact(tQ.1 k).1
  ·cases h
 ·rcases Nat.lt_or_ge 0 W.heap.size with h'|h'
  ·exact h'
  ·simp [RD,ao8 h']at hm
end
end
end Go.Proofs.YtngdngjbofohaaaGreatDoor
