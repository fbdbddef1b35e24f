/- Parts of the proof of CueMarksAreNotSeen, in order. -/
import Derived.Orders
import Derived.Below
import Derived.WalkKit
import Derived.Laws.StructEq
import Derived.Laws.Append
import Derived.Laws.AppendOwn
import Derived.Test.YtphgchakmkankaaRows
import Derived.KernelRfl
import Derived.Lib.Bytealg
import Derived.Sort.Defs
import Derived.Lib.BitFns
import Derived.Test.YtphgchakmkankaaShelf
import Derived.Lib.Overlaps
import Derived.IntWalk
import Derived.Lib.Strings
import Derived.Sort.Statements
import Derived.Sort.AssemblyPlain
import Derived.WalkSpells
import Derived.ProofKit
import Derived.OpenShut
import Derived.Lib.Hide
import Derived.Lib.SmallJoins
import Derived.Deep.QuietTactic
import Derived.BigQuiet
import Derived.Deep.RegionHeld3
import Derived.Deep.Slices
import Derived.Test.YtphgchakmkankaaKCueMarksAreNotSeen4
namespace Go.Proofs.Ytphgchakmkankaa
set_option linter.unusedVariables false
set_option linter.unusedSimpArgs false
set_option linter.unusedSectionVars false
section
set_option maxRecDepth 100000
noncomputable def Ai (a0:aV) (a1:(List bW)) (a2:Int):Option Bool:=
 iL a1 (fun(i8:Nat) e7 (s1:Unit)=>(show Option (Lr Unit Unit Bool)from
   (tq (gK a0) (ko a0 e7.key)).bind fun r9=>
   if(((decide (e7.key.unit=a2))&&(decide (r9.1.group=1)))&&(decide (¬(e7.level=0))))=true then
    some (.ret true)
   else
   some (.go ()))) (fun s1=>some ()) () (fun b2=>
  some false) (fun b2=>
  some b2)
theorem Zc {a0:aV} {a1:(List bW)} {a2:Int} {σ:Heap} {r:Bool} (h:Ai a0 a1 a2=some r):Jo [(U.agg (bh a0)),(sl 3 ck a1),(U.int .i64 a2)] σ=some ((U.bool r),σ):=by
 refine B3 (f:=Jt) (y0:=(U.agg (bh a0))) (y1:=(sl 3 ck a1)) (y2:=(U.int .i64 a2)) (enc:=fun r:Bool=>(U.bool r)) (T:=Ai a0 a1 a2) (bU (tE (bU (gM (fun _=>(bU rfl (bU rfl (bU (gM (fun _=>rfl) _) mO)))) _) (bU rfl mO))) (bU rfl rfl)) rfl ?_ r h
 unfold Jt Ai
 refine an _ rfl<|an _ (dU _ _ _) ?_
 refine lZ (B:=Unit) (R:=Bool) (fun(i8:Nat) (s1:Unit) v w3=>v=[(U.lbx (bh a0)),aP,(U.int .i64 (i8:Int))]∧σ=w3) (fun(b2:Unit) (q:LS)=>∃u3 u6 sC,q=((AX.exit 0),([u3,u6,sC]:List U),σ)) (fun(b2:Bool) (q:LS)=>∃u3 sC,q=(AX.ret,([u3,(U.bool b2),sC]:List U),σ)) ?_ ?_ ⟨rfl,rfl⟩ ?_ ?_
 ·intro yD i8 e7 s1 v w3 nR hI
  obtain⟨rfl,rfl⟩:=hI
  refine an _ (iq nR)<|mg<|an _ (fW nR)<|an _ rfl<|an _ rfl<|an _ (BG _ _ rfl)<|an _ rfl<|an _ rfl ?_
  refine jA (fun r9:(eu×Bool)=>((U.aA [(U.agg (eA r9.1)),(U.bool r9.2)]),σ)) (fun r9 Ds=>(oh (e:=fun r:(eu×Bool)=>((U.aA [(U.agg (eA r.1)),(U.bool r.2)]),σ)) (fun hs=>Nt a0 hs e7.key σ)) Ds) (fun r9 Ds=>?_)
  refine an _ rfl<|an _ rfl<|an _ rfl<|an _ (qX _ _ rfl)<|an _ rfl<|an _ (oB _ _ _)<|dF (U.int .i64 r9.1.group) (fun hg=>rfl)<|dF (U.bool (decide (r9.1.group=1))) (fun hg=>by(try rw[hg]);exact(oB _ _ _))<|an _ (qo _ _)<|dF (U.int .i64 e7.level) (fun hg=>rfl)<|dF (U.bool (decide (¬(e7.level=0)))) (fun hg=>by(try rw[hg]);exact(iM _ _ _))<|an _ (qo _ _) ?_
  refine iJ (c:=(((decide (e7.key.unit=a2))&&(decide (r9.1.group=1)))&&(decide (¬(e7.level=0))))) (fun fU=>?_) (fun fU=>?_)
  ·exact bK (fT (by simp) ⟨_,_,rfl⟩)
  refine an _ (fZ nR yD) ?_
  exact bK (l5 ⟨rfl,rfl⟩)
 ·intro hl s1 v w3 hI
  obtain⟨rfl,rfl⟩:=hI
  refine an _ (ia _)<|me ?_
  exact bK ⟨by simp,⟨_,_,_,rfl⟩⟩
 ·intro hl b2 q hq
  obtain⟨u3,u6,sC,rfl⟩:=hq
  refine gL rfl ?_
  exact fu _ (cV _ _) ⟨rfl,rfl⟩
 ·intro hl b2 q hq
  obtain⟨u3,sC,rfl⟩:=hq
  refine rM rfl<|gL rfl ?_
  exact fu _ (cV _ _) ⟨rfl,rfl⟩
noncomputable def Bq (a0:aV) (a1:(List bJ)) (a2:(List aG)):Option Bool:=
 (tq (gK a0∧cB nX a1∧cB mP a2) (sL a0 a1 a2)).bind fun r1=>
 if ¬(r1.2=0)then
  some (decide ((r1.1.length:Int)=0))
 else
 if ¬((r1.1.length:Int)=(a2.length:Int))then
  some false
 else
 iL a2 (fun(i9:Nat) e8 (s2:Unit)=>(show Option (Lr Unit Unit Bool)from
   (tq (gK a0∧cB nX a1∧cB mP a2∧aS e8.number) (rA a0 a1 a2 e8.number)).bind fun fF=>
   (tq (gK a0∧cB nX a1∧cB mP r1.1∧aS e8.number) (rA a0 a1 r1.1 e8.number)).bind fun cg=>
   if(((decide (¬(fF.2=0)))||(decide (¬(cg.2=0))))||(decide (¬((fF.1.length:Int)=(cg.1.length:Int)))))=true then
    some (.ret false)
   else
   iL fF.1 (fun(GX:Nat) wY (nB:Unit)=>(show Option (Lr Unit Unit Bool)from
     (tq (gK a0) (ko a0 wY.key)).bind fun eH=>
     (p6 cg.1 (GX:Int)).bind fun bC=>
     (if(decide (¬(wY=bC))&&(!(decide (eH.1.group=1))))=true then Ai a0 fF.1 wY.key.unit else some default).bind fun nT=>
     if((decide (¬(wY=bC)))&&((decide (eH.1.group=1))||nT))=true then
      some (.ret false)
     else
     some (.go ()))) (fun nB=>some ()) () (fun yM=>
    some (.go ())) (fun yM=>
    some (.ret yM)))) (fun s2=>some ()) () (fun b3=>
  some true) (fun b3=>
  some b3)
theorem UY {a0:aV} {a1:(List bJ)} {a2:(List aG)} {σ:Heap} {r:Bool} (h:Bq a0 a1 a2=some r):MK [(U.agg (bh a0)),(sl 3 gh a1),(sl 11 aQ a2)] σ=some ((U.bool r),σ):=by
 refine B3 (f:=Ho) (y0:=(U.agg (bh a0))) (y1:=(sl 3 gh a1)) (y2:=(sl 11 aQ a2)) (enc:=fun r:Bool=>(U.bool r)) (T:=Bq a0 a1 a2) (bU (tE (bU (gM (fun _=>(bU rfl (bU rfl (bU (gM (fun _=>rfl) _) mO)))) _) (bU rfl mO))) (bU (gM (fun _=>rfl) _) (bU (gM (fun _=>rfl) _) rfl))) rfl ?_ r h
 unfold Ho Bq
 refine an _ rfl<|an _ rfl ?_
 refine jA (fun r1:((List aG)×Int)=>((U.aA [(sl 11 aQ r1.1),(U.int .i64 r1.2)]),σ)) (fun r1 oI=>(oh (e:=fun r:((List aG)×Int)=>((U.aA [(sl 11 aQ r.1),(U.int .i64 r.2)]),σ)) (fun hs=>YO hs.1 hs.2.1 hs.2.2 σ)) oI) (fun r1 oI=>?_)
 refine an (sl 11 aQ r1.1) rfl<|an _ rfl<|an _ (iM _ _ _) ?_
 refine mW (p:=¬(r1.2=0)) (fun jO=>?_) (fun jO=>?_)
 ·refine an _ (dU _ _ _)<|an _ (oB _ _ _) ?_
  exact fu _ (cV _ _) ⟨rfl,rfl⟩
 refine an _ (dU _ _ _)<|an _ (dU _ _ _)<|an _ (iM _ _ _) ?_
 refine mW (p:=¬((r1.1.length:Int)=(a2.length:Int))) (fun jD=>?_) (fun jD=>?_)
 ·exact fu _ (cV _ _) ⟨rfl,rfl⟩
 refine an _ (dU _ _ _) ?_
 refine lZ (B:=Unit) (R:=Bool) (fun(i9:Nat) (s2:Unit) v w4=>∃u6,v=[(U.lbx (bh a0)),u6,(U.int .i64 (i9:Int))]∧σ=w4) (fun(b3:Unit) (q:LS)=>∃u3 u6 DK,q=((AX.exit 0),([u3,u6,DK]:List U),σ)) (fun(b3:Bool) (q:LS)=>∃u3 DK,q=(AX.ret,([u3,(U.bool b3),DK]:List U),σ)) ?_ ?_ ⟨_,rfl,rfl⟩ ?_ ?_
 ·intro adi i9 e8 s2 v w4 LY hI
  obtain⟨u6,rfl,rfl⟩:=hI
  refine an _ (iq LY)<|mg<|an _ (fW LY)<|an _ rfl<|an _ rfl<|an _ (Cd _ _ rfl)<|an _ rfl<|an _ rfl ?_
  refine jA (fun fF:((List bW)×Int)=>((U.aA [(sl 3 ck fF.1),(U.int .i64 fF.2)]),σ)) (fun fF CK=>(oh (e:=fun r:((List bW)×Int)=>((U.aA [(sl 3 ck r.1),(U.int .i64 r.2)]),σ)) (fun hs=>Pb hs.1 hs.2.1 hs.2.2.1 hs.2.2.2 σ)) CK) (fun fF CK=>?_)
  refine an (sl 3 ck fF.1) rfl<|an _ rfl<|an _ rfl<|an _ rfl ?_
  refine jA (fun cg:((List bW)×Int)=>((U.aA [(sl 3 ck cg.1),(U.int .i64 cg.2)]),σ)) (fun cg wT=>(oh (e:=fun r:((List bW)×Int)=>((U.aA [(sl 3 ck r.1),(U.int .i64 r.2)]),σ)) (fun hs=>Pb hs.1 hs.2.1 hs.2.2.1 hs.2.2.2 σ)) wT) (fun cg wT=>?_)
  refine an (sl 3 ck cg.1) rfl<|an _ rfl<|an _ (iM _ _ _)<|gn (U.int .i64 cg.2) (fun hg=>rfl)<|gn (U.bool (decide (¬(cg.2=0)))) (fun hg=>by(try rw[hg]);exact(iM _ _ _))<|an _ (rK _ _)<|gn (sl 3 ck fF.1) (fun hg=>rfl)<|gn (U.int .i64 (fF.1.length:Int)) (fun hg=>by(try rw[hg]);exact(dU _ _ _))<|gn (sl 3 ck cg.1) (fun hg=>rfl)<|gn (U.int .i64 (cg.1.length:Int)) (fun hg=>by(try rw[hg]);exact(dU _ _ _))<|gn (U.bool (decide (¬((fF.1.length:Int)=(cg.1.length:Int))))) (fun hg=>by(try rw[hg]);exact(iM _ _ _))<|an _ (rK _ _) ?_
  refine iJ (c:=(((decide (¬(fF.2=0)))||(decide (¬(cg.2=0))))||(decide (¬((fF.1.length:Int)=(cg.1.length:Int)))))) (fun eB=>?_) (fun eB=>?_)
  ·exact bK (fT (by simp) ⟨_,_,rfl⟩)
  refine an _ (dU _ _ _) ?_
  refine lZ (B:=Unit) (R:=Bool) (fun(GX:Nat) (nB:Unit) v zu=>∃u6,v=[(U.lbx (bh a0)),u6,(U.int .i64 (GX:Int))]∧σ=zu) (fun(yM:Unit) (q:LS)=>∃u6 DP,q=((AX.exit 2),([(U.lbx (bh a0)),u6,DP]:List U),σ)) (fun(yM:Bool) (q:LS)=>∃u3 DP,q=(AX.ret,([u3,(U.bool yM),DP]:List U),σ)) ?_ ?_ ⟨_,rfl,rfl⟩ ?_ ?_
  ·intro acd GX wY nB v zu K9 hI
   obtain⟨u6,rfl,rfl⟩:=hI
   refine an _ (iq K9)<|mg<|an _ (fW K9)<|an _ rfl<|an _ rfl<|an _ (BG _ _ rfl)<|an _ rfl<|an _ rfl ?_
   refine jA (fun eH:(eu×Bool)=>((U.aA [(U.agg (eA eH.1)),(U.bool eH.2)]),σ)) (fun eH SU=>(oh (e:=fun r:(eu×Bool)=>((U.aA [(U.agg (eA r.1)),(U.bool r.2)]),σ)) (fun hs=>Nt a0 hs wY.key σ)) SU) (fun eH SU=>?_)
   refine an _ rfl<|an _ rfl<|an _ rfl<|an _ (qX _ _ rfl)<|an _ rfl ?_
   refine jA (fun bC:bW=>(U.rp (ck bC))) (fun bC S3=>yu S3) (fun bC S3=>?_)
   refine an _ rfl<|an _ (Xi _ _)<|dF (U.int .i64 eH.1.group) (fun hg=>rfl)<|dF (U.bool (decide (eH.1.group=1))) (fun hg=>by(try rw[hg]);exact(oB _ _ _))<|dF (U.bool (decide (eH.1.group=1))) (fun hg=>by(try rw[hg]);exact rfl)<|Cm (U.agg (bh a0)) (fun hg=>rfl)<|Cm (sl 3 ck fF.1) (fun hg=>rfl)<|Cm (U.int .i64 wY.key.unit) (fun hg=>rfl) ?_
   refine aaY (ω:=Bool) (fun nT=>(U.bool nT)) (fun hg nT SV=>by(try rw[hg]);exact(quiet_of (Zc SV))) (fun nT SV=>?_)
   refine dF (U.bool ((decide (eH.1.group=1))||nT)) (fun hg=>by(try rw[hg]);exact(rK _ _))<|an _ (qo _ _) ?_
   refine iJ (c:=((decide (¬(wY=bC)))&&((decide (eH.1.group=1))||nT))) (fun iY=>?_) (fun iY=>?_)
   ·exact bK (fT (by simp) ⟨_,_,rfl⟩)
   refine an _ (fZ K9 acd) ?_
   exact bK (l5 ⟨_,rfl,rfl⟩)
  ·intro hl nB v zu hI
   obtain⟨u6,rfl,rfl⟩:=hI
   refine an _ (ia _)<|me ?_
   exact bK ⟨by simp,⟨_,_,rfl⟩⟩
  ·intro hl yM q hq
   obtain⟨u6,DP,rfl⟩:=hq
   refine gL rfl<|an _ (fZ LY adi) ?_
   exact bK (l5 ⟨_,rfl,rfl⟩)
  ·intro hl yM q hq
   obtain⟨u3,DP,rfl⟩:=hq
   refine rM rfl<|gL rfl ?_
   exact bK (fT (by simp) ⟨_,_,rfl⟩)
 ·intro hl s2 v w4 hI
  obtain⟨u6,rfl,rfl⟩:=hI
  refine an _ (ia _)<|me ?_
  exact bK ⟨by simp,⟨_,_,_,rfl⟩⟩
 ·intro hl b3 q hq
  obtain⟨u3,u6,DK,rfl⟩:=hq
  refine gL rfl ?_
  exact fu _ (cV _ _) ⟨rfl,rfl⟩
 ·intro hl b3 q hq
  obtain⟨u3,DK,rfl⟩:=hq
  refine rM rfl<|gL rfl ?_
  exact fu _ (cV _ _) ⟨rfl,rfl⟩
end
def uR (st:List bB) (k:az):Option fN:=(gm st k).map (·.value)
def G1 (o:Option aM) (d:Option fN):Option fN:=match o with
 |some m=>if m.release=true then none else some m.value
 |none=>d
def sv (l:List aG) (i:Nat) (k:az):Option fN:=uR (lW (l.take i)) k
def Cw (l:List aG):Prop:=∀c∈l,eG c.aL
theorem Wr (l:List aG):tG (lW l):=(IT l).2.1
theorem Qj {n:Int} {k:az}:∀(ms:List aM) {st:List bB},tG st→eG ms→uR (ms.foldl (tg n) st) k=G1 (dP ms k) (uR st k)
 |[],st,_,_=>rfl
 |m::ms,st,hs,hm=>by
  obtain⟨h1,h2,_⟩:=Oh (n:=n) hs m
  have hm':=List.pairwise_cons.1 hm
  rw[List.foldl_cons,Qj ms h1 hm'.2]
  have e:uR (tg n st m) k=if k=m.key then(if m.release=true then none else some m.value)else uR st k:=by
   unfold uR
   rw[h2]
   split
   ·split<;>rfl
   ·rfl
  rw[e]
  by_cases hk:m.key=k
  ·have hn:dP ms k=none:=by
    unfold dP;rw[List.find?_eq_none]
    intro z hz q
    have:=hm'.1 z hz
    rw[of_decide_eq_true q,←hk,qm]at this;cases this
   have hc:dP (m::ms) k=some m:=by unfold dP;rw[List.find?_cons,decide_eq_true hk]
   rw[hn,hc,if_pos hk.symm]
   rfl
  ·have hc:dP (m::ms) k=dP ms k:=by unfold dP;rw[List.find?_cons,decide_eq_false hk]
   rw[hc,if_neg (fun q=>hk q.symm)]
theorem abb {l:List aG} {i:Nat} {c:aG} (hx:l[i]? =some c) (hs:eG c.aL) (k:az):sv l (i+1) k=G1 (dP c.aL k) (sv l i k):=by
 unfold sv
 rw[List.take_add_one,hx,Option.toList_some,lW,List.foldl_append]
 exact Qj c.aL (Wr _) hs
section
open HP
theorem N2 {k:az}:∀(ms:List aM) {z:List aM},eG z→eG ms→dP (ms.foldl je z) k=match dP ms k with
  |some m=>some m
  |none=>dP z k
 |[],z,_,_=>rfl
 |m::ms,z,hz,hm=>by
  have hm':=List.pairwise_cons.1 hm
  rw[List.foldl_cons,N2 ms (F2 hz m) hm'.2,aaD hz]
  have hc:dP (m::ms) k=if m.key=k then some m else dP ms k:=by
   unfold dP
   rw[List.find?_cons]
   by_cases h:m.key=k
   ·rw[decide_eq_true h,if_pos h]
   ·rw[decide_eq_false h,if_neg h]
  rw[hc]
  by_cases hk:m.key=k
  ·rw[if_pos hk,if_pos hk]
   have hn:dP ms k=none:=by
    unfold dP;rw[List.find?_eq_none]
    intro z hz q
    have:=hm'.1 z hz
    rw[of_decide_eq_true q,hk,qm]at this;cases this
   rw[hn]
  ·rw[if_neg hk,if_neg hk]
end
section
def kQ (o:List aG) (j:Nat) (k:az):Option aM:=(o[j]?).bind fun c=>dP c.aL k
theorem th {o:List aG} (h:Cw o) (i:Nat) (k:az):sv o (i+1) k=G1 (kQ o i k) (sv o i k):=by
 unfold kQ
 cases hx:o[i]? with
 |none=>
  have:=List.getElem?_eq_none_iff.1 hx
  show sv o (i+1) k=sv o i k
  unfold sv
  rw[List.take_of_length_le (by omega),List.take_of_length_le this]
 |some c=>exact abb hx (h c (List.mem_of_getElem? hx)) k
theorem NV {dk:Nat→Bool} {tn:Nat→List aM}:∀{n:Nat},dk n=true→(∀j,l8 dk tn n≤j→j≤n→dk j=true)∧∀j,l8 dk tn n<j→j≤n→tn j=[]
 | 0, h => ⟨fun (j : Nat) _ hj => by
   have:j=0:=by omega
   rw[this];exact h,fun(j:Nat) h1 h2=>by omega⟩
 |n+1,h=>by
  rw[l8]
  split
  ·rename_i hc
   rw[Bool.and_eq_true]at hc
   obtain⟨a,b⟩:=NV (tn:=tn) hc.1
   refine⟨fun j h1 h2=>?_,fun j h1 h2=>?_⟩
   ·by_cases e:j=n+1
    ·rw[e];exact h
    ·exact a j h1 (by omega)
   ·by_cases e:j=n+1
    ·rw[e];exact List.isEmpty_iff.1 hc.2
    ·exact b j h1 (by omega)
  ·refine⟨fun j h1 h2=>?_,fun j h1 h2=>by omega⟩
   rw[show j=n+1 by omega];exact h
theorem E6 (r:aV) (c:aG) (u:Int) (k:az):dP (ij r c u) k=if k.unit=u∧¬fP r k=1 then dP c.aL k else none:=by
 unfold ij dP
 rw[List.find?_filter]
 split
 ·rename_i h
  congr 1
  funext m
  by_cases e:m.key=k
  ·rw[e];simp [h.1,h.2]
  ·simp [e]
 ·rename_i h
  rw[List.find?_eq_none]
  intro m _ q
  simp only[Bool.and_eq_true,decide_eq_true_eq]at q
  exact h (by rw[←q.2];exact q.1)
theorem OJ (T ms:List aM) (k:az):dP (mQ T ms) k=if gq T k=true then none else dP ms k:=by
 unfold mQ dP
 rw[List.find?_filter]
 split
 ·rename_i h
  rw[List.find?_eq_none]
  intro m _ q
  simp only[Bool.and_eq_true,decide_eq_true_eq]at q
  rw[q.2,h]at q
  simp at q
 ·rename_i h
  congr 1
  funext m
  by_cases e:m.key=k
  ·rw[e];simp [h]
  ·simp [e]
theorem PU {T:List aM} (hT:eG T) {ms:List aM} (hs:eG ms) (k:az):dP (mo ms T) k=match dP T k with|some m=>some (strip m)|none=>dP ms k:=by
 have e:mo ms T=(T.map strip).foldl je ms:=by
  unfold mo;rw[List.foldl_map]
 have hs2:eG (T.map strip):=List.pairwise_map.2 hT
 rw[e,N2 _ hs hs2]
 have:dP (T.map strip) k=(dP T k).map strip:=by
  unfold dP;rw[List.find?_map];rfl
 rw[this]
 cases dP T k<;>rfl
section
variable {r : aV} {ak : List bJ} {l : List aG}
structure uF (r : aV) (ak : List bJ) (l o : List aG) (bd : Int → Nat) : Prop where
 m:jt l o
 u:∀c∈o,∀x∈c.aL,qA r ak x=0
 b:∀(k:az) (j:Nat),(∀j',j≤j'→j'<bd k.unit→cM r ak l j' k.unit=true)→kQ o j k=kQ l j k
 c:∀(i:Nat) (k:az),fP r k=1∨cM r ak l i k.unit=false→sv o (i+1) k=sv l (i+1) k
theorem uF.weak {o:List aG} {bd Ti:Int→Nat} (h:uF r ak l o bd) (hb:∀v,bd v≤Ti v):uF r ak l o Ti:=
 ⟨h.m,h.u,fun k j hd=>h.b k j fun j' h1 h2=>hd j' h1 (by have:=hb k.unit;omega),h.c⟩
theorem SD {o o':List aG} (h:Cw o) (h':Cw o') {k:az} (e:∀j,kQ o' j k=kQ o j k):∀i,sv o' i k=sv o i k
 |0=>rfl
 |i+1=>by rw[th h,th h',e,SD h h' e i]
theorem XY (hg:Good l) {o:List aG} {bd:Int→Nat} {i:Nat} {u:bE} (hu:u∈r.units) (hi:i+1<l.length) (hD:uF r ak l o bd) (hb:bd u.number≤i+1):
  uF r ak l ((jv (cM r ak l) (dQ r l) (iA r ak l) l (i+1) u).foldl (jr r) o) (fun v=>if v=u.number then i+2 else bd v):=by
 have hmem:∀k∈jv (cM r ak l) (dQ r l) (iA r ak l) l (i+1) u,k∈lF r ak l:=fun k hk=>
  List.mem_flatMap.2 ⟨i,List.mem_range.2 (by omega),List.mem_flatMap.2 ⟨u,hu,hk⟩⟩
 have hw:∀v,bd v≤if v=u.number then i+2 else bd v:=fun v=>by
  split
  ·rename_i e;subst e;omega
  ·omega
 generalize hX:jv (cM r ak l) (dQ r l) (iA r ak l) l (i+1) u=X at hmem
 unfold jv at hX
 split at hX
 ·subst hX;exact hD.weak hw
 rename_i hd
 split at hX
 ·subst hX;exact hD.weak hw
 rw[show i+1-1=i by omega]at hd hX
 simp only[Bool.not_eq_true,Bool.or_eq_false_iff,Bool.not_eq_false']at hd
 obtain⟨yZ,hd2⟩:=hd
 have hfl:l8 (fun j=>cM r ak l j u.number) (fun j=>dQ r l j u.number) i≤i:=Fq _ _ i
 obtain⟨q1,q2⟩:=NV (dk:=fun j=>cM r ak l j u.number) (tn:=fun j=>dQ r l j u.number) yZ
 generalize l8 (fun j=>cM r ak l j u.number) (fun j=>dQ r l j u.number) i=f at hX hfl q1 q2
 have ht:l[i+1]? =some l[i+1]:=List.getElem?_eq_getElem hi
 have hf:l[f]? =some l[f]:=List.getElem?_eq_getElem (by omega)
 subst hX
 rw[List.foldl_cons,List.foldl_nil]
 have TL:=hmem _ (List.mem_singleton.2 rfl)
 obtain⟨m1,m2⟩:=OI hg hD.m TL
 obtain⟨c,d,hne,hc,hd',_⟩:=Jp hg hD.m TL
 have p1:dN o ((l[i+1]?.map (·.number)).getD 0)=i+1:=by
  rw[sO,hD.m.num,←sO,ht];exact Aq hg.ji ht rfl
 have p2:dN o ((l[f]?.map (·.number)).getD 0)=f:=by
  rw[sO,hD.m.num,←sO,hf];exact Aq hg.ji hf rfl
 simp only at hne hc hd'
 rw[p1]at hne hc
 rw[p2]at hne hd'
 have e0:jr r o ⟨u.number,(l[f]?.map (·.number)).getD 0,(l[i+1]?.map (·.number)).getD 0⟩=dM (dM o (i+1) (mQ (ij r c u.number))) f (mo · (ij r c u.number)):=by
  rw[m2];unfold Kx;simp only;rw[p1,p2,FC hc]
 have hcs:=hD.m.ji c (List.mem_of_getElem? hc)
 have hds:=hD.m.ji d (List.mem_of_getElem? hd')
 have tL:eG (ij r c u.number):=hcs.sublist (Ff r c u.number)
 have get:∀j k,kQ (jr r o ⟨u.number,(l[f]?.map (·.number)).getD 0,(l[i+1]?.map (·.number)).getD 0⟩) j k=if j=f then dP (mo d.aL (ij r c u.number)) k else if j=i+1 then dP (mQ (ij r c u.number) c.aL) k else kQ o j k:=by
  intro j k
  unfold kQ
  rw[e0,mH,mH]
  by_cases h1:j=f
  ·subst h1
   rw[if_pos rfl,if_neg hne,if_pos rfl,hd'];rfl
  ·rw[if_neg (fun q=>h1 q.symm),if_neg h1]
   by_cases h2:j=i+1
   ·subst h2;rw[if_pos rfl,if_pos rfl,hc];rfl
   ·rw[if_neg (fun q=>h2 q.symm),if_neg h2]
 have aF:kQ o f=dP d.aL:=by funext k;unfold kQ;rw[hd'];rfl
 have aT:kQ o (i+1)=dP c.aL:=by funext k;unfold kQ;rw[hc];rfl
 have oS:Cw o:=hD.m.ji
 have Bg:Cw _:=m1.ji
 -- keys that are not touched
 have same:∀k:az,dP (ij r c u.number) k=none→∀j,kQ (jr r o ⟨u.number,(l[f]?.map (·.number)).getD 0,(l[i+1]?.map (·.number)).getD 0⟩) j k=kQ o j k:=by
  intro k hk j
  rw[get]
  split
  ·rename_i h;rw[PU tL hds,hk,h,aF]
  split
  ·rename_i h;rw[OJ,PT.1 hk,if_neg (by decide),h,aT]
  ·rfl
 refine⟨m1,?_,?_,?_⟩
 ·intro x hx mv i6
  rw[e0]at hx
  obtain⟨j,hj⟩:=List.mem_iff_getElem?.1 hx
  have hT:∀y∈ij r c u.number,qA r ak y=0:=fun y hy=>hD.u c (List.mem_of_getElem? hc) y ((Ff r c u.number).subset hy)
  have hp:∀(T ms:List aM),(∀y∈T,qA r ak y=0)→(∀y∈ms,qA r ak y=0)→∀y∈mo ms T,qA r ak y=0:=by
   intro T
   induction T with
   |nil=>intro ms _ h;exact h
   |cons t T ih=>
    intro ms h1 h2
    refine ih (je ms (strip t)) (fun y hy=>h1 y (by simp [hy])) fun y hy=>?_
    rcases QJ hy with hy|rfl
    ·exact h2 y hy
    ·exact h1 t (by simp)
  rw[mH,mH]at hj
  by_cases h1:f=j
  ·subst h1
   rw[if_pos rfl,if_neg hne,hd']at hj
   simp only[Option.map_some,Option.some.injEq]at hj
   subst hj
   exact hp _ _ hT (hD.u d (List.mem_of_getElem? hd')) mv i6
  ·rw[if_neg h1]at hj
   by_cases h2:i+1=j
   ·subst h2
    rw[if_pos rfl,hc]at hj
    simp only[Option.map_some,Option.some.injEq]at hj
    subst hj
    exact hD.u c (List.mem_of_getElem? hc) mv (List.mem_filter.1 i6).1
   ·rw[if_neg h2]at hj
    exact hD.u x (List.mem_of_getElem? hj) mv i6
 ·intro k j hk
  by_cases Dl:k.unit=u.number
  ·have hj:i+1<j:=by
    refine Nat.lt_of_not_le fun hle=>?_
    have:=hk (i+1) hle (by rw[if_pos Dl];omega)
    rw[Dl,hd2]at this;cases this
   rw[get,if_neg (by omega),if_neg (by omega)]
   exact hD.b k j fun j' h1 h2=>by rw[Dl]at h2;omega
  ·rw[same k (by rw[E6,if_neg (fun q=>Dl q.1)])]
   refine hD.b k j fun j' h1 h2=>hk j' h1 ?_
   rw[if_neg Dl];exact h2
 ·intro n k hn
  cases i6:dP (ij r c u.number) k with
  |none=>rw[SD oS Bg (same k i6),hD.c n k hn]
  |some mv=>
   rw[E6]at i6
   split at i6
   case isFalse=>cases i6
   rename_i hk
   have hT:dP (ij r c u.number) k=some mv:=by rw[E6,if_pos hk];exact i6
   have hh:gq (ij r c u.number) k=true:=by
    cases h:gq (ij r c u.number) k
    ·rw[PT.2 h]at hT;cases hT
    ·rfl
   -- up to where it is made
   have lo:∀j,j≤f→sv (jr r o ⟨u.number,(l[f]?.map (·.number)).getD 0,(l[i+1]?.map (·.number)).getD 0⟩) j k=sv o j k:=by
    intro j
    induction j with
    |zero=>intro _;rfl
    |succ j ih=>
     intro hj
     rw[th Bg,th oS,get,if_neg (by omega),if_neg (by omega),ih (by omega)]
   have gF:kQ (jr r o ⟨u.number,(l[f]?.map (·.number)).getD 0,(l[i+1]?.map (·.number)).getD 0⟩) f k=some (strip mv):=by rw[get,if_pos rfl,PU tL hds,hT]
   have gT:kQ (jr r o ⟨u.number,(l[f]?.map (·.number)).getD 0,(l[i+1]?.map (·.number)).getD 0⟩) (i+1) k=none:=by rw[get,if_neg (by omega),if_pos rfl,OJ,if_pos hh]
   have mid:∀d,f+1+d≤i+1→sv (jr r o ⟨u.number,(l[f]?.map (·.number)).getD 0,(l[i+1]?.map (·.number)).getD 0⟩) (f+1+d) k=G1 (some mv) none:=by
    intro d
    induction d with
    |zero=>intro _;rw[Nat.add_zero,th Bg,gF];rfl
    |succ d ih=>
     intro hj
     rw[←Nat.add_assoc,th Bg,ih (by omega),get,if_neg (by omega),if_neg (by omega)]
     have:kQ o (f+1+d) k=none:=by
      rw[hD.b k (f+1+d) fun j' h1 h2=>by rw[hk.1]at h2 ⊢;exact q1 j' (by omega) (by omega)]
      have h1:=q2 (f+1+d) (by omega) (by omega)
      unfold kQ
      cases hy:l[f+1+d]? with
      |none=>rfl
      |some y=>
       show dP y.aL k=none
       have h2:dQ r l (f+1+d) u.number=ij r y u.number:=FC hy u.number
       have h3:ij r y u.number=[]:=by rw[←h2];exact h1
       have h4:=E6 r y u.number k
       rw[h3,if_pos hk]at h4
       exact h4.symm
     rw[this];rfl
   have hi2:sv (jr r o ⟨u.number,(l[f]?.map (·.number)).getD 0,(l[i+1]?.map (·.number)).getD 0⟩) (i+2) k=sv o (i+2) k:=by
    rw[th Bg,gT,th oS,aT,i6]
    have:=mid (i-f) (by omega)
    rw[show f+1+(i-f)=i+1 by omega]at this
    rw[this];rfl
   have hi3:∀d,sv (jr r o ⟨u.number,(l[f]?.map (·.number)).getD 0,(l[i+1]?.map (·.number)).getD 0⟩) (i+2+d) k=sv o (i+2+d) k:=by
    intro d
    induction d with
    |zero=>exact hi2
    |succ d ih=>rw[←Nat.add_assoc,th Bg,th oS,ih,get,if_neg (by omega),if_neg (by omega)]
   rw[←hD.c n k hn]
   by_cases h1:n<f
   ·exact lo (n+1) (by omega)
   ·by_cases h2:n≤i
    ·exfalso
     rcases hn with hn|hn
     ·exact hk.2 hn
     ·have:=q1 n (by omega) h2
      rw[hk.1,this]at hn;cases hn
    ·have:=hi3 (n-(i+1))
     rwa[show i+2+(n-(i+1))=n+1 by omega]at this
theorem Po (hg:Good l) {i:Nat} (hi:i+1<l.length):∀(us:List bE),(us.map (·.number)).Nodup→(∀u∈us,u∈r.units)→∀{o:List aG} {bd:Int→Nat},uF r ak l o bd→(∀u∈us,bd u.number≤i+1)→(∀v,bd v≤i+2)→uF r ak l ((us.flatMap (jv (cM r ak l) (dQ r l) (iA r ak l) l (i+1))).foldl (jr r) o) (fun _=>i+2)
 |[],_,_,o,bd,hD,_,hb=>hD.weak hb
 |u::us,hn,hu,o,bd,hD,h1,hb=>by
  rw[List.map_cons,List.nodup_cons]at hn
  rw[List.flatMap_cons,List.foldl_append]
  refine Po hg hi us hn.2 (fun x hx=>hu x (by simp [hx])) (XY hg (hu u (by simp)) hi hD (h1 u (by simp))) (fun x hx=>?_) fun v=>?_
  ·rw[if_neg (fun e:x.number=u.number=>hn.1 (e▸List.mem_map.2 ⟨x,hx,rfl⟩))]
   exact h1 x (by simp [hx])
  ·split
   ·omega
   ·exact hb v
theorem Pn (hg:Good l) (hn:(r.units.map (·.number)).Nodup) (hl:GI l) (hu:∀c∈l,∀x∈c.aL,qA r ak x=0):∀n,n≤l.length-1→uF r ak l ((qj (cM r ak l) (dQ r l) (iA r ak l) r.units l n).foldl (jr r) l) (fun _=>n+1)
 |0,_=>⟨jt.refl hg hl,hu,fun _ _ _=>rfl,fun _ _ _=>rfl⟩
 |n+1,h=>by
  rw[MX,List.foldl_append]
  exact Po hg (by omega) r.units hn (fun _ h=>h) (Pn hg hn hl hu n (by omega)) (fun _ _=>by omega) fun _=>by omega
theorem Zh {a b:List bB} {k:az} (h:uR a k=uR b k):pL r ak (gm a) k=pL r ak (gm b) k:=by
 unfold pL vT
 unfold uR at h
 cases h1:gm a k with
 |none=>
  rw[h1]at h
  cases h2:gm b k with
  |none=>rfl
  |some y=>rw[h2]at h;cases h
 |some x=>
  rw[h1]at h
  cases h2:gm b k with
  |none=>rw[h2]at h;cases h
  |some y=>
   rw[h2]at h
   simp only[Option.map_some,Option.some.injEq]at h
   simp only[h]
theorem abg (h:AI r ak l=0):∀c∈l,∀x∈c.aL,qA r ak x=0:=by
 intro c hc x hx
 obtain⟨i,_,h1⟩:=FH h hc
 obtain⟨j,_,h2⟩:=FH h1 hx
 exact h2
theorem abh {o:List aG} (h:∀c∈o,∀x∈c.aL,qA r ak x=0):AI r ak o=0:=
 (zV o 0).2 fun i c hc=>(zV c.aL 0).2 fun j x hx=>h c (List.mem_of_getElem? hc) x (List.mem_of_getElem? hx)
theorem Xf (h:gJ r ak l=0):AI r ak l=0:=by
 unfold gJ at h
 split at h
 ·rename_i h0;exact absurd h h0
 split at h
 ·rename_i h0;exact absurd h h0
 exact h
theorem YJ (h:cN r=0):(r.units.map (·.number)).Nodup:=by
 exact(xL h).imp fun{a b} q e=>by rw[e]at q;exact absurd q (by omega)
theorem acv (hr:gK r) {L:List bW} (hL:L.length≤br) (u:Int):Ai r L u=some (L.any fun s=>((decide (s.key.unit=u))&&(decide (fP r s.key=1)))&&(decide (¬(s.level=0)))):=by
 unfold Ai
 rw[E1 (p:=fun s=>((decide (s.key.unit=u))&&(decide (fP r s.key=1)))&&(decide (¬(s.level=0)))) (r:=fun _=>true) hL (by
  intro i x _
  rw[oa hr,Option.bind_some]
  show(if _ then _ else _)=_
  unfold fP
  split<;>rfl)]
 cases h:L.find? fun s=>((decide (s.key.unit=u))&&(decide (fP r s.key=1)))&&(decide (¬(s.level=0)))with
 |none=>
  have:=List.find?_eq_none.1 h
  show some false=some _
  congr 1
  symm
  rw[List.any_eq_false]
  exact fun x hx=>this x hx
 |some x=>
  show some true=some _
  congr 1
  symm
  exact List.any_eq_true.2 ⟨x,List.mem_of_find?_eq_some h,List.find?_some (p:=fun s:bW=>((decide (s.key.unit=u))&&(decide (fP r s.key=1)))&&(decide (¬(s.level=0)))) h⟩
theorem W5 (hz:gJ r ak l=0) {i:Nat} {u:Int} (h:cM r ak l i u=true):((ef r ak l i).any fun s=>((decide (s.key.unit=u))&&(decide (fP r s.key=1)))&&(decide (¬(s.level=0))))=false:=by
 have cR:=(kJ hz).1
 rw[List.any_eq_false]
 intro s hs q
 simp only[Bool.and_eq_true,decide_eq_true_eq]at q
 unfold cM Kk at h
 rw[Bool.and_eq_true]at h
 have h2:=h.2
 rw[Bool.not_eq_true',List.any_eq_false]at h2
 unfold ef at hs h2
 rw[Gd cR]at hs h2
 obtain⟨k,hk,rfl⟩:=List.mem_map.1 hs
 have hkm:k∈kL r u:=List.mem_filter.2 ⟨hk,by have a:=q.1.1;have b:=q.1.2;simp only at a b;simp [a,b]⟩
 have h3:=h2 k hkm
 rw[IY hk]at h3
 have h4:=aau cR (M6 hz) (gm (lW (l.take (i+1)))) k
 have h5:=q.2
 simp only[decide_eq_true_eq]at h3 h5
 exact h5 (by omega)
theorem UX (r:aV) (ak:List bJ) (l:List aG) (hr:gK r) (hp:cB nX ak) (hl:cB mP l):Bq r ak l=some true:=by
 unfold Bq
 rw[oa ⟨hr,hp,hl⟩,Option.bind_some]
 by_cases hz:gJ r ak l=0
 case neg=>
  have e:sL r ak l=([],gJ r ak l):=by unfold sL;rw[if_pos hz]
  rw[e,if_pos hz];rfl
 have e:sL r ak l=Gi (sR r ak l):=by unfold sL;rw[if_neg (by simp [hz])]
 rw[e]
 unfold Gi
 by_cases hq:l7 (sR r ak l)=0
 case neg=>rw[if_neg hq,if_pos hq];rfl
 rw[if_pos hq,if_neg (by simp)]
 obtain⟨cR,hform⟩:=kJ hz
 have hg:=rq hform
 have hD:uF r ak l (sR r ak l) (fun _=>l.length-1+1):=Pn hg (YJ cR) hl.2 (abg (Xf hz)) (l.length-1) (Nat.le_refl _)
 have hok:cB mP (sR r ak l):=⟨by have:=hD.m.len;have:=hg.len;unfold br;omega,hD.m.ok⟩
 have TZ:gJ r ak (sR r ak l)=0:=by
  unfold gJ
  rw[if_neg (by rw[M6 hz];simp),if_neg (by simp [hq])]
  exact abh hD.u
 generalize sR r ak l=a at hD hok TZ hq
 have hlen:=hD.m.len
 rw[if_neg (by simp [hlen])]
 have hga:=rq hq
 rw[E1 (p:=fun _=>false) (r:=fun _=>true) hl.1 fun i c hc=>?_]
 ·have:l.find? (fun _=>false)=none:=by simp
  rw[this]
 have hn:=aaK hl (List.mem_of_getElem? hc)
 rw[oa ⟨hr,hp,hl,hn⟩,Option.bind_some,oa ⟨hr,hp,hok,hn⟩,Option.bind_some]
 have p1:=Aq hg.ji hc rfl
 have h1:lM l c.number=true:=List.any_eq_true.2 ⟨c,List.mem_of_getElem? hc,by simp⟩
 have p2:dN a c.number=i:=by rw[sO,hD.m.num,←sO,p1]
 have h2:lM a c.number=true:=by rw[Ad,hD.m.num,←Ad,h1]
 have e1:rA r ak l c.number=(ef r ak l i,0):=by
  unfold rA;rw[if_neg (by simp [hz]),h1,if_neg (by decide),p1];rfl
 have e2:rA r ak a c.number=(ef r ak a i,0):=by
  unfold rA;rw[if_neg (by simp [TZ]),h2,if_neg (by decide),p2];rfl
 rw[e1,e2]
 have k1:ef r ak l i=(ig r).map fun k=>⟨k,pL r ak (gm (lW (l.take (i+1)))) k⟩:=Gd cR _ _
 have k2:ef r ak a i=(ig r).map fun k=>⟨k,pL r ak (gm (lW (a.take (i+1)))) k⟩:=Gd cR _ _
 have hll:(ef r ak l i).length=(ef r ak a i).length:=by rw[k1,k2];simp
 have TD:(ef r ak l i).length≤br:=by have:=PO (l:=l) (ak:=ak) cR i;unfold br;omega
 rw[if_neg (by simp [hll])]
 rw[E1 (p:=fun _=>false) (r:=fun _=>true) TD fun j s hs=>?_]
 ·have:(ef r ak l i).find? (fun _=>false)=none:=by simp
  rw[this];rfl
 have hkj:∃k,(ig r)[j]? =some k∧s=⟨k,pL r ak (gm (lW (l.take (i+1)))) k⟩:=by
  have hs':=hs
  rw[k1,List.getElem?_map]at hs'
  obtain⟨k,h3,h4⟩:=Option.map_eq_some_iff.1 hs'
  exact⟨k,h3,h4.symm⟩
 obtain⟨k,hk,rfl⟩:=hkj
 have hs2:(ef r ak a i)[j]? =some ⟨k,pL r ak (gm (lW (a.take (i+1)))) k⟩:=by rw[k2,List.getElem?_map,hk];rfl
 rw[oa hr,Option.bind_some,F3 (x:=⟨k,pL r ak (gm (lW (a.take (i+1)))) k⟩) (by have:=(List.getElem?_eq_some_iff.1 hs2).1;omega) (by simpa using hs2),Option.bind_some]
 by_cases hne:pL r ak (gm (lW (l.take (i+1)))) k=pL r ak (gm (lW (a.take (i+1)))) k
 ·rw[hne]
  simp
 have hdk:¬(fP r k=1∨cM r ak l i k.unit=false):=fun q=>hne (Zh (hD.c i k q)).symm
 have yZ:¬(ko r k).1.group=1:=fun q=>hdk (.inl q)
 have hd2:cM r ak l i k.unit=true:=by
  cases hx:cM r ak l i k.unit
  ·exact absurd (.inr hx) hdk
  ·rfl
 rw[acv hr TD,W5 hz hd2]
 simp [hne,yZ]
end
end
section
open Go.ChangeShapes Go.WideShapes Go.ChangeAt Go.RowKit
theorem own:ownKnob Try.prog.godebug=none:=by kernel_rfl
theorem laidOut:laidOutB Try.prog=true:=by kernel_rfl
theorem M8 {H:Type} {enc:TypeId×Value→H} {P:Program} (hl:laidOutB P=true) {W W':World} (hb:Below W.heap.size W W'):
  ∀{ts:List TypeId} {vs:List Value} {ds:List (DataW H)} {ps:List MemPlace},(ts.all fun t=>P.readableRec t&&decide (t<P.types.size))=true→
   DataW.TrodAll enc P W 0 (fun _=>true) true ts vs ds ps→(∀x∈ps,x.block<W.heap.size)→DataW.TrodAll enc P W' 0 (fun b=>decide (b<W.heap.size)) true ts vs ds ps
 |[],[],[],_,_,h,_=>h
 |t::ts,v::vs,d::ds,ps,hts,h,hlt=>by
  obtain⟨p,q,h1,h2,rfl⟩:=h
  simp only[List.all_cons,Bool.and_eq_true,decide_eq_true_eq]at hts
  exact⟨p,q,Below.trod hl hts.1.1 hts.1.2 h1 hb (fun x hx=>hlt x (List.mem_append_left _ hx)),
   M8 hl hb (by simpa using hts.2) h2 (fun x hx=>hlt x (List.mem_append_right _ hx)),rfl⟩
 |[],_::_,_,_,_,h,_=>h.elim
 |[],[],_::_,_,_,h,_=>h.elim
 |_::_,[],_,_,_,h,_=>h.elim
 |_::_,_::_,[],_,_,h,_=>h.elim
theorem Zg {H:Type} {enc:TypeId×Value→H} {f:Func} {s:ChangeSpec} {W W':World} {args:Array Value} {ds gs:List (DataW H)} {before:List MemPlace} {t:TypeId}
  (hts:(f.params.toList.all fun t=>Try.prog.readableRec t&&decide (t<Try.prog.types.size))=true) (vi:f.resultTypes=#[t]) (ht:Try.prog.underlying t=some .bool) (hvs:s.vars=[])
  (hW:DataW.Whole enc Try.prog f.params.toList s.vars false W args.toList ds gs before) (hb:Below W.heap.size W W')
  (Ku:s.fn H (ds++gs)={results:=[.lit (.bool true)],args:=ds}):
  s.post enc Try.prog f false true false false W args (.bool true) W':=by
 have GS:=hW
 obtain⟨p,q,hA,hV,rfl,hfz,hnd⟩:=hW
 have hlt:∀x∈p++q,x.block<W.heap.size:=fun x hx=>GS.lt x hx
 refine⟨ds,gs,p++q,[],p,[],GS,?_,?_,?_,hb.frame _,fun h=>by cases h⟩
 ·rw[Ku,vi]
  exact trodAll_cons_mk (shut_bool ht _) trodAll_mk0
 ·rw[Ku]
  exact M8 laidOut hb hts hA (fun x hx=>hlt x (List.mem_append_left _ hx))
 ·rw[Ku,hvs]
  exact rfl
end
section
open Go.RowKit
def Gr (w w':World):Prop:=Below w.heap.size w w'
theorem Gr.refl (w:World):Gr w w:=Below.refl _ _
theorem Gr.below {w w':World} (h:Gr w w'):Below w.heap.size w w':=h
theorem Gr.of {w w':World} (h:Below w.heap.size w w'):Gr w w':=h
theorem Gr.trans {a b c:World} (h:Gr a b) (k:Gr b c):Gr a c:=Below.trans h (Below.mono k (Below.size h))
theorem Gr.alloc {a b:World} (h:Gr a b) (o:Obj):Gr a (b.alloc o):=Below.alloc h (Below.size h) o
theorem Gr.drew {a b:World} (h:Gr a b):Gr a b.drew:=Below.drew h
theorem Gr.set {a b:World} (h:Gr a b) {k o:Nat} (hp:a.heap.size≤k) (u:Value):Gr a (b.setCell ⟨k,o,none⟩ u):=Below.setCell h hp u
theorem Gr.put {a b:World} {k o:Nat} (hp:a.heap.size≤k) (h:Gr a b) (u:Value):Gr a (b.setCell ⟨k,o,none⟩ u):=Below.setCell h hp u
theorem Gr.after {a b c:World} (k:Gr b c) (h:Gr a b):Gr a c:=h.trans k
theorem Gr.size {a b:World} (h:Gr a b):a.heap.size≤b.heap.size:=Below.size h
theorem Gr.cell {a b:World} (h:Gr a b) {p:Addr} {v:Value} (hc:a.cell? p=some v):b.cell? p=some v:=by
 by_cases hp:p.block<a.heap.size
 ·rw[Below.cell h hp];exact hc
 ·have:a.heap[p.block]? =none:=Array.getElem?_eq_none (by omega)
  simp [World.cell?,this]at hc
theorem Gr.free {a b:World} (h:Gr a b) {p:Addr} (hp:p.block<a.heap.size) {x:Bool} (hc:a.frozen? p=x):b.frozen? p=x:=by
 rw[Below.frozen h hp];exact hc
theorem Gr.lt {w w1:World} {o:Obj} (h:Gr (w.alloc o) w1):w.heap.size<w1.heap.size:=by have:=h.size;simp at this;omega
abbrev wu (w:World) (b:Nat) (v0:Value):Prop:=(w.cell? ⟨b,0,none⟩=some v0)∧(w.frozen? ⟨b,0,none⟩=false)∧b<w.heap.size
theorem wu.mono {w w1:World} {b:Nat} {v0:Value} (k:wu w b v0) (h:Gr w w1):wu w1 b v0:=by
 obtain⟨k0,f0,hlt⟩:=k
 exact⟨h.cell k0,h.free (by exact hlt) f0,Nat.lt_of_lt_of_le hlt h.size⟩
theorem wu.of {w:World} {b:Nat} {v0:Value} {t:TypeId} (h:w.heap[b]? =some (.cells #[v0] t (0,0))):wu w b v0:=by
 have hlt:b<w.heap.size:=(Array.getElem?_eq_some_iff.1 h).1
 refine⟨?_,?_,hlt⟩<;>simp [World.cell?,World.frozen?,h]
theorem wu.at {w w1:World} {b:Nat} {v0:Value} {t:TypeId} (g:Gr w w1) (h:w.heap[b]? =some (.cells #[v0] t (0,0))):wu w1 b v0:=(wu.of h).mono g
abbrev wv (w:World) (b:Nat) (v0 v1:Value):Prop:=(w.cell? ⟨b,0,none⟩=some v0∧w.cell? ⟨b,1,none⟩=some v1)∧(w.frozen? ⟨b,0,none⟩=false∧w.frozen? ⟨b,1,none⟩=false)∧b<w.heap.size
theorem wv.mono {w w1:World} {b:Nat} {v0 v1:Value} (k:wv w b v0 v1) (h:Gr w w1):wv w1 b v0 v1:=by
 obtain⟨⟨k0,k1⟩,⟨f0,f1⟩,hlt⟩:=k
 exact⟨⟨h.cell k0,h.cell k1⟩,⟨h.free (by exact hlt) f0,h.free (by exact hlt) f1⟩,Nat.lt_of_lt_of_le hlt h.size⟩
theorem wv.of {w:World} {b:Nat} {v0 v1:Value} {t:TypeId} (h:w.heap[b]? =some (.cells #[v0,v1] t (0,0))):wv w b v0 v1:=by
 have hlt:b<w.heap.size:=(Array.getElem?_eq_some_iff.1 h).1
 refine⟨⟨?_,?_⟩,⟨?_,?_⟩,hlt⟩<;>simp [World.cell?,World.frozen?,h]
theorem wv.at {w w1:World} {b:Nat} {v0 v1:Value} {t:TypeId} (g:Gr w w1) (h:w.heap[b]? =some (.cells #[v0,v1] t (0,0))):wv w1 b v0 v1:=(wv.of h).mono g
abbrev wz (w:World) (b:Nat) (v0 v1 v2:Value):Prop:=(w.cell? ⟨b,0,none⟩=some v0∧w.cell? ⟨b,1,none⟩=some v1∧w.cell? ⟨b,2,none⟩=some v2)∧(w.frozen? ⟨b,0,none⟩=false∧w.frozen? ⟨b,1,none⟩=false∧w.frozen? ⟨b,2,none⟩=false)∧b<w.heap.size
theorem wz.mono {w w1:World} {b:Nat} {v0 v1 v2:Value} (k:wz w b v0 v1 v2) (h:Gr w w1):wz w1 b v0 v1 v2:=by
 obtain⟨⟨k0,k1,k2⟩,⟨f0,f1,f2⟩,hlt⟩:=k
 exact⟨⟨h.cell k0,h.cell k1,h.cell k2⟩,⟨h.free (by exact hlt) f0,h.free (by exact hlt) f1,h.free (by exact hlt) f2⟩,Nat.lt_of_lt_of_le hlt h.size⟩
theorem wz.of {w:World} {b:Nat} {v0 v1 v2:Value} {t:TypeId} (h:w.heap[b]? =some (.cells #[v0,v1,v2] t (0,0))):wz w b v0 v1 v2:=by
 have hlt:b<w.heap.size:=(Array.getElem?_eq_some_iff.1 h).1
 refine⟨⟨?_,?_,?_⟩,⟨?_,?_,?_⟩,hlt⟩<;>simp [World.cell?,World.frozen?,h]
theorem wz.at {w w1:World} {b:Nat} {v0 v1 v2:Value} {t:TypeId} (g:Gr w w1) (h:w.heap[b]? =some (.cells #[v0,v1,v2] t (0,0))):wz w1 b v0 v1 v2:=(wz.of h).mono g
abbrev wA (w:World) (b:Nat) (v0 v1 v2 v3:Value):Prop:=(w.cell? ⟨b,0,none⟩=some v0∧w.cell? ⟨b,1,none⟩=some v1∧w.cell? ⟨b,2,none⟩=some v2∧w.cell? ⟨b,3,none⟩=some v3)∧(w.frozen? ⟨b,0,none⟩=false∧w.frozen? ⟨b,1,none⟩=false∧w.frozen? ⟨b,2,none⟩=false∧w.frozen? ⟨b,3,none⟩=false)∧b<w.heap.size
theorem wA.mono {w w1:World} {b:Nat} {v0 v1 v2 v3:Value} (k:wA w b v0 v1 v2 v3) (h:Gr w w1):wA w1 b v0 v1 v2 v3:=by
 obtain⟨⟨k0,k1,k2,k3⟩,⟨f0,f1,f2,f3⟩,hlt⟩:=k
 exact⟨⟨h.cell k0,h.cell k1,h.cell k2,h.cell k3⟩,⟨h.free (by exact hlt) f0,h.free (by exact hlt) f1,h.free (by exact hlt) f2,h.free (by exact hlt) f3⟩,Nat.lt_of_lt_of_le hlt h.size⟩
theorem wA.of {w:World} {b:Nat} {v0 v1 v2 v3:Value} {t:TypeId} (h:w.heap[b]? =some (.cells #[v0,v1,v2,v3] t (0,0))):wA w b v0 v1 v2 v3:=by
 have hlt:b<w.heap.size:=(Array.getElem?_eq_some_iff.1 h).1
 refine⟨⟨?_,?_,?_,?_⟩,⟨?_,?_,?_,?_⟩,hlt⟩<;>simp [World.cell?,World.frozen?,h]
theorem wA.at {w w1:World} {b:Nat} {v0 v1 v2 v3:Value} {t:TypeId} (g:Gr w w1) (h:w.heap[b]? =some (.cells #[v0,v1,v2,v3] t (0,0))):wA w1 b v0 v1 v2 v3:=(wA.of h).mono g
abbrev wB (w:World) (b:Nat) (v0 v1 v2 v3 v4:Value):Prop:=(w.cell? ⟨b,0,none⟩=some v0∧w.cell? ⟨b,1,none⟩=some v1∧w.cell? ⟨b,2,none⟩=some v2∧w.cell? ⟨b,3,none⟩=some v3∧w.cell? ⟨b,4,none⟩=some v4)∧(w.frozen? ⟨b,0,none⟩=false∧w.frozen? ⟨b,1,none⟩=false∧w.frozen? ⟨b,2,none⟩=false∧w.frozen? ⟨b,3,none⟩=false∧w.frozen? ⟨b,4,none⟩=false)∧b<w.heap.size
theorem wB.mono {w w1:World} {b:Nat} {v0 v1 v2 v3 v4:Value} (k:wB w b v0 v1 v2 v3 v4) (h:Gr w w1):wB w1 b v0 v1 v2 v3 v4:=by
 obtain⟨⟨k0,k1,k2,k3,k4⟩,⟨f0,f1,f2,f3,f4⟩,hlt⟩:=k
 exact⟨⟨h.cell k0,h.cell k1,h.cell k2,h.cell k3,h.cell k4⟩,⟨h.free (by exact hlt) f0,h.free (by exact hlt) f1,h.free (by exact hlt) f2,h.free (by exact hlt) f3,h.free (by exact hlt) f4⟩,Nat.lt_of_lt_of_le hlt h.size⟩
theorem wB.of {w:World} {b:Nat} {v0 v1 v2 v3 v4:Value} {t:TypeId} (h:w.heap[b]? =some (.cells #[v0,v1,v2,v3,v4] t (0,0))):wB w b v0 v1 v2 v3 v4:=by
 have hlt:b<w.heap.size:=(Array.getElem?_eq_some_iff.1 h).1
 refine⟨⟨?_,?_,?_,?_,?_⟩,⟨?_,?_,?_,?_,?_⟩,hlt⟩<;>simp [World.cell?,World.frozen?,h]
theorem wB.at {w w1:World} {b:Nat} {v0 v1 v2 v3 v4:Value} {t:TypeId} (g:Gr w w1) (h:w.heap[b]? =some (.cells #[v0,v1,v2,v3,v4] t (0,0))):wB w1 b v0 v1 v2 v3 v4:=(wB.of h).mono g
abbrev wC (w:World) (b:Nat) (v0 v1 v2 v3 v4 v5:Value):Prop:=(w.cell? ⟨b,0,none⟩=some v0∧w.cell? ⟨b,1,none⟩=some v1∧w.cell? ⟨b,2,none⟩=some v2∧w.cell? ⟨b,3,none⟩=some v3∧w.cell? ⟨b,4,none⟩=some v4∧w.cell? ⟨b,5,none⟩=some v5)∧(w.frozen? ⟨b,0,none⟩=false∧w.frozen? ⟨b,1,none⟩=false∧w.frozen? ⟨b,2,none⟩=false∧w.frozen? ⟨b,3,none⟩=false∧w.frozen? ⟨b,4,none⟩=false∧w.frozen? ⟨b,5,none⟩=false)∧b<w.heap.size
theorem wC.mono {w w1:World} {b:Nat} {v0 v1 v2 v3 v4 v5:Value} (k:wC w b v0 v1 v2 v3 v4 v5) (h:Gr w w1):wC w1 b v0 v1 v2 v3 v4 v5:=by
 obtain⟨⟨k0,k1,k2,k3,k4,k5⟩,⟨f0,f1,f2,f3,f4,f5⟩,hlt⟩:=k
 exact⟨⟨h.cell k0,h.cell k1,h.cell k2,h.cell k3,h.cell k4,h.cell k5⟩,⟨h.free (by exact hlt) f0,h.free (by exact hlt) f1,h.free (by exact hlt) f2,h.free (by exact hlt) f3,h.free (by exact hlt) f4,h.free (by exact hlt) f5⟩,Nat.lt_of_lt_of_le hlt h.size⟩
theorem wC.of {w:World} {b:Nat} {v0 v1 v2 v3 v4 v5:Value} {t:TypeId} (h:w.heap[b]? =some (.cells #[v0,v1,v2,v3,v4,v5] t (0,0))):wC w b v0 v1 v2 v3 v4 v5:=by
 have hlt:b<w.heap.size:=(Array.getElem?_eq_some_iff.1 h).1
 refine⟨⟨?_,?_,?_,?_,?_,?_⟩,⟨?_,?_,?_,?_,?_,?_⟩,hlt⟩<;>simp [World.cell?,World.frozen?,h]
theorem wC.at {w w1:World} {b:Nat} {v0 v1 v2 v3 v4 v5:Value} {t:TypeId} (g:Gr w w1) (h:w.heap[b]? =some (.cells #[v0,v1,v2,v3,v4,v5] t (0,0))):wC w1 b v0 v1 v2 v3 v4 v5:=(wC.of h).mono g
abbrev wD (w:World) (b:Nat) (v0 v1 v2 v3 v4 v5 v6:Value):Prop:=(w.cell? ⟨b,0,none⟩=some v0∧w.cell? ⟨b,1,none⟩=some v1∧w.cell? ⟨b,2,none⟩=some v2∧w.cell? ⟨b,3,none⟩=some v3∧w.cell? ⟨b,4,none⟩=some v4∧w.cell? ⟨b,5,none⟩=some v5∧w.cell? ⟨b,6,none⟩=some v6)∧(w.frozen? ⟨b,0,none⟩=false∧w.frozen? ⟨b,1,none⟩=false∧w.frozen? ⟨b,2,none⟩=false∧w.frozen? ⟨b,3,none⟩=false∧w.frozen? ⟨b,4,none⟩=false∧w.frozen? ⟨b,5,none⟩=false∧w.frozen? ⟨b,6,none⟩=false)∧b<w.heap.size
theorem wD.mono {w w1:World} {b:Nat} {v0 v1 v2 v3 v4 v5 v6:Value} (k:wD w b v0 v1 v2 v3 v4 v5 v6) (h:Gr w w1):wD w1 b v0 v1 v2 v3 v4 v5 v6:=by
 obtain⟨⟨k0,k1,k2,k3,k4,k5,k6⟩,⟨f0,f1,f2,f3,f4,f5,f6⟩,hlt⟩:=k
 exact⟨⟨h.cell k0,h.cell k1,h.cell k2,h.cell k3,h.cell k4,h.cell k5,h.cell k6⟩,⟨h.free (by exact hlt) f0,h.free (by exact hlt) f1,h.free (by exact hlt) f2,h.free (by exact hlt) f3,h.free (by exact hlt) f4,h.free (by exact hlt) f5,h.free (by exact hlt) f6⟩,Nat.lt_of_lt_of_le hlt h.size⟩
theorem wD.of {w:World} {b:Nat} {v0 v1 v2 v3 v4 v5 v6:Value} {t:TypeId} (h:w.heap[b]? =some (.cells #[v0,v1,v2,v3,v4,v5,v6] t (0,0))):wD w b v0 v1 v2 v3 v4 v5 v6:=by
 have hlt:b<w.heap.size:=(Array.getElem?_eq_some_iff.1 h).1
 refine⟨⟨?_,?_,?_,?_,?_,?_,?_⟩,⟨?_,?_,?_,?_,?_,?_,?_⟩,hlt⟩<;>simp [World.cell?,World.frozen?,h]
theorem wD.at {w w1:World} {b:Nat} {v0 v1 v2 v3 v4 v5 v6:Value} {t:TypeId} (g:Gr w w1) (h:w.heap[b]? =some (.cells #[v0,v1,v2,v3,v4,v5,v6] t (0,0))):wD w1 b v0 v1 v2 v3 v4 v5 v6:=(wD.of h).mono g
abbrev wE (w:World) (b:Nat) (v0 v1 v2 v3 v4 v5 v6 v7:Value):Prop:=(w.cell? ⟨b,0,none⟩=some v0∧w.cell? ⟨b,1,none⟩=some v1∧w.cell? ⟨b,2,none⟩=some v2∧w.cell? ⟨b,3,none⟩=some v3∧w.cell? ⟨b,4,none⟩=some v4∧w.cell? ⟨b,5,none⟩=some v5∧w.cell? ⟨b,6,none⟩=some v6∧w.cell? ⟨b,7,none⟩=some v7)∧(w.frozen? ⟨b,0,none⟩=false∧w.frozen? ⟨b,1,none⟩=false∧w.frozen? ⟨b,2,none⟩=false∧w.frozen? ⟨b,3,none⟩=false∧w.frozen? ⟨b,4,none⟩=false∧w.frozen? ⟨b,5,none⟩=false∧w.frozen? ⟨b,6,none⟩=false∧w.frozen? ⟨b,7,none⟩=false)∧b<w.heap.size
theorem wE.mono {w w1:World} {b:Nat} {v0 v1 v2 v3 v4 v5 v6 v7:Value} (k:wE w b v0 v1 v2 v3 v4 v5 v6 v7) (h:Gr w w1):wE w1 b v0 v1 v2 v3 v4 v5 v6 v7:=by
 obtain⟨⟨k0,k1,k2,k3,k4,k5,k6,k7⟩,⟨f0,f1,f2,f3,f4,f5,f6,f7⟩,hlt⟩:=k
 exact⟨⟨h.cell k0,h.cell k1,h.cell k2,h.cell k3,h.cell k4,h.cell k5,h.cell k6,h.cell k7⟩,⟨h.free (by exact hlt) f0,h.free (by exact hlt) f1,h.free (by exact hlt) f2,h.free (by exact hlt) f3,h.free (by exact hlt) f4,h.free (by exact hlt) f5,h.free (by exact hlt) f6,h.free (by exact hlt) f7⟩,Nat.lt_of_lt_of_le hlt h.size⟩
theorem wE.of {w:World} {b:Nat} {v0 v1 v2 v3 v4 v5 v6 v7:Value} {t:TypeId} (h:w.heap[b]? =some (.cells #[v0,v1,v2,v3,v4,v5,v6,v7] t (0,0))):wE w b v0 v1 v2 v3 v4 v5 v6 v7:=by
 have hlt:b<w.heap.size:=(Array.getElem?_eq_some_iff.1 h).1
 refine⟨⟨?_,?_,?_,?_,?_,?_,?_,?_⟩,⟨?_,?_,?_,?_,?_,?_,?_,?_⟩,hlt⟩<;>simp [World.cell?,World.frozen?,h]
theorem wE.at {w w1:World} {b:Nat} {v0 v1 v2 v3 v4 v5 v6 v7:Value} {t:TypeId} (g:Gr w w1) (h:w.heap[b]? =some (.cells #[v0,v1,v2,v3,v4,v5,v6,v7] t (0,0))):wE w1 b v0 v1 v2 v3 v4 v5 v6 v7:=(wE.of h).mono g
abbrev wF (w:World) (b:Nat) (v0 v1 v2 v3 v4 v5 v6 v7 v8:Value):Prop:=(w.cell? ⟨b,0,none⟩=some v0∧w.cell? ⟨b,1,none⟩=some v1∧w.cell? ⟨b,2,none⟩=some v2∧w.cell? ⟨b,3,none⟩=some v3∧w.cell? ⟨b,4,none⟩=some v4∧w.cell? ⟨b,5,none⟩=some v5∧w.cell? ⟨b,6,none⟩=some v6∧w.cell? ⟨b,7,none⟩=some v7∧w.cell? ⟨b,8,none⟩=some v8)∧(w.frozen? ⟨b,0,none⟩=false∧w.frozen? ⟨b,1,none⟩=false∧w.frozen? ⟨b,2,none⟩=false∧w.frozen? ⟨b,3,none⟩=false∧w.frozen? ⟨b,4,none⟩=false∧w.frozen? ⟨b,5,none⟩=false∧w.frozen? ⟨b,6,none⟩=false∧w.frozen? ⟨b,7,none⟩=false∧w.frozen? ⟨b,8,none⟩=false)∧b<w.heap.size
theorem wF.mono {w w1:World} {b:Nat} {v0 v1 v2 v3 v4 v5 v6 v7 v8:Value} (k:wF w b v0 v1 v2 v3 v4 v5 v6 v7 v8) (h:Gr w w1):wF w1 b v0 v1 v2 v3 v4 v5 v6 v7 v8:=by
 obtain⟨⟨k0,k1,k2,k3,k4,k5,k6,k7,k8⟩,⟨f0,f1,f2,f3,f4,f5,f6,f7,f8⟩,hlt⟩:=k
 exact⟨⟨h.cell k0,h.cell k1,h.cell k2,h.cell k3,h.cell k4,h.cell k5,h.cell k6,h.cell k7,h.cell k8⟩,⟨h.free (by exact hlt) f0,h.free (by exact hlt) f1,h.free (by exact hlt) f2,h.free (by exact hlt) f3,h.free (by exact hlt) f4,h.free (by exact hlt) f5,h.free (by exact hlt) f6,h.free (by exact hlt) f7,h.free (by exact hlt) f8⟩,Nat.lt_of_lt_of_le hlt h.size⟩
theorem wF.of {w:World} {b:Nat} {v0 v1 v2 v3 v4 v5 v6 v7 v8:Value} {t:TypeId} (h:w.heap[b]? =some (.cells #[v0,v1,v2,v3,v4,v5,v6,v7,v8] t (0,0))):wF w b v0 v1 v2 v3 v4 v5 v6 v7 v8:=by
 have hlt:b<w.heap.size:=(Array.getElem?_eq_some_iff.1 h).1
 refine⟨⟨?_,?_,?_,?_,?_,?_,?_,?_,?_⟩,⟨?_,?_,?_,?_,?_,?_,?_,?_,?_⟩,hlt⟩<;>simp [World.cell?,World.frozen?,h]
theorem wF.at {w w1:World} {b:Nat} {v0 v1 v2 v3 v4 v5 v6 v7 v8:Value} {t:TypeId} (g:Gr w w1) (h:w.heap[b]? =some (.cells #[v0,v1,v2,v3,v4,v5,v6,v7,v8] t (0,0))):wF w1 b v0 v1 v2 v3 v4 v5 v6 v7 v8:=(wF.of h).mono g
abbrev vY (w:World) (b:Nat) (v0 v1 v2 v3 v4 v5 v6 v7 v8 v9:Value):Prop:=(w.cell? ⟨b,0,none⟩=some v0∧w.cell? ⟨b,1,none⟩=some v1∧w.cell? ⟨b,2,none⟩=some v2∧w.cell? ⟨b,3,none⟩=some v3∧w.cell? ⟨b,4,none⟩=some v4∧w.cell? ⟨b,5,none⟩=some v5∧w.cell? ⟨b,6,none⟩=some v6∧w.cell? ⟨b,7,none⟩=some v7∧w.cell? ⟨b,8,none⟩=some v8∧w.cell? ⟨b,9,none⟩=some v9)∧(w.frozen? ⟨b,0,none⟩=false∧w.frozen? ⟨b,1,none⟩=false∧w.frozen? ⟨b,2,none⟩=false∧w.frozen? ⟨b,3,none⟩=false∧w.frozen? ⟨b,4,none⟩=false∧w.frozen? ⟨b,5,none⟩=false∧w.frozen? ⟨b,6,none⟩=false∧w.frozen? ⟨b,7,none⟩=false∧w.frozen? ⟨b,8,none⟩=false∧w.frozen? ⟨b,9,none⟩=false)∧b<w.heap.size
theorem vY.mono {w w1:World} {b:Nat} {v0 v1 v2 v3 v4 v5 v6 v7 v8 v9:Value} (k:vY w b v0 v1 v2 v3 v4 v5 v6 v7 v8 v9) (h:Gr w w1):vY w1 b v0 v1 v2 v3 v4 v5 v6 v7 v8 v9:=by
 obtain⟨⟨k0,k1,k2,k3,k4,k5,k6,k7,k8,k9⟩,⟨f0,f1,f2,f3,f4,f5,f6,f7,f8,f9⟩,hlt⟩:=k
 exact⟨⟨h.cell k0,h.cell k1,h.cell k2,h.cell k3,h.cell k4,h.cell k5,h.cell k6,h.cell k7,h.cell k8,h.cell k9⟩,⟨h.free (by exact hlt) f0,h.free (by exact hlt) f1,h.free (by exact hlt) f2,h.free (by exact hlt) f3,h.free (by exact hlt) f4,h.free (by exact hlt) f5,h.free (by exact hlt) f6,h.free (by exact hlt) f7,h.free (by exact hlt) f8,h.free (by exact hlt) f9⟩,Nat.lt_of_lt_of_le hlt h.size⟩
theorem vY.of {w:World} {b:Nat} {v0 v1 v2 v3 v4 v5 v6 v7 v8 v9:Value} {t:TypeId} (h:w.heap[b]? =some (.cells #[v0,v1,v2,v3,v4,v5,v6,v7,v8,v9] t (0,0))):vY w b v0 v1 v2 v3 v4 v5 v6 v7 v8 v9:=by
 have hlt:b<w.heap.size:=(Array.getElem?_eq_some_iff.1 h).1
 refine⟨⟨?_,?_,?_,?_,?_,?_,?_,?_,?_,?_⟩,⟨?_,?_,?_,?_,?_,?_,?_,?_,?_,?_⟩,hlt⟩<;>simp [World.cell?,World.frozen?,h]
theorem vY.at {w w1:World} {b:Nat} {v0 v1 v2 v3 v4 v5 v6 v7 v8 v9:Value} {t:TypeId} (g:Gr w w1) (h:w.heap[b]? =some (.cells #[v0,v1,v2,v3,v4,v5,v6,v7,v8,v9] t (0,0))):vY w1 b v0 v1 v2 v3 v4 v5 v6 v7 v8 v9:=(vY.of h).mono g
abbrev vZ (w:World) (b:Nat) (v0 v1 v2 v3 v4 v5 v6 v7 v8 v9 v10:Value):Prop:=(w.cell? ⟨b,0,none⟩=some v0∧w.cell? ⟨b,1,none⟩=some v1∧w.cell? ⟨b,2,none⟩=some v2∧w.cell? ⟨b,3,none⟩=some v3∧w.cell? ⟨b,4,none⟩=some v4∧w.cell? ⟨b,5,none⟩=some v5∧w.cell? ⟨b,6,none⟩=some v6∧w.cell? ⟨b,7,none⟩=some v7∧w.cell? ⟨b,8,none⟩=some v8∧w.cell? ⟨b,9,none⟩=some v9∧w.cell? ⟨b,10,none⟩=some v10)∧(w.frozen? ⟨b,0,none⟩=false∧w.frozen? ⟨b,1,none⟩=false∧w.frozen? ⟨b,2,none⟩=false∧w.frozen? ⟨b,3,none⟩=false∧w.frozen? ⟨b,4,none⟩=false∧w.frozen? ⟨b,5,none⟩=false∧w.frozen? ⟨b,6,none⟩=false∧w.frozen? ⟨b,7,none⟩=false∧w.frozen? ⟨b,8,none⟩=false∧w.frozen? ⟨b,9,none⟩=false∧w.frozen? ⟨b,10,none⟩=false)∧b<w.heap.size
theorem vZ.mono {w w1:World} {b:Nat} {v0 v1 v2 v3 v4 v5 v6 v7 v8 v9 v10:Value} (k:vZ w b v0 v1 v2 v3 v4 v5 v6 v7 v8 v9 v10) (h:Gr w w1):vZ w1 b v0 v1 v2 v3 v4 v5 v6 v7 v8 v9 v10:=by
 obtain⟨⟨k0,k1,k2,k3,k4,k5,k6,k7,k8,k9,zh⟩,⟨f0,f1,f2,f3,f4,f5,f6,f7,f8,f9,f10⟩,hlt⟩:=k
 exact⟨⟨h.cell k0,h.cell k1,h.cell k2,h.cell k3,h.cell k4,h.cell k5,h.cell k6,h.cell k7,h.cell k8,h.cell k9,h.cell zh⟩,⟨h.free (by exact hlt) f0,h.free (by exact hlt) f1,h.free (by exact hlt) f2,h.free (by exact hlt) f3,h.free (by exact hlt) f4,h.free (by exact hlt) f5,h.free (by exact hlt) f6,h.free (by exact hlt) f7,h.free (by exact hlt) f8,h.free (by exact hlt) f9,h.free (by exact hlt) f10⟩,Nat.lt_of_lt_of_le hlt h.size⟩
theorem vZ.of {w:World} {b:Nat} {v0 v1 v2 v3 v4 v5 v6 v7 v8 v9 v10:Value} {t:TypeId} (h:w.heap[b]? =some (.cells #[v0,v1,v2,v3,v4,v5,v6,v7,v8,v9,v10] t (0,0))):vZ w b v0 v1 v2 v3 v4 v5 v6 v7 v8 v9 v10:=by
 have hlt:b<w.heap.size:=(Array.getElem?_eq_some_iff.1 h).1
 refine⟨⟨?_,?_,?_,?_,?_,?_,?_,?_,?_,?_,?_⟩,⟨?_,?_,?_,?_,?_,?_,?_,?_,?_,?_,?_⟩,hlt⟩<;>simp [World.cell?,World.frozen?,h]
theorem vZ.at {w w1:World} {b:Nat} {v0 v1 v2 v3 v4 v5 v6 v7 v8 v9 v10:Value} {t:TypeId} (g:Gr w w1) (h:w.heap[b]? =some (.cells #[v0,v1,v2,v3,v4,v5,v6,v7,v8,v9,v10] t (0,0))):vZ w1 b v0 v1 v2 v3 v4 v5 v6 v7 v8 v9 v10:=(vZ.of h).mono g
abbrev we (w:World) (b:Nat) (v0 v1 v2 v3 v4 v5 v6 v7 v8 v9 v10 v11:Value):Prop:=(w.cell? ⟨b,0,none⟩=some v0∧w.cell? ⟨b,1,none⟩=some v1∧w.cell? ⟨b,2,none⟩=some v2∧w.cell? ⟨b,3,none⟩=some v3∧w.cell? ⟨b,4,none⟩=some v4∧w.cell? ⟨b,5,none⟩=some v5∧w.cell? ⟨b,6,none⟩=some v6∧w.cell? ⟨b,7,none⟩=some v7∧w.cell? ⟨b,8,none⟩=some v8∧w.cell? ⟨b,9,none⟩=some v9∧w.cell? ⟨b,10,none⟩=some v10∧w.cell? ⟨b,11,none⟩=some v11)∧(w.frozen? ⟨b,0,none⟩=false∧w.frozen? ⟨b,1,none⟩=false∧w.frozen? ⟨b,2,none⟩=false∧w.frozen? ⟨b,3,none⟩=false∧w.frozen? ⟨b,4,none⟩=false∧w.frozen? ⟨b,5,none⟩=false∧w.frozen? ⟨b,6,none⟩=false∧w.frozen? ⟨b,7,none⟩=false∧w.frozen? ⟨b,8,none⟩=false∧w.frozen? ⟨b,9,none⟩=false∧w.frozen? ⟨b,10,none⟩=false∧w.frozen? ⟨b,11,none⟩=false)∧b<w.heap.size
theorem we.mono {w w1:World} {b:Nat} {v0 v1 v2 v3 v4 v5 v6 v7 v8 v9 v10 v11:Value} (k:we w b v0 v1 v2 v3 v4 v5 v6 v7 v8 v9 v10 v11) (h:Gr w w1):we w1 b v0 v1 v2 v3 v4 v5 v6 v7 v8 v9 v10 v11:=by
 obtain⟨⟨k0,k1,k2,k3,k4,k5,k6,k7,k8,k9,zh,Dy⟩,⟨f0,f1,f2,f3,f4,f5,f6,f7,f8,f9,f10,f11⟩,hlt⟩:=k
 exact⟨⟨h.cell k0,h.cell k1,h.cell k2,h.cell k3,h.cell k4,h.cell k5,h.cell k6,h.cell k7,h.cell k8,h.cell k9,h.cell zh,h.cell Dy⟩,⟨h.free (by exact hlt) f0,h.free (by exact hlt) f1,h.free (by exact hlt) f2,h.free (by exact hlt) f3,h.free (by exact hlt) f4,h.free (by exact hlt) f5,h.free (by exact hlt) f6,h.free (by exact hlt) f7,h.free (by exact hlt) f8,h.free (by exact hlt) f9,h.free (by exact hlt) f10,h.free (by exact hlt) f11⟩,Nat.lt_of_lt_of_le hlt h.size⟩
theorem we.of {w:World} {b:Nat} {v0 v1 v2 v3 v4 v5 v6 v7 v8 v9 v10 v11:Value} {t:TypeId} (h:w.heap[b]? =some (.cells #[v0,v1,v2,v3,v4,v5,v6,v7,v8,v9,v10,v11] t (0,0))):we w b v0 v1 v2 v3 v4 v5 v6 v7 v8 v9 v10 v11:=by
 have hlt:b<w.heap.size:=(Array.getElem?_eq_some_iff.1 h).1
 refine⟨⟨?_,?_,?_,?_,?_,?_,?_,?_,?_,?_,?_,?_⟩,⟨?_,?_,?_,?_,?_,?_,?_,?_,?_,?_,?_,?_⟩,hlt⟩<;>simp [World.cell?,World.frozen?,h]
theorem we.at {w w1:World} {b:Nat} {v0 v1 v2 v3 v4 v5 v6 v7 v8 v9 v10 v11:Value} {t:TypeId} (g:Gr w w1) (h:w.heap[b]? =some (.cells #[v0,v1,v2,v3,v4,v5,v6,v7,v8,v9,v10,v11] t (0,0))):we w1 b v0 v1 v2 v3 v4 v5 v6 v7 v8 v9 v10 v11:=(we.of h).mono g
abbrev wg (w:World) (b:Nat) (v0 v1 v2 v3 v4 v5 v6 v7 v8 v9 v10 v11 v12:Value):Prop:=(w.cell? ⟨b,0,none⟩=some v0∧w.cell? ⟨b,1,none⟩=some v1∧w.cell? ⟨b,2,none⟩=some v2∧w.cell? ⟨b,3,none⟩=some v3∧w.cell? ⟨b,4,none⟩=some v4∧w.cell? ⟨b,5,none⟩=some v5∧w.cell? ⟨b,6,none⟩=some v6∧w.cell? ⟨b,7,none⟩=some v7∧w.cell? ⟨b,8,none⟩=some v8∧w.cell? ⟨b,9,none⟩=some v9∧w.cell? ⟨b,10,none⟩=some v10∧w.cell? ⟨b,11,none⟩=some v11∧w.cell? ⟨b,12,none⟩=some v12)∧(w.frozen? ⟨b,0,none⟩=false∧w.frozen? ⟨b,1,none⟩=false∧w.frozen? ⟨b,2,none⟩=false∧w.frozen? ⟨b,3,none⟩=false∧w.frozen? ⟨b,4,none⟩=false∧w.frozen? ⟨b,5,none⟩=false∧w.frozen? ⟨b,6,none⟩=false∧w.frozen? ⟨b,7,none⟩=false∧w.frozen? ⟨b,8,none⟩=false∧w.frozen? ⟨b,9,none⟩=false∧w.frozen? ⟨b,10,none⟩=false∧w.frozen? ⟨b,11,none⟩=false∧w.frozen? ⟨b,12,none⟩=false)∧b<w.heap.size
theorem wg.mono {w w1:World} {b:Nat} {v0 v1 v2 v3 v4 v5 v6 v7 v8 v9 v10 v11 v12:Value} (k:wg w b v0 v1 v2 v3 v4 v5 v6 v7 v8 v9 v10 v11 v12) (h:Gr w w1):wg w1 b v0 v1 v2 v3 v4 v5 v6 v7 v8 v9 v10 v11 v12:=by
 obtain⟨⟨k0,k1,k2,k3,k4,k5,k6,k7,k8,k9,zh,Dy,Mf⟩,⟨f0,f1,f2,f3,f4,f5,f6,f7,f8,f9,f10,f11,f12⟩,hlt⟩:=k
 exact⟨⟨h.cell k0,h.cell k1,h.cell k2,h.cell k3,h.cell k4,h.cell k5,h.cell k6,h.cell k7,h.cell k8,h.cell k9,h.cell zh,h.cell Dy,h.cell Mf⟩,⟨h.free (by exact hlt) f0,h.free (by exact hlt) f1,h.free (by exact hlt) f2,h.free (by exact hlt) f3,h.free (by exact hlt) f4,h.free (by exact hlt) f5,h.free (by exact hlt) f6,h.free (by exact hlt) f7,h.free (by exact hlt) f8,h.free (by exact hlt) f9,h.free (by exact hlt) f10,h.free (by exact hlt) f11,h.free (by exact hlt) f12⟩,Nat.lt_of_lt_of_le hlt h.size⟩
theorem wg.of {w:World} {b:Nat} {v0 v1 v2 v3 v4 v5 v6 v7 v8 v9 v10 v11 v12:Value} {t:TypeId} (h:w.heap[b]? =some (.cells #[v0,v1,v2,v3,v4,v5,v6,v7,v8,v9,v10,v11,v12] t (0,0))):wg w b v0 v1 v2 v3 v4 v5 v6 v7 v8 v9 v10 v11 v12:=by
 have hlt:b<w.heap.size:=(Array.getElem?_eq_some_iff.1 h).1
 refine⟨⟨?_,?_,?_,?_,?_,?_,?_,?_,?_,?_,?_,?_,?_⟩,⟨?_,?_,?_,?_,?_,?_,?_,?_,?_,?_,?_,?_,?_⟩,hlt⟩<;>simp [World.cell?,World.frozen?,h]
theorem wg.at {w w1:World} {b:Nat} {v0 v1 v2 v3 v4 v5 v6 v7 v8 v9 v10 v11 v12:Value} {t:TypeId} (g:Gr w w1) (h:w.heap[b]? =some (.cells #[v0,v1,v2,v3,v4,v5,v6,v7,v8,v9,v10,v11,v12] t (0,0))):wg w1 b v0 v1 v2 v3 v4 v5 v6 v7 v8 v9 v10 v11 v12:=(wg.of h).mono g
abbrev wj (w:World) (b:Nat) (v0 v1 v2 v3 v4 v5 v6 v7 v8 v9 v10 v11 v12 fH:Value):Prop:=(w.cell? ⟨b,0,none⟩=some v0∧w.cell? ⟨b,1,none⟩=some v1∧w.cell? ⟨b,2,none⟩=some v2∧w.cell? ⟨b,3,none⟩=some v3∧w.cell? ⟨b,4,none⟩=some v4∧w.cell? ⟨b,5,none⟩=some v5∧w.cell? ⟨b,6,none⟩=some v6∧w.cell? ⟨b,7,none⟩=some v7∧w.cell? ⟨b,8,none⟩=some v8∧w.cell? ⟨b,9,none⟩=some v9∧w.cell? ⟨b,10,none⟩=some v10∧w.cell? ⟨b,11,none⟩=some v11∧w.cell? ⟨b,12,none⟩=some v12∧w.cell? ⟨b,13,none⟩=some fH)∧(w.frozen? ⟨b,0,none⟩=false∧w.frozen? ⟨b,1,none⟩=false∧w.frozen? ⟨b,2,none⟩=false∧w.frozen? ⟨b,3,none⟩=false∧w.frozen? ⟨b,4,none⟩=false∧w.frozen? ⟨b,5,none⟩=false∧w.frozen? ⟨b,6,none⟩=false∧w.frozen? ⟨b,7,none⟩=false∧w.frozen? ⟨b,8,none⟩=false∧w.frozen? ⟨b,9,none⟩=false∧w.frozen? ⟨b,10,none⟩=false∧w.frozen? ⟨b,11,none⟩=false∧w.frozen? ⟨b,12,none⟩=false∧w.frozen? ⟨b,13,none⟩=false)∧b<w.heap.size
theorem wj.mono {w w1:World} {b:Nat} {v0 v1 v2 v3 v4 v5 v6 v7 v8 v9 v10 v11 v12 fH:Value} (k:wj w b v0 v1 v2 v3 v4 v5 v6 v7 v8 v9 v10 v11 v12 fH) (h:Gr w w1):wj w1 b v0 v1 v2 v3 v4 v5 v6 v7 v8 v9 v10 v11 v12 fH:=by
 obtain⟨⟨k0,k1,k2,k3,k4,k5,k6,k7,k8,k9,zh,Dy,Mf,k13⟩,⟨f0,f1,f2,f3,f4,f5,f6,f7,f8,f9,f10,f11,f12,f13⟩,hlt⟩:=k
 exact⟨⟨h.cell k0,h.cell k1,h.cell k2,h.cell k3,h.cell k4,h.cell k5,h.cell k6,h.cell k7,h.cell k8,h.cell k9,h.cell zh,h.cell Dy,h.cell Mf,h.cell k13⟩,⟨h.free (by exact hlt) f0,h.free (by exact hlt) f1,h.free (by exact hlt) f2,h.free (by exact hlt) f3,h.free (by exact hlt) f4,h.free (by exact hlt) f5,h.free (by exact hlt) f6,h.free (by exact hlt) f7,h.free (by exact hlt) f8,h.free (by exact hlt) f9,h.free (by exact hlt) f10,h.free (by exact hlt) f11,h.free (by exact hlt) f12,h.free (by exact hlt) f13⟩,Nat.lt_of_lt_of_le hlt h.size⟩
theorem wj.of {w:World} {b:Nat} {v0 v1 v2 v3 v4 v5 v6 v7 v8 v9 v10 v11 v12 fH:Value} {t:TypeId} (h:w.heap[b]? =some (.cells #[v0,v1,v2,v3,v4,v5,v6,v7,v8,v9,v10,v11,v12,fH] t (0,0))):wj w b v0 v1 v2 v3 v4 v5 v6 v7 v8 v9 v10 v11 v12 fH:=by
 have hlt:b<w.heap.size:=(Array.getElem?_eq_some_iff.1 h).1
 refine⟨⟨?_,?_,?_,?_,?_,?_,?_,?_,?_,?_,?_,?_,?_,?_⟩,⟨?_,?_,?_,?_,?_,?_,?_,?_,?_,?_,?_,?_,?_,?_⟩,hlt⟩<;>simp [World.cell?,World.frozen?,h]
theorem wj.at {w w1:World} {b:Nat} {v0 v1 v2 v3 v4 v5 v6 v7 v8 v9 v10 v11 v12 fH:Value} {t:TypeId} (g:Gr w w1) (h:w.heap[b]? =some (.cells #[v0,v1,v2,v3,v4,v5,v6,v7,v8,v9,v10,v11,v12,fH] t (0,0))):wj w1 b v0 v1 v2 v3 v4 v5 v6 v7 v8 v9 v10 v11 v12 fH:=(wj.of h).mono g
end
section
open Go.RowKit Go.Deep
theorem Gr.cells {w w':World} (g:Gr w w') {a:Addr} {n:Nat} {cs:List Value} (h:∀i,i<n→w.cell? (a.add i)=cs[i]?) (hl:cs.length=n):∀i,i<n→w'.cell? (a.add i)=cs[i]? :=by
 intro i hi
 have h1:=h i hi
 rw[List.getElem?_eq_getElem (by omega)]at h1 ⊢
 exact g.cell h1
structure bP (α : Type) where
 size:Nat
 is:World→List Value→α→Prop
 len:∀{w cs a},is w cs a→cs.length=size
 mono:∀{w w' cs a},is w cs a→Gr w w'→is w' cs a
 bH:α→Nat
def cK:bP Int where
 size:=1
 is:=fun _ cs n=>cs=[.int .i64 n]∧-9223372036854775808≤n∧n≤9223372036854775807
 len:=fun h=>by rw[h.1];rfl
 mono:=fun h _=>h
 bH:=fun _=>1
def pg:bP Bool where
 size:=1
 is:=fun _ cs b=>cs=[.bool b]
 len:=fun h=>by rw[h];rfl
 mono:=fun h _=>h
 bH:=fun _=>1
def mZ:bP ByteArray where
 size:=1
 is:=fun _ cs s=>cs=[.string s]∧s.size≤maxLen
 len:=fun h=>by rw[h.1];rfl
 mono:=fun h _=>h
 bH:=fun s=>s.size+1
def bP.pair {α β:Type} (c:bP α) (d:bP β):bP (α×β) where
 size:=c.size+d.size
 is:=fun w cs x=>c.is w (cs.take c.size) x.1∧d.is w (cs.drop c.size) x.2
 len:=fun{w cs a} h=>by
  have h1:=c.len h.1
  have h2:=d.len h.2
  simp at h1 h2
  omega
 mono:=fun h g=>⟨c.mono h.1 g,d.mono h.2 g⟩
 bH:=fun x=>c.bH x.1+d.bH x.2
def cW {α:Type} (c:bP α):bP (List α) where
 size:=1
 is:=fun w cs l=>(cs=[.slice none 0 0]∧l=[])∨∃(b off:Nat) (sp:Option Nat) (cap:Nat),cs=[.slice (some ⟨b,off,sp⟩) l.length cap]∧l.length≤cap∧cap≤maxLen∧
  ∀i (h:i<l.length),sp=none∧∃cs',(∀j,j<c.size→w.cell? ⟨b,off+(i*c.size+j),none⟩=cs'[j]?)∧c.is w cs' l[i]
 len:=fun h=>by
  rcases h with⟨rfl,_⟩|⟨b,off,sp,cap,rfl,_⟩<;>rfl
 mono:=fun{w w' cs l} h g=>by
  rcases h with h|⟨b,off,sp,cap,h1,h2,h3,h4⟩
  ·exact .inl h
  ·refine .inr ⟨b,off,sp,cap,h1,h2,h3,fun i hi=>?_⟩
   obtain⟨e,cs',h5,h6⟩:=h4 i hi
   refine⟨e,cs',fun j hj=>?_,c.mono h6 g⟩
   have h7:=h5 j hj
   have hl:=c.len h6
   rw[List.getElem?_eq_getElem (by omega)]at h7 ⊢
   exact g.cell h7
 bH:=fun l=>(l.map c.bH).sum+1
def dB {α:Type} (F:Nat→Prop) (P:Program) (c:bP α) (t:TypeId):Prop:=
 ∀⦃H:Type⦄ ⦃enc:TypeId×Value→H⦄ ⦃w:World⦄ ⦃base:Nat⦄ ⦃spare:Nat→Bool⦄ ⦃held:Bool⦄ ⦃fuel:Nat⦄ ⦃cs:List Value⦄ ⦃x:DataW H×List MemPlace⦄,F fuel→
  DataW.trod enc P w base spare held fuel t cs=some x→∃a,c.is w cs a∧c.bH a≤Rows.uptoBulk x.1
abbrev Reads {α:Type} (P:Program) (c:bP α) (t:TypeId):Prop:=dB (fun _=>True) P c t
theorem xD {H:Type} (l:List (DataW H)):Rows.uptoBulkAll l=(l.map Rows.uptoBulk).sum:=by
 induction l with
 |nil=>rfl
 |cons x r ih=>simp only[Rows.uptoBulkAll,List.map_cons,List.sum_cons,ih]
theorem Nq {α:Type} (f:α→Nat) (D:Nat→Nat):∀(l:List α) (o:Nat),(∀i (h:i<l.length),f l[i]≤D (o+i))→(l.map f).sum≤((List.range' o l.length).map D).sum
 |[],_,_=>by simp
 |x::r,o,h=>by
  simp only[List.length_cons,List.range'_succ,List.map_cons,List.sum_cons]
  have h0:=h 0 (by simp)
  have:=Nq f D r (o+1) (fun i hi=>by have:=h (i+1) (by simp;omega);simp only[List.getElem_cons_succ]at this;rw[show o+1+i=o+(i+1) by omega];exact this)
  simp at h0
  omega
theorem wf_i64 {n:Int} (h:(Lit.int .i64 n).wf=true):-9223372036854775808≤n∧n≤9223372036854775807:=by
 simpa [Lit.wf,IntKind.min,IntKind.max,IntKind.signed,IntKind.bits]using h
theorem Ph {H:Type} (d:DataW H):1≤Rows.uptoBulk d:=by
 cases d with
 |lit l=>cases l<;>simp [Rows.uptoBulk]
 |_=>simp [Rows.uptoBulk]
theorem hU {F:Nat→Prop} {P:Program} {t:TypeId} (ht:P.underlying t=some (.int .i64)):dB F P cK t:=by
 intro H enc w base spare held fuel cs x _ h
 obtain⟨n,rfl,_,hw⟩:=DataW.trod_int ht h
 exact⟨n,⟨rfl,wf_i64 hw⟩,Ph _⟩
theorem EV {F:Nat→Prop} {P:Program} {t:TypeId} (ht:P.underlying t=some .bool):dB F P pg t:=by
 intro H enc w base spare held fuel cs x _ h
 obtain⟨n,rfl,_⟩:=DataW.trod_bool ht h
 exact⟨n,rfl,Ph _⟩
theorem xR {F:Nat→Prop} {P:Program} {t:TypeId} (ht:P.underlying t=some .string):dB F P mZ t:=by
 intro H enc w base spare held fuel cs x _ h
 obtain⟨n,rfl,hx,hw⟩:=DataW.trod_string ht h
 refine⟨n,⟨rfl,hw⟩,?_⟩
 subst hx
 simp only[Rows.uptoBulk,mZ]
 first|(simp;done)|omega
theorem ue {F:Nat→Prop} {P:Program} {α:Type} {c:bP α} {t e:TypeId} (ht:P.underlying t=some (.slice e)) (hz:P.cellsOf e=c.size) (hp:0<c.size) (hr:dB (fun m=>F (m+1)) P c e):dB F P (cW c) t:=by
 intro H enc w base spare held fuel cs x hF h
 rcases DataW.trod_slice ht h with⟨rfl,rfl⟩|⟨a,len,cap,elems,rest,n,eR,rfl,Dv,hb,hl,hm,hlen,hel,h8,h9⟩
 ·exact⟨[],.inl ⟨rfl,rfl⟩,by simp [cW,Rows.uptoBulk]⟩
 ·obtain⟨D,hD⟩:∃D:Nat→DataW H,D=fun i=>(elems.getD i (.nil,[])).1:=⟨_,rfl⟩
  have key:∀i,i<len→∃(y:α) (cs':List Value),(∀j,j<c.size→w.cell? (a.add (i*c.size+j))=cs'[j]?)∧c.is w cs' y∧c.bH y≤Rows.uptoBulk (D i):=by
   intro i hi
   have hk:=hel i hi
   rw[List.getElem?_eq_getElem (by omega)]at hk
   obtain⟨cs',h1,h2⟩:=Option.bind_eq_some_iff.1 hk
   obtain⟨y,hy,Dx⟩:=hr (by subst eR;exact hF) h2
   have Dx:c.bH y≤Rows.uptoBulk (D i):=by
    rw[hD]
    simpa [List.getD,List.getElem?_eq_getElem (show i<elems.length by omega)]using Dx
   obtain⟨_,h3,h4⟩:=World.cells?_some h1
   refine⟨y,cs',fun j hj=>?_,hy,Dx⟩
   have:=h4 j (by rw[hz];exact hj)
   rw[hz]at this
   rw[←this,add_add]
  obtain⟨ys,hys⟩:∃ys:List α,ys.length=len∧∀i (h:i<ys.length),c.bH ys[i]≤Rows.uptoBulk (D i)∧∃cs',(∀j,j<c.size→w.cell? (a.add (i*c.size+j))=cs'[j]?)∧c.is w cs' ys[i]:=by
   clear hel hlen h hl Dv h8 h9
   induction len with
   |zero=>exact⟨[],rfl,fun i h=>by simp at h⟩
   |succ k ih=>
    obtain⟨ys,h1,h2⟩:=ih (fun i hi=>key i (by omega))
    obtain⟨y,cs',h3,h4,h4b⟩:=key k (by omega)
    refine⟨ys++[y],by simp [h1],fun i hi=>?_⟩
    by_cases hk:i<ys.length
    ·rw[List.getElem_append_left hk];exact h2 i hk
    ·have:i=k:=by simp at hi;omega
     subst this
     rw[List.getElem_append_right (by omega)]
     simp only[h1,Nat.sub_self,List.getElem_cons_zero]
     exact⟨h4b,cs',h3,h4⟩
  obtain⟨h1,h2⟩:=hys
  obtain⟨b,off,sp⟩:=a
  refine⟨ys,.inr ⟨b,off,sp,cap,by rw[h1],by omega,hm,fun i hi=>?_⟩,?_⟩
  ·have hs:sp=none:=by
    cases sp with
    |none=>rfl
    |some q=>
     exfalso
     obtain⟨_,cs',h3,h4⟩:=h2 0 (by omega)
     have h5:=h3 0 hp
     have hl:=c.len h4
     rw[List.getElem?_eq_getElem (by omega)]at h5
     simp only[Nat.zero_mul,Nat.zero_add,World.cell?,Addr.add]at h5
     split at h5<;>simp at h5
   obtain⟨_,cs',h3,h4⟩:=h2 i hi
   subst hs
   refine⟨rfl,cs',fun j hj=>?_,h4⟩
   have h6:=h3 j hj
   rw[←h6]
   congr 1
   simp only[Addr.add]
   split
   ·rename_i h7;simp only[h7,Nat.add_zero]
   ·rfl
  ·subst Dv
   simp only[cW,Rows.uptoBulk,xD,List.map_map]
   have:=Nq c.bH (fun i=>Rows.uptoBulk (D i)) ys 0 (fun i hi=>by simpa using(h2 i hi).1)
   rw[h1,←List.range_eq_range']at this
   have e:List.map (Rows.uptoBulk∘fun x=>x.1) elems=List.map (fun i=>Rows.uptoBulk (D i)) (List.range len):=by
    rw[←hlen,hD]
    apply List.ext_getElem (by simp)
    intro i h3 h4
    simp at h3
    simp [List.getD,List.getElem?_eq_getElem h3]
   rw[e]
   omega
theorem zM {α:Type} (l:List α) (o n:Nat) (h:l.length=o+n):(l.drop o).take n=l.drop o:=List.take_of_length_le (by simp;omega)
theorem V1 {α:Type} (l:List α) (h:l.length=2):∃x0 x1,l=[x0,x1]:=by
 match l,h with
 |[x0,x1],_=>exact⟨x0,x1,rfl⟩
theorem zK {F:Nat→Prop} {P:Program} {sF sG:Type} {t:TypeId} {f0 f1:Field} {c0:bP sF} {c1:bP sG} (ht:P.underlying t=some (.struct #[f0,f1])) (hz:P.cellsOf t=c0.size+c1.size) (o0:f0.offset=0) (o1:f1.offset=c0.size) (z0:P.cellsOf f0.type=c0.size) (z1:P.cellsOf f1.type=c1.size) (r0:dB (fun m=>F (m+1)) P c0 f0.type) (r1:dB (fun m=>F (m+1)) P c1 f1.type):dB F P (c0.pair c1) t:=by
 intro H enc w base spare held fuel cs x hF h
 obtain⟨xs,m,eR,cG,hlen,hxl,hf⟩:=DataW.trod_struct ht h
 rw[hz]at hlen
 have hxl:xs.length=2:=hxl
 have h0:=hf 0 f0 rfl
 rw[o0,z0,List.getElem?_eq_getElem (show 0<xs.length by omega)]at h0
 obtain⟨a0,k0,b0⟩:=r0 (by subst eR;exact hF) h0
 have h1:=hf 1 f1 rfl
 rw[o1,z1,List.getElem?_eq_getElem (show 1<xs.length by omega)]at h1
 obtain⟨a1,k1,b1⟩:=r1 (by subst eR;exact hF) h1
 rw[zM cs (c0.size) c1.size (by omega)]at k1
 refine⟨(a0,a1),?_,?_⟩
 ·exact⟨by simpa using k0,(by simpa [List.drop_drop,Nat.add_assoc]using k1)⟩
 ·subst cG
  simp only[Rows.uptoBulk,xD,bP.pair]
  have hs:(List.map Rows.uptoBulk (xs.map (·.1))).sum=Rows.uptoBulk xs[0].1+(Rows.uptoBulk xs[1].1):=by
   obtain⟨x0,x1,rfl⟩:=V1 xs hxl
   simp
  rw[hs]
  exact Nat.le_succ_of_le (Nat.add_le_add b0 b1)
theorem V2 {α:Type} (l:List α) (h:l.length=3):∃x0 x1 x2,l=[x0,x1,x2]:=by
 match l,h with
 |[x0,x1,x2],_=>exact⟨x0,x1,x2,rfl⟩
theorem HY {F:Nat→Prop} {P:Program} {sF sG vA:Type} {t:TypeId} {f0 f1 f2:Field} {c0:bP sF} {c1:bP sG} {c2:bP vA} (ht:P.underlying t=some (.struct #[f0,f1,f2])) (hz:P.cellsOf t=c0.size+c1.size+c2.size) (o0:f0.offset=0) (o1:f1.offset=c0.size) (o2:f2.offset=c0.size+c1.size) (z0:P.cellsOf f0.type=c0.size) (z1:P.cellsOf f1.type=c1.size) (z2:P.cellsOf f2.type=c2.size) (r0:dB (fun m=>F (m+1)) P c0 f0.type) (r1:dB (fun m=>F (m+1)) P c1 f1.type) (r2:dB (fun m=>F (m+1)) P c2 f2.type):dB F P (c0.pair (c1.pair c2)) t:=by
 intro H enc w base spare held fuel cs x hF h
 obtain⟨xs,m,eR,cG,hlen,hxl,hf⟩:=DataW.trod_struct ht h
 rw[hz]at hlen
 have hxl:xs.length=3:=hxl
 have h0:=hf 0 f0 rfl
 rw[o0,z0,List.getElem?_eq_getElem (show 0<xs.length by omega)]at h0
 obtain⟨a0,k0,b0⟩:=r0 (by subst eR;exact hF) h0
 have h1:=hf 1 f1 rfl
 rw[o1,z1,List.getElem?_eq_getElem (show 1<xs.length by omega)]at h1
 obtain⟨a1,k1,b1⟩:=r1 (by subst eR;exact hF) h1
 have h2:=hf 2 f2 rfl
 rw[o2,z2,List.getElem?_eq_getElem (show 2<xs.length by omega)]at h2
 obtain⟨a2,k2,b2⟩:=r2 (by subst eR;exact hF) h2
 rw[zM cs (c0.size+c1.size) c2.size (by omega)]at k2
 refine⟨(a0,(a1,a2)),?_,?_⟩
 ·exact⟨by simpa using k0,⟨by simpa [List.drop_drop,Nat.add_assoc]using k1,(by simpa [List.drop_drop,Nat.add_assoc]using k2)⟩⟩
 ·subst cG
  simp only[Rows.uptoBulk,xD,bP.pair]
  have hs:(List.map Rows.uptoBulk (xs.map (·.1))).sum=Rows.uptoBulk xs[0].1+(Rows.uptoBulk xs[1].1+(Rows.uptoBulk xs[2].1)):=by
   obtain⟨x0,x1,x2,rfl⟩:=V2 xs hxl
   simp
  rw[hs]
  exact Nat.le_succ_of_le (Nat.add_le_add b0 (Nat.add_le_add b1 b2))
theorem V3 {α:Type} (l:List α) (h:l.length=4):∃x0 x1 x2 x3,l=[x0,x1,x2,x3]:=by
 match l,h with
 |[x0,x1,x2,x3],_=>exact⟨x0,x1,x2,x3,rfl⟩
theorem VR {F:Nat→Prop} {P:Program} {sF sG vA zB:Type} {t:TypeId} {f0 f1 f2 f3:Field} {c0:bP sF} {c1:bP sG} {c2:bP vA} {c3:bP zB} (ht:P.underlying t=some (.struct #[f0,f1,f2,f3])) (hz:P.cellsOf t=c0.size+c1.size+c2.size+c3.size) (o0:f0.offset=0) (o1:f1.offset=c0.size) (o2:f2.offset=c0.size+c1.size) (o3:f3.offset=c0.size+c1.size+c2.size) (z0:P.cellsOf f0.type=c0.size) (z1:P.cellsOf f1.type=c1.size) (z2:P.cellsOf f2.type=c2.size) (z3:P.cellsOf f3.type=c3.size) (r0:dB (fun m=>F (m+1)) P c0 f0.type) (r1:dB (fun m=>F (m+1)) P c1 f1.type) (r2:dB (fun m=>F (m+1)) P c2 f2.type) (r3:dB (fun m=>F (m+1)) P c3 f3.type):dB F P (c0.pair (c1.pair (c2.pair c3))) t:=by
 intro H enc w base spare held fuel cs x hF h
 obtain⟨xs,m,eR,cG,hlen,hxl,hf⟩:=DataW.trod_struct ht h
 rw[hz]at hlen
 have hxl:xs.length=4:=hxl
 have h0:=hf 0 f0 rfl
 rw[o0,z0,List.getElem?_eq_getElem (show 0<xs.length by omega)]at h0
 obtain⟨a0,k0,b0⟩:=r0 (by subst eR;exact hF) h0
 have h1:=hf 1 f1 rfl
 rw[o1,z1,List.getElem?_eq_getElem (show 1<xs.length by omega)]at h1
 obtain⟨a1,k1,b1⟩:=r1 (by subst eR;exact hF) h1
 have h2:=hf 2 f2 rfl
 rw[o2,z2,List.getElem?_eq_getElem (show 2<xs.length by omega)]at h2
 obtain⟨a2,k2,b2⟩:=r2 (by subst eR;exact hF) h2
 have h3:=hf 3 f3 rfl
 rw[o3,z3,List.getElem?_eq_getElem (show 3<xs.length by omega)]at h3
 obtain⟨a3,k3,b3⟩:=r3 (by subst eR;exact hF) h3
 rw[zM cs (c0.size+c1.size+c2.size) c3.size (by omega)]at k3
 refine⟨(a0,(a1,(a2,a3))),?_,?_⟩
 ·exact⟨by simpa using k0,⟨by simpa [List.drop_drop,Nat.add_assoc]using k1,⟨by simpa [List.drop_drop,Nat.add_assoc]using k2,(by simpa [List.drop_drop,Nat.add_assoc]using k3)⟩⟩⟩
 ·subst cG
  simp only[Rows.uptoBulk,xD,bP.pair]
  have hs:(List.map Rows.uptoBulk (xs.map (·.1))).sum=Rows.uptoBulk xs[0].1+(Rows.uptoBulk xs[1].1+(Rows.uptoBulk xs[2].1+(Rows.uptoBulk xs[3].1))):=by
   obtain⟨x0,x1,x2,x3,rfl⟩:=V3 xs hxl
   simp
  rw[hs]
  exact Nat.le_succ_of_le (Nat.add_le_add b0 (Nat.add_le_add b1 (Nat.add_le_add b2 b3)))
theorem V4 {α:Type} (l:List α) (h:l.length=6):∃x0 x1 x2 x3 x4 x5,l=[x0,x1,x2,x3,x4,x5]:=by
 match l,h with
 |[x0,x1,x2,x3,x4,x5],_=>exact⟨x0,x1,x2,x3,x4,x5,rfl⟩
theorem VS {F:Nat→Prop} {P:Program} {sF sG vA zB DV DW:Type} {t:TypeId} {f0 f1 f2 f3 f4 f5:Field} {c0:bP sF} {c1:bP sG} {c2:bP vA} {c3:bP zB} {c4:bP DV} {c5:bP DW} (ht:P.underlying t=some (.struct #[f0,f1,f2,f3,f4,f5])) (hz:P.cellsOf t=c0.size+c1.size+c2.size+c3.size+c4.size+c5.size) (o0:f0.offset=0) (o1:f1.offset=c0.size) (o2:f2.offset=c0.size+c1.size) (o3:f3.offset=c0.size+c1.size+c2.size) (o4:f4.offset=c0.size+c1.size+c2.size+c3.size) (o5:f5.offset=c0.size+c1.size+c2.size+c3.size+c4.size) (z0:P.cellsOf f0.type=c0.size) (z1:P.cellsOf f1.type=c1.size) (z2:P.cellsOf f2.type=c2.size) (z3:P.cellsOf f3.type=c3.size) (z4:P.cellsOf f4.type=c4.size) (z5:P.cellsOf f5.type=c5.size) (r0:dB (fun m=>F (m+1)) P c0 f0.type) (r1:dB (fun m=>F (m+1)) P c1 f1.type) (r2:dB (fun m=>F (m+1)) P c2 f2.type) (r3:dB (fun m=>F (m+1)) P c3 f3.type) (r4:dB (fun m=>F (m+1)) P c4 f4.type) (r5:dB (fun m=>F (m+1)) P c5 f5.type):dB F P (c0.pair (c1.pair (c2.pair (c3.pair (c4.pair c5))))) t:=by
 intro H enc w base spare held fuel cs x hF h
 obtain⟨xs,m,eR,cG,hlen,hxl,hf⟩:=DataW.trod_struct ht h
 rw[hz]at hlen
 have hxl:xs.length=6:=hxl
 have h0:=hf 0 f0 rfl
 rw[o0,z0,List.getElem?_eq_getElem (show 0<xs.length by omega)]at h0
 obtain⟨a0,k0,b0⟩:=r0 (by subst eR;exact hF) h0
 have h1:=hf 1 f1 rfl
 rw[o1,z1,List.getElem?_eq_getElem (show 1<xs.length by omega)]at h1
 obtain⟨a1,k1,b1⟩:=r1 (by subst eR;exact hF) h1
 have h2:=hf 2 f2 rfl
 rw[o2,z2,List.getElem?_eq_getElem (show 2<xs.length by omega)]at h2
 obtain⟨a2,k2,b2⟩:=r2 (by subst eR;exact hF) h2
 have h3:=hf 3 f3 rfl
 rw[o3,z3,List.getElem?_eq_getElem (show 3<xs.length by omega)]at h3
 obtain⟨a3,k3,b3⟩:=r3 (by subst eR;exact hF) h3
 have h4:=hf 4 f4 rfl
 rw[o4,z4,List.getElem?_eq_getElem (show 4<xs.length by omega)]at h4
 obtain⟨a4,k4,b4⟩:=r4 (by subst eR;exact hF) h4
 have h5:=hf 5 f5 rfl
 rw[o5,z5,List.getElem?_eq_getElem (show 5<xs.length by omega)]at h5
 obtain⟨a5,k5,b5⟩:=r5 (by subst eR;exact hF) h5
 rw[zM cs (c0.size+c1.size+c2.size+c3.size+c4.size) c5.size (by omega)]at k5
 refine⟨(a0,(a1,(a2,(a3,(a4,a5))))),?_,?_⟩
 ·exact⟨by simpa using k0,⟨by simpa [List.drop_drop,Nat.add_assoc]using k1,⟨by simpa [List.drop_drop,Nat.add_assoc]using k2,⟨by simpa [List.drop_drop,Nat.add_assoc]using k3,⟨by simpa [List.drop_drop,Nat.add_assoc]using k4,(by simpa [List.drop_drop,Nat.add_assoc]using k5)⟩⟩⟩⟩⟩
 ·subst cG
  simp only[Rows.uptoBulk,xD,bP.pair]
  have hs:(List.map Rows.uptoBulk (xs.map (·.1))).sum=Rows.uptoBulk xs[0].1+(Rows.uptoBulk xs[1].1+(Rows.uptoBulk xs[2].1+(Rows.uptoBulk xs[3].1+(Rows.uptoBulk xs[4].1+(Rows.uptoBulk xs[5].1))))):=by
   obtain⟨x0,x1,x2,x3,x4,x5,rfl⟩:=V4 xs hxl
   simp
  rw[hs]
  exact Nat.le_succ_of_le (Nat.add_le_add b0 (Nat.add_le_add b1 (Nat.add_le_add b2 (Nat.add_le_add b3 (Nat.add_le_add b4 b5)))))
theorem V5 {α:Type} (l:List α) (h:l.length=7):∃x0 x1 x2 x3 x4 x5 x6,l=[x0,x1,x2,x3,x4,x5,x6]:=by
 match l,h with
 |[x0,x1,x2,x3,x4,x5,x6],_=>exact⟨x0,x1,x2,x3,x4,x5,x6,rfl⟩
theorem VT {F:Nat→Prop} {P:Program} {sF sG vA zB DV DW MF:Type} {t:TypeId} {f0 f1 f2 f3 f4 f5 f6:Field} {c0:bP sF} {c1:bP sG} {c2:bP vA} {c3:bP zB} {c4:bP DV} {c5:bP DW} {c6:bP MF} (ht:P.underlying t=some (.struct #[f0,f1,f2,f3,f4,f5,f6])) (hz:P.cellsOf t=c0.size+c1.size+c2.size+c3.size+c4.size+c5.size+c6.size) (o0:f0.offset=0) (o1:f1.offset=c0.size) (o2:f2.offset=c0.size+c1.size) (o3:f3.offset=c0.size+c1.size+c2.size) (o4:f4.offset=c0.size+c1.size+c2.size+c3.size) (o5:f5.offset=c0.size+c1.size+c2.size+c3.size+c4.size) (o6:f6.offset=c0.size+c1.size+c2.size+c3.size+c4.size+c5.size) (z0:P.cellsOf f0.type=c0.size) (z1:P.cellsOf f1.type=c1.size) (z2:P.cellsOf f2.type=c2.size) (z3:P.cellsOf f3.type=c3.size) (z4:P.cellsOf f4.type=c4.size) (z5:P.cellsOf f5.type=c5.size) (z6:P.cellsOf f6.type=c6.size) (r0:dB (fun m=>F (m+1)) P c0 f0.type) (r1:dB (fun m=>F (m+1)) P c1 f1.type) (r2:dB (fun m=>F (m+1)) P c2 f2.type) (r3:dB (fun m=>F (m+1)) P c3 f3.type) (r4:dB (fun m=>F (m+1)) P c4 f4.type) (r5:dB (fun m=>F (m+1)) P c5 f5.type) (r6:dB (fun m=>F (m+1)) P c6 f6.type):dB F P (c0.pair (c1.pair (c2.pair (c3.pair (c4.pair (c5.pair c6)))))) t:=by
 intro H enc w base spare held fuel cs x hF h
 obtain⟨xs,m,eR,cG,hlen,hxl,hf⟩:=DataW.trod_struct ht h
 rw[hz]at hlen
 have hxl:xs.length=7:=hxl
 have h0:=hf 0 f0 rfl
 rw[o0,z0,List.getElem?_eq_getElem (show 0<xs.length by omega)]at h0
 obtain⟨a0,k0,b0⟩:=r0 (by subst eR;exact hF) h0
 have h1:=hf 1 f1 rfl
 rw[o1,z1,List.getElem?_eq_getElem (show 1<xs.length by omega)]at h1
 obtain⟨a1,k1,b1⟩:=r1 (by subst eR;exact hF) h1
 have h2:=hf 2 f2 rfl
 rw[o2,z2,List.getElem?_eq_getElem (show 2<xs.length by omega)]at h2
 obtain⟨a2,k2,b2⟩:=r2 (by subst eR;exact hF) h2
 have h3:=hf 3 f3 rfl
 rw[o3,z3,List.getElem?_eq_getElem (show 3<xs.length by omega)]at h3
 obtain⟨a3,k3,b3⟩:=r3 (by subst eR;exact hF) h3
 have h4:=hf 4 f4 rfl
 rw[o4,z4,List.getElem?_eq_getElem (show 4<xs.length by omega)]at h4
 obtain⟨a4,k4,b4⟩:=r4 (by subst eR;exact hF) h4
 have h5:=hf 5 f5 rfl
 rw[o5,z5,List.getElem?_eq_getElem (show 5<xs.length by omega)]at h5
 obtain⟨a5,k5,b5⟩:=r5 (by subst eR;exact hF) h5
 have h6:=hf 6 f6 rfl
 rw[o6,z6,List.getElem?_eq_getElem (show 6<xs.length by omega)]at h6
 obtain⟨a6,k6,b6⟩:=r6 (by subst eR;exact hF) h6
 rw[zM cs (c0.size+c1.size+c2.size+c3.size+c4.size+c5.size) c6.size (by omega)]at k6
 refine⟨(a0,(a1,(a2,(a3,(a4,(a5,a6)))))),?_,?_⟩
 ·exact⟨by simpa using k0,⟨by simpa [List.drop_drop,Nat.add_assoc]using k1,⟨by simpa [List.drop_drop,Nat.add_assoc]using k2,⟨by simpa [List.drop_drop,Nat.add_assoc]using k3,⟨by simpa [List.drop_drop,Nat.add_assoc]using k4,⟨by simpa [List.drop_drop,Nat.add_assoc]using k5,(by simpa [List.drop_drop,Nat.add_assoc]using k6)⟩⟩⟩⟩⟩⟩
 ·subst cG
  simp only[Rows.uptoBulk,xD,bP.pair]
  have hs:(List.map Rows.uptoBulk (xs.map (·.1))).sum=Rows.uptoBulk xs[0].1+(Rows.uptoBulk xs[1].1+(Rows.uptoBulk xs[2].1+(Rows.uptoBulk xs[3].1+(Rows.uptoBulk xs[4].1+(Rows.uptoBulk xs[5].1+(Rows.uptoBulk xs[6].1)))))):=by
   obtain⟨x0,x1,x2,x3,x4,x5,x6,rfl⟩:=V5 xs hxl
   simp
  rw[hs]
  exact Nat.le_succ_of_le (Nat.add_le_add b0 (Nat.add_le_add b1 (Nat.add_le_add b2 (Nat.add_le_add b3 (Nat.add_le_add b4 (Nat.add_le_add b5 b6))))))
theorem VM {α:Type} (l:List α) (h:l.length=10):∃x0 x1 x2 x3 x4 x5 x6 x7 x8 x9,l=[x0,x1,x2,x3,x4,x5,x6,x7,x8,x9]:=by
 match l,h with
 |[x0,x1,x2,x3,x4,x5,x6,x7,x8,x9],_=>exact⟨x0,x1,x2,x3,x4,x5,x6,x7,x8,x9,rfl⟩
theorem VD {F:Nat→Prop} {P:Program} {sF sG vA zB DV DW MF α7 α8 α9:Type} {t:TypeId} {f0 f1 f2 f3 f4 f5 f6 f7 f8 f9:Field} {c0:bP sF} {c1:bP sG} {c2:bP vA} {c3:bP zB} {c4:bP DV} {c5:bP DW} {c6:bP MF} {c7:bP α7} {c8:bP α8} {c9:bP α9} (ht:P.underlying t=some (.struct #[f0,f1,f2,f3,f4,f5,f6,f7,f8,f9])) (hz:P.cellsOf t=c0.size+c1.size+c2.size+c3.size+c4.size+c5.size+c6.size+c7.size+c8.size+c9.size) (o0:f0.offset=0) (o1:f1.offset=c0.size) (o2:f2.offset=c0.size+c1.size) (o3:f3.offset=c0.size+c1.size+c2.size) (o4:f4.offset=c0.size+c1.size+c2.size+c3.size) (o5:f5.offset=c0.size+c1.size+c2.size+c3.size+c4.size) (o6:f6.offset=c0.size+c1.size+c2.size+c3.size+c4.size+c5.size) (o7:f7.offset=c0.size+c1.size+c2.size+c3.size+c4.size+c5.size+c6.size) (o8:f8.offset=c0.size+c1.size+c2.size+c3.size+c4.size+c5.size+c6.size+c7.size) (o9:f9.offset=c0.size+c1.size+c2.size+c3.size+c4.size+c5.size+c6.size+c7.size+c8.size) (z0:P.cellsOf f0.type=c0.size) (z1:P.cellsOf f1.type=c1.size) (z2:P.cellsOf f2.type=c2.size) (z3:P.cellsOf f3.type=c3.size) (z4:P.cellsOf f4.type=c4.size) (z5:P.cellsOf f5.type=c5.size) (z6:P.cellsOf f6.type=c6.size) (z7:P.cellsOf f7.type=c7.size) (z8:P.cellsOf f8.type=c8.size) (z9:P.cellsOf f9.type=c9.size) (r0:dB (fun m=>F (m+1)) P c0 f0.type) (r1:dB (fun m=>F (m+1)) P c1 f1.type) (r2:dB (fun m=>F (m+1)) P c2 f2.type) (r3:dB (fun m=>F (m+1)) P c3 f3.type) (r4:dB (fun m=>F (m+1)) P c4 f4.type) (r5:dB (fun m=>F (m+1)) P c5 f5.type) (r6:dB (fun m=>F (m+1)) P c6 f6.type) (r7:dB (fun m=>F (m+1)) P c7 f7.type) (r8:dB (fun m=>F (m+1)) P c8 f8.type) (r9:dB (fun m=>F (m+1)) P c9 f9.type):dB F P (c0.pair (c1.pair (c2.pair (c3.pair (c4.pair (c5.pair (c6.pair (c7.pair (c8.pair c9))))))))) t:=by
 intro H enc w base spare held fuel cs x hF h
 obtain⟨xs,m,eR,cG,hlen,hxl,hf⟩:=DataW.trod_struct ht h
 rw[hz]at hlen
 have hxl:xs.length=10:=hxl
 have h0:=hf 0 f0 rfl
 rw[o0,z0,List.getElem?_eq_getElem (show 0<xs.length by omega)]at h0
 obtain⟨a0,k0,b0⟩:=r0 (by subst eR;exact hF) h0
 have h1:=hf 1 f1 rfl
 rw[o1,z1,List.getElem?_eq_getElem (show 1<xs.length by omega)]at h1
 obtain⟨a1,k1,b1⟩:=r1 (by subst eR;exact hF) h1
 have h2:=hf 2 f2 rfl
 rw[o2,z2,List.getElem?_eq_getElem (show 2<xs.length by omega)]at h2
 obtain⟨a2,k2,b2⟩:=r2 (by subst eR;exact hF) h2
 have h3:=hf 3 f3 rfl
 rw[o3,z3,List.getElem?_eq_getElem (show 3<xs.length by omega)]at h3
 obtain⟨a3,k3,b3⟩:=r3 (by subst eR;exact hF) h3
 have h4:=hf 4 f4 rfl
 rw[o4,z4,List.getElem?_eq_getElem (show 4<xs.length by omega)]at h4
 obtain⟨a4,k4,b4⟩:=r4 (by subst eR;exact hF) h4
 have h5:=hf 5 f5 rfl
 rw[o5,z5,List.getElem?_eq_getElem (show 5<xs.length by omega)]at h5
 obtain⟨a5,k5,b5⟩:=r5 (by subst eR;exact hF) h5
 have h6:=hf 6 f6 rfl
 rw[o6,z6,List.getElem?_eq_getElem (show 6<xs.length by omega)]at h6
 obtain⟨a6,k6,b6⟩:=r6 (by subst eR;exact hF) h6
 have h7:=hf 7 f7 rfl
 rw[o7,z7,List.getElem?_eq_getElem (show 7<xs.length by omega)]at h7
 obtain⟨a7,k7,b7⟩:=r7 (by subst eR;exact hF) h7
 have h8:=hf 8 f8 rfl
 rw[o8,z8,List.getElem?_eq_getElem (show 8<xs.length by omega)]at h8
 obtain⟨a8,k8,b8⟩:=r8 (by subst eR;exact hF) h8
 have h9:=hf 9 f9 rfl
 rw[o9,z9,List.getElem?_eq_getElem (show 9<xs.length by omega)]at h9
 obtain⟨a9,k9,b9⟩:=r9 (by subst eR;exact hF) h9
 rw[zM cs (c0.size+c1.size+c2.size+c3.size+c4.size+c5.size+c6.size+c7.size+c8.size) c9.size (by omega)]at k9
 refine⟨(a0,(a1,(a2,(a3,(a4,(a5,(a6,(a7,(a8,a9))))))))),?_,?_⟩
 ·exact⟨by simpa using k0,⟨by simpa [List.drop_drop,Nat.add_assoc]using k1,⟨by simpa [List.drop_drop,Nat.add_assoc]using k2,⟨by simpa [List.drop_drop,Nat.add_assoc]using k3,⟨by simpa [List.drop_drop,Nat.add_assoc]using k4,⟨by simpa [List.drop_drop,Nat.add_assoc]using k5,⟨by simpa [List.drop_drop,Nat.add_assoc]using k6,⟨by simpa [List.drop_drop,Nat.add_assoc]using k7,⟨by simpa [List.drop_drop,Nat.add_assoc]using k8,(by simpa [List.drop_drop,Nat.add_assoc]using k9)⟩⟩⟩⟩⟩⟩⟩⟩⟩
 ·subst cG
  simp only[Rows.uptoBulk,xD,bP.pair]
  have hs:(List.map Rows.uptoBulk (xs.map (·.1))).sum=Rows.uptoBulk xs[0].1+(Rows.uptoBulk xs[1].1+(Rows.uptoBulk xs[2].1+(Rows.uptoBulk xs[3].1+(Rows.uptoBulk xs[4].1+(Rows.uptoBulk xs[5].1+(Rows.uptoBulk xs[6].1+(Rows.uptoBulk xs[7].1+(Rows.uptoBulk xs[8].1+(Rows.uptoBulk xs[9].1))))))))):=by
   obtain⟨x0,x1,x2,x3,x4,x5,x6,x7,x8,x9,rfl⟩:=VM xs hxl
   simp
  rw[hs]
  exact Nat.le_succ_of_le (Nat.add_le_add b0 (Nat.add_le_add b1 (Nat.add_le_add b2 (Nat.add_le_add b3 (Nat.add_le_add b4 (Nat.add_le_add b5 (Nat.add_le_add b6 (Nat.add_le_add b7 (Nat.add_le_add b8 b9)))))))))
end
section
open Go.RowKit Go.Deep
theorem dB.imp {F:Nat→Prop} {P:Program} {α β:Type} {c:bP α} {d:bP β} {t:TypeId} (h:dB F P c t) (k:∀w cs a,c.is w cs a→∃b,d.is w cs b∧d.bH b≤c.bH a):dB F P d t:=by
 intro H enc w base spare held fuel cs x hF h1
 obtain⟨a,ha,hb⟩:=h hF h1
 obtain⟨b,h2,h3⟩:=k _ _ _ ha
 exact⟨b,h2,Nat.le_trans h3 hb⟩
theorem fk {α:Type} {cs a b:List α} {n:Nat} (h1:cs.take n=a) (h2:cs.drop n=b):cs=a++b:=by rw[←h1,←h2,List.take_append_drop]
def rD:bP kK where
 size:=2
 is:=fun w cs x=>cs=[.int .i64 x.time,.int .i64 x.way]∧aS x.time∧aS x.way
 len:=fun h=>by obtain⟨rfl,_⟩:=h;rfl
 mono:=fun h _=>h
 bH:=fun x=>cK.bH x.time+(cK.bH x.way)
theorem WJ:Reads Try.prog rD 133:=
 (zK (F:=fun _=>True) Try.underlying133 (c0:=cK) (c1:=cK) (by kernel_rfl) rfl rfl (by kernel_rfl) (by kernel_rfl) (hU Try.underlying3) (hU Try.underlying3)).imp fun w cs a h=>by
  obtain⟨a0,a1⟩:=a
  obtain⟨h0,h1⟩:=h
  obtain⟨e0,b0⟩:=h0
  obtain⟨e1,b1⟩:=h1
  have iK:=fk e0 e1
  exact⟨⟨a0,a1⟩,⟨by rw[iK];rfl,b0,b1⟩,Nat.le_refl _⟩
theorem V9:Reads Try.prog (cW rD) 40:=ue Try.underlying40 (c:=rD) (by kernel_rfl) (by decide) WJ
def J2:bP nZ where
 size:=2
 is:=fun w cs x=>∃v0:Value,cs=[.int .i64 x.kind,v0]∧aS x.kind∧(cW rD).is w [v0] x.points
 len:=fun h=>by obtain⟨v0,rfl,_⟩:=h;rfl
 mono:=fun{w w' cs x} h g=>by obtain⟨v0,e,h0,h1⟩:=h;exact⟨v0,e,h0,((cW rD)).mono h1 g⟩
 bH:=fun x=>cK.bH x.kind+((cW rD).bH x.points)
theorem WG:Reads Try.prog J2 42:=
 (zK (F:=fun _=>True) Try.underlying42 (c0:=cK) (c1:=(cW rD)) (by kernel_rfl) rfl rfl (by kernel_rfl) (by kernel_rfl) (hU Try.underlying3) V9).imp fun w cs a h=>by
  obtain⟨a0,a1⟩:=a
  obtain⟨h0,h1⟩:=h
  obtain⟨e0,b0⟩:=h0
  obtain⟨s1,e1⟩:=List.length_eq_one_iff.1 (((cW rD)).len h1);rw[e1]at h1
  have iK:=fk e0 e1
  exact⟨⟨a0,a1⟩,⟨s1,by rw[iK];rfl,b0,h1⟩,Nat.le_refl _⟩
def uy:bP lX where
 size:=3
 is:=fun w cs x=>cs=[.int .i64 x.low,.int .i64 x.high,.string x.name]∧aS x.low∧aS x.high∧x.name.size≤maxLen
 len:=fun h=>by obtain⟨rfl,_⟩:=h;rfl
 mono:=fun h _=>h
 bH:=fun x=>cK.bH x.low+(cK.bH x.high+(mZ.bH x.name))
theorem WK:Reads Try.prog uy 233:=
 (HY (F:=fun _=>True) Try.underlying233 (c0:=cK) (c1:=cK) (c2:=mZ) (by kernel_rfl) rfl rfl rfl (by kernel_rfl) (by kernel_rfl) (by kernel_rfl) (hU Try.underlying3) (hU Try.underlying3) (xR Try.underlying9)).imp fun w cs a h=>by
  obtain⟨a0,a1,a2⟩:=a
  obtain⟨h0,h1,h2⟩:=h
  obtain⟨e0,b0⟩:=h0
  obtain⟨e1,b1⟩:=h1
  obtain⟨e2,b2⟩:=h2
  have pJ:=fk e1 e2
  have iK:=fk e0 pJ
  exact⟨⟨a0,a1,a2⟩,⟨by rw[iK];rfl,b0,b1,b2⟩,Nat.le_refl _⟩
theorem Wb:Reads Try.prog (cW uy) 52:=ue Try.underlying52 (c:=uy) (by kernel_rfl) (by decide) WK
def ux:bP eu where
 size:=7
 is:=fun w cs x=>∃v0:Value,cs=[.string x.name,.int .i64 x.group,.int .i64 x.mq,.int .i64 x.lK,.int .i64 x.default,.bool x.snap,v0]∧x.name.size≤maxLen∧aS x.group∧aS x.mq∧aS x.lK∧aS x.default∧(cW uy).is w [v0] x.ranges
 len:=fun h=>by obtain⟨v0,rfl,_⟩:=h;rfl
 mono:=fun{w w' cs x} h g=>by obtain⟨v0,e,h0,h1,h2,h3,h4,h5⟩:=h;exact⟨v0,e,h0,h1,h2,h3,h4,((cW uy)).mono h5 g⟩
 bH:=fun x=>mZ.bH x.name+(cK.bH x.group+(cK.bH x.mq+(cK.bH x.lK+(cK.bH x.default+(pg.bH x.snap+((cW uy).bH x.ranges))))))
theorem WI:Reads Try.prog ux 54:=
 (VT (F:=fun _=>True) Try.underlying54 (c0:=mZ) (c1:=cK) (c2:=cK) (c3:=cK) (c4:=cK) (c5:=pg) (c6:=(cW uy)) (by kernel_rfl) rfl rfl rfl rfl rfl rfl rfl (by kernel_rfl) (by kernel_rfl) (by kernel_rfl) (by kernel_rfl) (by kernel_rfl) (by kernel_rfl) (by kernel_rfl) (xR Try.underlying9) (hU Try.underlying3) (hU Try.underlying3) (hU Try.underlying3) (hU Try.underlying3) (EV Try.underlying4) Wb).imp fun w cs a h=>by
  obtain⟨a0,a1,a2,a3,a4,a5,a6⟩:=a
  obtain⟨h0,h1,h2,h3,h4,h5,h6⟩:=h
  obtain⟨e0,b0⟩:=h0
  obtain⟨e1,b1⟩:=h1
  obtain⟨e2,b2⟩:=h2
  obtain⟨e3,b3⟩:=h3
  obtain⟨e4,b4⟩:=h4
  have e5:=h5;simp only[pg]at e5
  obtain⟨s6,e6⟩:=List.length_eq_one_iff.1 (((cW uy)).len h6);rw[e6]at h6
  have KV:=fk e5 e6
  have CC:=fk e4 KV
  have CB:=fk e3 CC
  have yB:=fk e2 CB
  have pJ:=fk e1 yB
  have iK:=fk e0 pJ
  exact⟨⟨a0,a1,a2,a3,a4,a5,a6⟩,⟨s6,by rw[iK];rfl,b0,b1,b2,b3,b4,h6⟩,Nat.le_refl _⟩
theorem V8:Reads Try.prog (cW ux) 121:=ue Try.underlying121 (c:=ux) (by kernel_rfl) (by decide) WI
def uj:bP bG where
 size:=3
 is:=fun w cs x=>∃v0:Value,cs=[.string x.name,.int .i64 x.size,v0]∧x.name.size≤maxLen∧aS x.size∧(cW ux).is w [v0] x.params
 len:=fun h=>by obtain⟨v0,rfl,_⟩:=h;rfl
 mono:=fun{w w' cs x} h g=>by obtain⟨v0,e,h0,h1,h2⟩:=h;exact⟨v0,e,h0,h1,((cW ux)).mono h2 g⟩
 bH:=fun x=>mZ.bH x.name+(cK.bH x.size+((cW ux).bH x.params))
theorem VP:Reads Try.prog uj 123:=
 (HY (F:=fun _=>True) Try.underlying123 (c0:=mZ) (c1:=cK) (c2:=(cW ux)) (by kernel_rfl) rfl rfl rfl (by kernel_rfl) (by kernel_rfl) (by kernel_rfl) (xR Try.underlying9) (hU Try.underlying3) V8).imp fun w cs a h=>by
  obtain⟨a0,a1,a2⟩:=a
  obtain⟨h0,h1,h2⟩:=h
  obtain⟨e0,b0⟩:=h0
  obtain⟨e1,b1⟩:=h1
  obtain⟨s2,e2⟩:=List.length_eq_one_iff.1 (((cW ux)).len h2);rw[e2]at h2
  have pJ:=fk e1 e2
  have iK:=fk e0 pJ
  exact⟨⟨a0,a1,a2⟩,⟨s2,by rw[iK];rfl,b0,b1,h2⟩,Nat.le_refl _⟩
theorem VB:Reads Try.prog (cW uj) 34:=ue Try.underlying34 (c:=uj) (by kernel_rfl) (by decide) VP
def uD:bP bE where
 size:=4
 is:=fun w cs x=>cs=[.int .i64 x.number,.string x.profile,.int .i64 x.univ,.int .i64 x.address]∧aS x.number∧x.profile.size≤maxLen∧aS x.univ∧aS x.address
 len:=fun h=>by obtain⟨rfl,_⟩:=h;rfl
 mono:=fun h _=>h
 bH:=fun x=>cK.bH x.number+(mZ.bH x.profile+(cK.bH x.univ+(cK.bH x.address)))
theorem Xz:Reads Try.prog uD 127:=
 (VR (F:=fun _=>True) Try.underlying127 (c0:=cK) (c1:=mZ) (c2:=cK) (c3:=cK) (by kernel_rfl) rfl rfl rfl rfl (by kernel_rfl) (by kernel_rfl) (by kernel_rfl) (by kernel_rfl) (hU Try.underlying3) (xR Try.underlying9) (hU Try.underlying3) (hU Try.underlying3)).imp fun w cs a h=>by
  obtain⟨a0,a1,a2,a3⟩:=a
  obtain⟨h0,h1,h2,h3⟩:=h
  obtain⟨e0,b0⟩:=h0
  obtain⟨e1,b1⟩:=h1
  obtain⟨e2,b2⟩:=h2
  obtain⟨e3,b3⟩:=h3
  have yB:=fk e2 e3
  have pJ:=fk e1 yB
  have iK:=fk e0 pJ
  exact⟨⟨a0,a1,a2,a3⟩,⟨by rw[iK];rfl,b0,b1,b2,b3⟩,Nat.le_refl _⟩
theorem WL:Reads Try.prog (cW uD) 35:=ue Try.underlying35 (c:=uD) (by kernel_rfl) (by decide) Xz
def S9:bP aV where
 size:=2
 is:=fun w cs x=>∃v0 v1:Value,cs=[v0,v1]∧(cW uj).is w [v0] x.bp∧(cW uD).is w [v1] x.units
 len:=fun h=>by obtain⟨v0,v1,rfl,_⟩:=h;rfl
 mono:=fun{w w' cs x} h g=>by obtain⟨v0,v1,e,h0,h1⟩:=h;exact⟨v0,v1,e,((cW uj)).mono h0 g,((cW uD)).mono h1 g⟩
 bH:=fun x=>(cW uj).bH x.bp+((cW uD).bH x.units)
theorem Yu:Reads Try.prog S9 37:=
 (zK (F:=fun _=>True) Try.underlying37 (c0:=(cW uj)) (c1:=(cW uD)) (by kernel_rfl) rfl rfl (by kernel_rfl) (by kernel_rfl) VB WL).imp fun w cs a h=>by
  obtain⟨a0,a1⟩:=a
  obtain⟨h0,h1⟩:=h
  obtain⟨s0,e0⟩:=List.length_eq_one_iff.1 (((cW uj)).len h0);rw[e0]at h0
  obtain⟨s1,e1⟩:=List.length_eq_one_iff.1 (((cW uD)).len h1);rw[e1]at h1
  have iK:=fk e0 e1
  exact⟨⟨a0,a1⟩,⟨s0,s1,by rw[iK];rfl,h0,h1⟩,Nat.le_refl _⟩
def CN:bP az where
 size:=2
 is:=fun w cs x=>cs=[.int .i64 x.unit,.string x.param]∧aS x.unit∧x.param.size≤maxLen
 len:=fun h=>by obtain⟨rfl,_⟩:=h;rfl
 mono:=fun h _=>h
 bH:=fun x=>cK.bH x.unit+(mZ.bH x.param)
theorem OP:Reads Try.prog CN 49:=
 (zK (F:=fun _=>True) Try.underlying49 (c0:=cK) (c1:=mZ) (by kernel_rfl) rfl rfl (by kernel_rfl) (by kernel_rfl) (hU Try.underlying3) (xR Try.underlying9)).imp fun w cs a h=>by
  obtain⟨a0,a1⟩:=a
  obtain⟨h0,h1⟩:=h
  obtain⟨e0,b0⟩:=h0
  obtain⟨e1,b1⟩:=h1
  have iK:=fk e0 e1
  exact⟨⟨a0,a1⟩,⟨by rw[iK];rfl,b0,b1⟩,Nat.le_refl _⟩
def um:bP bW where
 size:=3
 is:=fun w cs x=>cs=[.int .i64 x.key.unit,.string x.key.param,.int .i64 x.level]∧aS x.key.unit∧x.key.param.size≤maxLen∧aS x.level
 len:=fun h=>by obtain⟨rfl,_⟩:=h;rfl
 mono:=fun h _=>h
 bH:=fun x=>CN.bH x.key+(cK.bH x.level)
theorem VQ:Reads Try.prog um 51:=
 (zK (F:=fun _=>True) Try.underlying51 (c0:=CN) (c1:=cK) (by kernel_rfl) rfl rfl (by kernel_rfl) (by kernel_rfl) OP (hU Try.underlying3)).imp fun w cs a h=>by
  obtain⟨a0,a1⟩:=a
  obtain⟨h0,h1⟩:=h
  obtain⟨e0,b0⟩:=h0
  obtain⟨KN,KO⟩:=b0
  obtain⟨e1,b1⟩:=h1
  have iK:=fk e0 e1
  exact⟨⟨a0,a1⟩,⟨by rw[iK];rfl,KN,KO,b1⟩,Nat.le_refl _⟩
theorem VC:Reads Try.prog (cW um) 45:=ue Try.underlying45 (c:=um) (by kernel_rfl) (by decide) VQ
def FY:bP bJ where
 size:=3
 is:=fun w cs x=>∃v0:Value,cs=[.int .i64 x.number,.string x.title,v0]∧aS x.number∧x.title.size≤maxLen∧(cW um).is w [v0] x.jq
 len:=fun h=>by obtain⟨v0,rfl,_⟩:=h;rfl
 mono:=fun{w w' cs x} h g=>by obtain⟨v0,e,h0,h1,h2⟩:=h;exact⟨v0,e,h0,h1,((cW um)).mono h2 g⟩
 bH:=fun x=>cK.bH x.number+(mZ.bH x.title+((cW um).bH x.jq))
theorem Wa:Reads Try.prog FY 186:=
 (HY (F:=fun _=>True) Try.underlying186 (c0:=cK) (c1:=mZ) (c2:=(cW um)) (by kernel_rfl) rfl rfl rfl (by kernel_rfl) (by kernel_rfl) (by kernel_rfl) (hU Try.underlying3) (xR Try.underlying9) VC).imp fun w cs a h=>by
  obtain⟨a0,a1,a2⟩:=a
  obtain⟨h0,h1,h2⟩:=h
  obtain⟨e0,b0⟩:=h0
  obtain⟨e1,b1⟩:=h1
  obtain⟨s2,e2⟩:=List.length_eq_one_iff.1 (((cW um)).len h2);rw[e2]at h2
  have pJ:=fk e1 e2
  have iK:=fk e0 pJ
  exact⟨⟨a0,a1,a2⟩,⟨s2,by rw[iK];rfl,b0,b1,h2⟩,Nat.le_refl _⟩
theorem VO:Reads Try.prog (cW FY) 38:=ue Try.underlying38 (c:=FY) (by kernel_rfl) (by decide) Wa
def Kj:bP fN where
 size:=2
 is:=fun w cs x=>cs=[.int .i64 x.level,.int .i64 x.dV]∧aS x.level∧aS x.dV
 len:=fun h=>by obtain⟨rfl,_⟩:=h;rfl
 mono:=fun h _=>h
 bH:=fun x=>cK.bH x.level+(cK.bH x.dV)
theorem WM:Reads Try.prog Kj 64:=
 (zK (F:=fun _=>True) Try.underlying64 (c0:=cK) (c1:=cK) (by kernel_rfl) rfl rfl (by kernel_rfl) (by kernel_rfl) (hU Try.underlying3) (hU Try.underlying3)).imp fun w cs a h=>by
  obtain⟨a0,a1⟩:=a
  obtain⟨h0,h1⟩:=h
  obtain⟨e0,b0⟩:=h0
  obtain⟨e1,b1⟩:=h1
  have iK:=fk e0 e1
  exact⟨⟨a0,a1⟩,⟨by rw[iK];rfl,b0,b1⟩,Nat.le_refl _⟩
def uA:bP aM where
 size:=8
 is:=fun w cs x=>cs=[.int .i64 x.key.unit,.string x.key.param,.int .i64 x.value.level,.int .i64 x.value.dV,.bool x.release,.bool x.yw,.int .i64 x.delay,.int .i64 x.time]∧aS x.key.unit∧x.key.param.size≤maxLen∧aS x.value.level∧aS x.value.dV∧aS x.delay∧aS x.time
 len:=fun h=>by obtain⟨rfl,_⟩:=h;rfl
 mono:=fun h _=>h
 bH:=fun x=>CN.bH x.key+(Kj.bH x.value+(pg.bH x.release+(pg.bH x.yw+(cK.bH x.delay+(cK.bH x.time)))))
theorem Xy:Reads Try.prog uA 66:=
 (VS (F:=fun _=>True) Try.underlying66 (c0:=CN) (c1:=Kj) (c2:=pg) (c3:=pg) (c4:=cK) (c5:=cK) (by kernel_rfl) rfl rfl rfl rfl rfl rfl (by kernel_rfl) (by kernel_rfl) (by kernel_rfl) (by kernel_rfl) (by kernel_rfl) (by kernel_rfl) OP WM (EV Try.underlying4) (EV Try.underlying4) (hU Try.underlying3) (hU Try.underlying3)).imp fun w cs a h=>by
  obtain⟨a0,a1,a2,a3,a4,a5⟩:=a
  obtain⟨h0,h1,h2,h3,h4,h5⟩:=h
  obtain⟨e0,b0⟩:=h0
  obtain⟨KN,KO⟩:=b0
  obtain⟨e1,b1⟩:=h1
  obtain⟨acH,acI⟩:=b1
  have e2:=h2;simp only[pg]at e2
  have e3:=h3;simp only[pg]at e3
  obtain⟨e4,b4⟩:=h4
  obtain⟨e5,b5⟩:=h5
  have CC:=fk e4 e5
  have CB:=fk e3 CC
  have yB:=fk e2 CB
  have pJ:=fk e1 yB
  have iK:=fk e0 pJ
  exact⟨⟨a0,a1,a2,a3,a4,a5⟩,⟨by rw[iK];rfl,KN,KO,acH,acI,b4,b5⟩,Nat.le_refl _⟩
theorem WH:Reads Try.prog (cW uA) 31:=ue Try.underlying31 (c:=uA) (by kernel_rfl) (by decide) Xy
def Gy:bP aG where
 size:=11
 is:=fun w cs x=>∃v0 v1:Value,cs=[.int .i64 x.number,.string x.title,.int .i64 x.delay,.int .i64 x.up,.int .i64 x.down,.int .i64 x.other,.int .i64 x.fB.kind,v0,.bool x.block,.int .i64 x.follow,v1]∧aS x.number∧x.title.size≤maxLen∧aS x.delay∧aS x.up∧aS x.down∧aS x.other∧aS x.fB.kind∧(cW rD).is w [v0] x.fB.points∧aS x.follow∧(cW uA).is w [v1] x.aL
 len:=fun h=>by obtain⟨v0,v1,rfl,_⟩:=h;rfl
 mono:=fun{w w' cs x} h g=>by obtain⟨v0,v1,e,h0,h1,h2,h3,h4,h5,h6,h7,h8,h9⟩:=h;exact⟨v0,v1,e,h0,h1,h2,h3,h4,h5,h6,((cW rD)).mono h7 g,h8,((cW uA)).mono h9 g⟩
 bH:=fun x=>cK.bH x.number+(mZ.bH x.title+(cK.bH x.delay+(cK.bH x.up+(cK.bH x.down+(cK.bH x.other+(J2.bH x.fB+(pg.bH x.block+(cK.bH x.follow+((cW uA).bH x.aL)))))))))
theorem Yt:Reads Try.prog Gy 44:=
 (VD (F:=fun _=>True) Try.underlying44 (c0:=cK) (c1:=mZ) (c2:=cK) (c3:=cK) (c4:=cK) (c5:=cK) (c6:=J2) (c7:=pg) (c8:=cK) (c9:=(cW uA)) (by kernel_rfl) rfl rfl rfl rfl rfl rfl rfl rfl rfl rfl (by kernel_rfl) (by kernel_rfl) (by kernel_rfl) (by kernel_rfl) (by kernel_rfl) (by kernel_rfl) (by kernel_rfl) (by kernel_rfl) (by kernel_rfl) (by kernel_rfl) (hU Try.underlying3) (xR Try.underlying9) (hU Try.underlying3) (hU Try.underlying3) (hU Try.underlying3) (hU Try.underlying3) WG (EV Try.underlying4) (hU Try.underlying3) WH).imp fun w cs a h=>by
  obtain⟨a0,a1,a2,a3,a4,a5,a6,a7,a8,a9⟩:=a
  obtain⟨h0,h1,h2,h3,h4,h5,h6,h7,h8,h9⟩:=h
  obtain⟨e0,b0⟩:=h0
  obtain⟨e1,b1⟩:=h1
  obtain⟨e2,b2⟩:=h2
  obtain⟨e3,b3⟩:=h3
  obtain⟨e4,b4⟩:=h4
  obtain⟨e5,b5⟩:=h5
  obtain⟨adG,e6,b6⟩:=h6
  obtain⟨acJ,acK⟩:=b6
  have e7:=h7;simp only[pg]at e7
  obtain⟨e8,b8⟩:=h8
  obtain⟨s9,e9⟩:=List.length_eq_one_iff.1 (((cW uA)).len h9);rw[e9]at h9
  have ac4:=fk e8 e9
  have ac3:=fk e7 ac4
  have ac2:=fk e6 ac3
  have KV:=fk e5 ac2
  have CC:=fk e4 KV
  have CB:=fk e3 CC
  have yB:=fk e2 CB
  have pJ:=fk e1 yB
  have iK:=fk e0 pJ
  exact⟨⟨a0,a1,a2,a3,a4,a5,a6,a7,a8,a9⟩,⟨adG,s9,by rw[iK];rfl,b0,b1,b2,b3,b4,b5,acJ,acK,b8,h9⟩,Nat.le_refl _⟩
theorem Xx:Reads Try.prog (cW Gy) 22:=ue Try.underlying22 (c:=Gy) (by kernel_rfl) (by decide) Yt
end
section
open Go.RowKit Go.Deep
section
variable {c : RC}
theorem qZ:aC c [] []:=by simp [aC]
theorem dg {a:U} {v:Value} {l:List U} {vs:List Value} (h:ah c a v) (k:aC c l vs):aC c (a::l) (v::vs):=by
 simp only[aC];exact⟨v,vs,rfl,h,k⟩
theorem gV (k:IntKind) (n:Int):ah c (.int k n) (.int k n):=by simp [ah]
theorem FA (b:Bool):ah c (.bool b) (.bool b):=by simp [ah]
theorem vS (s:ByteArray):ah c (.str s) (.string s):=by simp [ah]
def RP {α:Type} (c:RC) (d:bP α) (e:α→List U) (ok:α→Prop):Prop:=∀cs x,d.is c.w cs x→aC c (e x) cs∧ok x∧(∀v∈cs,cu v=true)
theorem P4:∀{l:List U} {vs:List Value},aC c l vs→l.length=vs.length
 |[],vs,h=>by simp only[aC]at h;subst h;rfl
 |a::l,vs,h=>by
  simp only[aC]at h
  obtain⟨v,vs',rfl,_,h⟩:=h
  simp [P4 h]
theorem P0 {b:Nat}:∀{l:List U} {vs:List Value} {off:Nat},aC c l vs→(∀v∈vs,cu v=true)→(∀j,j<vs.length→c.w.cell? ⟨b,off+j,none⟩=vs[j]?)→aX c b off l
 |[],vs,off,h,_,_=>by simp [aX]
 |a::l,vs,off,h,ho,hc=>by
  simp only[aC]at h
  obtain⟨v,vs',rfl,h1,h2⟩:=h
  simp only[aX]
  refine⟨⟨v,by simpa using hc 0 (by simp),ho v (by simp),h1⟩,P0 h2 (fun v hv=>ho v (by simp [hv])) fun j hj=>?_⟩
  have:=hc (j+1) (by simpa using hj)
  rw[show off+1+j=off+(j+1) by omega]
  simpa using this
theorem P3 {α:Type} {d:bP α} {e:α→List U} {ok:α→Prop} (H:RP c d e ok) {b sz:Nat} (hsz:d.size=sz):∀{l:List α} {off:Nat},(∀(i:Nat) (x:α),l[i]? =some x→∃cs',(∀j,j<d.size→c.w.cell? ⟨b,off+(i*d.size+j),none⟩=cs'[j]?)∧d.is c.w cs' x)→bg c sz b off (l.map e)∧∀x∈l,ok x
 |[],off,h=>by simp [bg]
 |x::l,off,h=>by
  obtain⟨cs,h1,h2⟩:=h 0 x rfl
  obtain⟨k1,k2,k3⟩:=H cs x h2
  have hl:cs.length=d.size:=d.len h2
  obtain⟨r1,r2⟩:=P3 H hsz (l:=l) (off:=off+sz) (fun i y hy=>by
   obtain⟨cs',q1,q2⟩:=h (i+1) y (by simpa using hy)
   refine⟨cs',fun j hj=>?_,q2⟩
   have:=q1 j hj
   rw[←hsz]
   rwa[show off+d.size+(i*d.size+j)=off+((i+1)*d.size+j) by rw[Nat.succ_mul];omega])
  refine⟨?_,fun y hy=>?_⟩
  ·simp only[List.map_cons,bg]
   refine⟨by rw[P4 k1,hl,hsz],P0 k1 k3 fun j hj=>?_,r1⟩
   have:=h1 j (by rw[←hl];exact hj)
   simpa using this
  ·rcases List.mem_cons.1 hy with rfl|hy
   ·exact k2
   ·exact r2 y hy
theorem ZY {w:World} {b off:Nat} {v:Value} (h:w.cell? ⟨b,off,none⟩=some v):b<w.heap.size:=by
 rcases Nat.lt_or_ge b w.heap.size with k|k
 ·exact k
 ·simp [World.cell?,Array.getElem?_eq_none k]at h
theorem uk {α:Type} {d:bP α} {e:α→List U} {ok:α→Prop} (hX:∀b,¬c.X b) (H:RP c d e ok) {sz:Nat} (hsz:d.size=sz) (h0:0<sz) {v:Value} {l:List α} (h:(cW d).is c.w [v] l):ah c (sl sz e l) v∧cB ok l∧cu v=true:=by
 rcases h with⟨h1,rfl⟩|⟨b,off,sp,cap,h1,h2,h3,h4⟩
 ·simp only[List.cons.injEq,and_true]at h1
  subst h1
  exact⟨by simp [sl,ah,h0],⟨by simp,by simp⟩,rfl⟩
 ·simp only[List.cons.injEq,and_true]at h1
  subst h1
  have pV:sp=none∨l=[]:=by
   cases l with
   |nil=>exact .inr rfl
   |cons x l=>exact .inl (h4 0 (by simp)).1
  have hh:∀(i:Nat) (x:α),l[i]? =some x→∃cs',(∀j,j<d.size→c.w.cell? ⟨b,off+(i*d.size+j),none⟩=cs'[j]?)∧d.is c.w cs' x:=by
   intro i x hx
   obtain⟨hi,hx⟩:=List.getElem?_eq_some_iff.1 hx
   subst hx
   exact(h4 i hi).2
  obtain⟨r1,r2⟩:=P3 H hsz hh
  refine⟨?_,⟨by unfold maxLen at h3;unfold br;omega,r2⟩,rfl⟩
  simp only[sl,ah]
  refine⟨some ⟨b,off,sp⟩,cap,by simp,by simpa using h2,h0,?_⟩
  rcases pV with rfl|rfl
  ·cases l with
   |nil=>exact .inl rfl
   |cons x l=>
    refine .inr ⟨b,off,rfl,?_,hX b,r1⟩
    obtain⟨cs,q1,q2⟩:=hh 0 x rfl
    have hl:cs.length=d.size:=d.len q2
    have:=q1 0 (by omega)
    obtain⟨y,hy⟩:∃y,cs[0]? =some y:=⟨cs[0],List.getElem?_eq_getElem (by omega)⟩
    rw[hy]at this
    exact ZY this
  ·exact .inl rfl
theorem sS:∀v∈([]:List Value),cu v=true:=by simp
theorem dL {v:Value} {vs:List Value} (h:cu v=true) (k:∀x∈vs,cu x=true):∀x∈v::vs,cu x=true:=by
 intro x hx
 rcases List.mem_cons.1 hx with rfl|hx
 ·exact h
 ·exact k x hx
theorem ZE:RP c rD eS QO:=by
 rintro cs x ⟨rfl,h0,h1⟩
 exact⟨(dg (gV _ _) (dg (gV _ _) qZ)),⟨h0,h1⟩,(dL rfl (dL rfl sS))⟩
theorem ZF:RP c uy lE JT:=by
 rintro cs x ⟨rfl,h0,h1,h2⟩
 exact⟨(dg (gV _ _) (dg (gV _ _) (dg (vS _) qZ))),⟨h0,h1,(show fK _ by unfold fK br;have:=h2;unfold maxLen at this;omega)⟩,(dL rfl (dL rfl (dL rfl sS)))⟩
theorem ZD (hX:∀b,¬c.X b):RP c ux eA QN:=by
 rintro cs x ⟨v0,rfl,h0,h1,h2,h3,h4,h6⟩
 obtain⟨r6,o6,n6⟩:=uk hX ZF (sz:=3) rfl (by decide) h6
 exact⟨(dg (vS _) (dg (gV _ _) (dg (gV _ _) (dg (gV _ _) (dg (gV _ _) (dg (FA _) (dg r6 qZ))))))),⟨(show fK _ by unfold fK br;have:=h0;unfold maxLen at this;omega),h1,h2,h3,h4,o6⟩,(dL rfl (dL rfl (dL rfl (dL rfl (dL rfl (dL rfl (dL n6 sS)))))))⟩
theorem XB (hX:∀b,¬c.X b):RP c uj ct BM:=by
 rintro cs x ⟨v0,rfl,h0,h1,h2⟩
 obtain⟨r2,o2,n2⟩:=uk hX (ZD hX) (sz:=7) rfl (by decide) h2
 exact⟨(dg (vS _) (dg (gV _ _) (dg r2 qZ))),⟨(show fK _ by unfold fK br;have:=h0;unfold maxLen at this;omega),h1,o2⟩,(dL rfl (dL rfl (dL n2 sS)))⟩
theorem aa3:RP c uD bX RE:=by
 rintro cs x ⟨rfl,h0,h1,h2,h3⟩
 exact⟨(dg (gV _ _) (dg (vS _) (dg (gV _ _) (dg (gV _ _) qZ)))),⟨h0,(show fK _ by unfold fK br;have:=h1;unfold maxLen at this;omega),h2,h3⟩,(dL rfl (dL rfl (dL rfl (dL rfl sS))))⟩
theorem abO (hX:∀b,¬c.X b):RP c S9 bh gK:=by
 rintro cs x ⟨v0,v1,rfl,h0,h1⟩
 obtain⟨r0,o0,n0⟩:=uk hX (XB hX) (sz:=3) rfl (by decide) h0
 obtain⟨r1,o1,n1⟩:=uk hX aa3 (sz:=4) rfl (by decide) h1
 exact⟨(dg r0 (dg r1 qZ)),⟨o0,o1⟩,(dL n0 (dL n1 sS))⟩
theorem XC:RP c um ck OL:=by
 rintro cs x ⟨rfl,h0,h1,h2⟩
 exact⟨(dg (gV _ _) (dg (vS _) (dg (gV _ _) qZ))),⟨⟨h0,(show fK _ by unfold fK br;have:=h1;unfold maxLen at this;omega)⟩,h2⟩,(dL rfl (dL rfl (dL rfl sS)))⟩
theorem Yw (hX:∀b,¬c.X b):RP c FY gh nX:=by
 rintro cs x ⟨v0,rfl,h0,h1,h2⟩
 obtain⟨r2,o2,n2⟩:=uk hX XC (sz:=3) rfl (by decide) h2
 exact⟨(dg (gV _ _) (dg (vS _) (dg r2 qZ))),⟨h0,(show fK _ by unfold fK br;have:=h1;unfold maxLen at this;omega),o2⟩,(dL rfl (dL rfl (dL n2 sS)))⟩
theorem aa2:RP c uA aK rC:=by
 rintro cs x ⟨rfl,h0,h1,h2,h3,h6,h7⟩
 exact⟨(dg (gV _ _) (dg (vS _) (dg (gV _ _) (dg (gV _ _) (dg (FA _) (dg (FA _) (dg (gV _ _) (dg (gV _ _) qZ)))))))),⟨⟨h0,(show fK _ by unfold fK br;have:=h1;unfold maxLen at this;omega)⟩,⟨h2,h3⟩,h6,h7⟩,(dL rfl (dL rfl (dL rfl (dL rfl (dL rfl (dL rfl (dL rfl (dL rfl sS))))))))⟩
theorem abN (hX:∀b,¬c.X b):RP c Gy aQ mP:=by
 rintro cs x ⟨v0,v1,rfl,h0,h1,h2,h3,h4,h5,h6,h7,h9,Da⟩
 obtain⟨r7,o7,n7⟩:=uk hX ZE (sz:=2) rfl (by decide) h7
 obtain⟨fF,o10,n10⟩:=uk hX aa2 (sz:=8) rfl (by decide) Da
 exact⟨(dg (gV _ _) (dg (vS _) (dg (gV _ _) (dg (gV _ _) (dg (gV _ _) (dg (gV _ _) (dg (gV _ _) (dg r7 (dg (FA _) (dg (gV _ _) (dg fF qZ))))))))))),⟨h0,(show fK _ by unfold fK br;have:=h1;unfold maxLen at this;omega),h2,h3,h4,h5,⟨h6,o7⟩,h9,o10⟩,(dL rfl (dL rfl (dL rfl (dL rfl (dL rfl (dL rfl (dL rfl (dL n7 (dL rfl (dL rfl (dL n10 sS)))))))))))⟩
theorem abP {α:Type} {d:bP α} {e:α→List U} {ok:α→Prop} (H:RP c d e ok) {cs:Array Value} {x:α} (h:d.is c.w cs.toList x):ah c (.agg (e x)) (.agg cs)∧ok x:=by
 obtain⟨h1,h2,h3⟩:=H _ _ h
 simp only[ah]
 exact⟨⟨cs,rfl,h1,h3⟩,h2⟩
end
end
section
open Go.RowKit
noncomputable def base (W:World):RC:=ctx ⟨W,[],fun _=>False,aJ⟩ W [] bY
theorem Cf (W:World):∀b,¬(base W).X b:=by
 rintro b (k|⟨p,hp,_⟩|⟨i,k⟩)
 ·exact k
 ·cases hp
 ·cases k
theorem aar {n:FuncId} {m:List U→Heap→Option (U×Heap)} {kC:List U} (hs:Sound Try.prog aJ n m) (hc:∀us w,(callFunc n us).run Try.prog w=.ok (.enter n us) w) (W:World) (vs:Array Value) (hr:aC (base W) kC vs.toList) (hm:m kC []=some (.bool true,[])):
  Calls Try.prog n vs W fun e W'=>e=.returned (.bool true)∧Below W.heap.size W W':=by
 have hh0:fq (ctx ⟨W,[],fun _=>False,aJ⟩ W [] bY) []:=by
  refine⟨rfl,fun i j p q hp=>?_,fun i p x hp=>?_⟩
  ·simp [ctx]at hp
  ·simp [ctx]at hp
 rcases hs _ _ _ _ hm with⟨g,h1,h2⟩|hv
 case inr=>
  obtain⟨v,w',E',k1,_⟩:=hv ⟨W,[],fun _=>False,aJ⟩ vs rfl (fun b k=>k.elim) hh0 hr
  rw[hc]at k1
  injection k1 with k1
  cases k1
 have hg:g=n:=by
  have e1:=h1 #[] W
  rw[hc #[] W]at e1
  injection e1 with e1
  injection e1 with e1
  exact e1.symm
 subst hg
 have hh:fq (ctx ⟨W,[],fun _=>False,aJ⟩ W [] bY) []:=by
  refine⟨rfl,fun i j p q hp=>?_,fun i p x hp=>?_⟩
  ·simp [ctx]at hp
  ·simp [ctx]at hp
 refine(h2 ⟨W,[],fun _=>False,aJ⟩ vs rfl (fun b k=>k.elim) hh hr).mono ?_
 rintro e w' ⟨v,E',rfl,ho,_,hv⟩
 simp only[ah]at hv
 subst hv
 exact⟨rfl,ho.os,ho.tape,ho.output,ho.size,fun k hk=>ho.stay k hk (fun p hp=>by cases hp)⟩
end
end Go.Proofs.Ytphgchakmkankaa
