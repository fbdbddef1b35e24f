/- Parts of the proof of CueMarksAreNotSeen, in order. -/
import Derived.Orders
import Derived.Below
import Derived.WalkKit
import Derived.Laws.StructEq
import Derived.Laws.Append
import Derived.Laws.AppendOwn
import Derived.Test.YtphgchakmkankaaRows
import Derived.KernelRfl
import Derived.Lib.Bytealg
import Derived.Sort.Defs
import Derived.Lib.BitFns
import Derived.Test.YtphgchakmkankaaShelf
import Derived.Lib.Overlaps
import Derived.IntWalk
import Derived.Lib.Strings
import Derived.Sort.Statements
import Derived.Sort.AssemblyPlain
import Derived.Test.YtphgchakmkankaaKCueMarksAreNotSeen3
namespace Go.Proofs.Ytphgchakmkankaa
set_option linter.unusedVariables false
set_option linter.unusedSimpArgs false
set_option linter.unusedSectionVars false
def RV:eu:=⟨⟨#[]⟩,0,0,0,0,false,[]⟩
def oW (p:bG) (nm:ByteArray):eu×Bool:=(p.params.find? fun x=>decide (x.name=nm)).elim (RV,false) fun x=>(x,true)
def ko (r:aV) (k:az):eu×Bool:=(r.units.find? fun u=>decide (u.number=k.unit)).elim (RV,false) fun u=>oW (dD u.profile r.bp).1 k.param
theorem ZL (r:aV) (hl:r.units.length≤br) (n:Int) (σ:Heap):IZ [.agg (bh r),.int .i64 n] σ=some (.int .i64 (kP (fun u:bE=>decide (u.number=n)) r.units),σ):=by
 refine wrap_eq rfl ?_ rfl
 show I5 (.agg (bh r)) (.int .i64 n) σ=_
 unfold I5
 simp only[aI,reduceCtorEq,oP,oQ,oU,oT,oV]
 refine(Zl r.units (fun u=>decide (u.number=n)) (fun i=>[.int .i64 0,.int .i64 (i:Int)]) σ (.exit 0,[.int .i64 0,.int .i64 (r.units.length:Int)],σ) (fun i=>(.ret,[.int .i64 (i:Int),.int .i64 (i:Int)],σ)) (some (U.int .i64 (-1),σ)) (fun i=>some (U.int .i64 i,σ)) ?_ ?_ ?_ ?_).trans ?_
 ·intro i x hx
  obtain⟨g1,g2,g3⟩:=Ft 4 bX hx
  have g3:=g3 hl
  simp only[aI,reduceCtorEq,lp,lq,lu,lz,kg,kf,kj,g1,g2,g3]
  repeat' ((first|rw[qG]|rw[qF]|rw[qD]|rw[qw]|rw[qC]|rw[qB]);split<;>try simp only[aI,reduceCtorEq, *])
 ·exact vL _ _ _
 ·simp only[aI,reduceCtorEq]
 ·intro i;simp only[aI,reduceCtorEq]
 ·split
  ·rename_i h;rw[h]
  ·rfl
theorem Yq (p:bG) (hl:p.params.length≤br) (nm:ByteArray) (σ:Heap):II [.agg (ct p),.str nm] σ=some (.aA [.agg (eA (oW p nm).1),.bool (oW p nm).2],σ):=by
 have key:∃w,IP (.agg (ct p)) (.str nm) σ=some (w,σ)∧A.nn (.t [(.a yx),.k]) w=.aA [.agg (eA (oW p nm).1),.bool (oW p nm).2]:=by
  refine⟨(p.params.find? fun x=>decide (x.name=nm)).elim (.aA [.agg [.str ⟨#[]⟩,.int .i64 0,.int .i64 0,.int .i64 0,.int .i64 0,.bool false,.aB],.bool false]) (fun x=>.aA [.agg (eA x),.bool true]),?_,?_⟩
  ·unfold IP
   simp only[aI,reduceCtorEq,jT,jU,jV,jX,jW,jY]
   refine(OH p.params (fun x=>decide (x.name=nm)) (fun i=>[.lbx [.str ⟨#[]⟩,.int .i64 0,.int .i64 0,.int .i64 0,.int .i64 0,.bool false,.aB],.bool false,.int .i64 (i:Int)]) σ (.exit 0,[.lbx [.str ⟨#[]⟩,.int .i64 0,.int .i64 0,.int .i64 0,.int .i64 0,.bool false,.aB],.bool false,.int .i64 (p.params.length:Int)],σ) (fun i x=>(.ret,[.lbx (eA x),.bool true,.int .i64 (i:Int)],σ))
    (some (U.aA [.agg [.str ⟨#[]⟩,.int .i64 0,.int .i64 0,.int .i64 0,.int .i64 0,.bool false,.aB],.bool false],σ)) (fun x=>some (U.aA [.agg (eA x),.bool true],σ)) ?_ ?_ ?_ ?_).trans ?_
   ·intro i x hx
    obtain⟨g1,g2,g3⟩:=Ft 7 eA hx
    have g3:=g3 hl
    simp only[aI,reduceCtorEq,xE,xF,xG,xH,xI,xJ,xK,vK,vI,qX,g1,g2,g3]
    repeat' ((first|rw[qG]|rw[qF]|rw[qD]|rw[qw]|rw[qC]|rw[qB]);split<;>try simp only[aI,reduceCtorEq,xE,xF,xG,xH,xI,xJ,xK,vK,vI,qX, *])
    all_goals first|with_reducible rfl|(simp [*];done)|(simp_all;done)|(simp_all;omega)|rfl
   ·exact vL _ _ _
   ·simp only[aI,reduceCtorEq];rfl
   ·intro i x;simp only[aI,reduceCtorEq,xE,xF,xG,xH,xI,xJ,xK,vK,vI,qX]
   ·cases p.params.find? fun x=>decide (x.name=nm)<;>rfl
  ·unfold oW
   cases p.params.find? fun x=>decide (x.name=nm)<;>rfl
 obtain⟨w,h1,h2⟩:=key
 exact wrap_eq rfl h1 h2
theorem Yr {l:List bG} (h:∀x∈l,BM x) (nm:ByteArray):(dD nm l).1.params.length≤br:=by
 rw[sJ]
 cases hf:l.find? (fun x:bG=>decide (x.name=nm))with
 |none=>exact Nat.zero_le _
 |some p=>exact(h p (List.mem_of_find?_eq_some hf)).2.2.1
theorem Nt (r:aV) (hok:gK r) (k:az) (σ:Heap):Ey [.agg (bh r),.agg (aH k)] σ=some (.aA [.agg (eA (ko r k).1),.bool (ko r k).2],σ):=by
 have key:∃w,Ib (.agg (bh r)) (.agg (aH k)) σ=some (w,σ)∧A.nn (.t [(.a yx),.k]) w=.aA [.agg (eA (ko r k).1),.bool (ko r k).2]:=by
  unfold Ib ko
  simp only[aI,reduceCtorEq,oP,oQ,oU,oT,oV,I3,I4,FV,JE,yc,ZL r hok.2.1]
  rcases xM (fun u:bE=>decide (u.number=k.unit)) r.units with⟨h1,_,h3⟩|⟨j,x,h1,h2,h3,h4,_⟩
  ·refine⟨.aA [.agg [.str ⟨#[]⟩,.int .i64 0,.int .i64 0,.int .i64 0,.int .i64 0,.bool false,.aB],.bool false],?_,?_⟩
   ·rw[h1]
    simp only[aI,reduceCtorEq,show((-1:Int)<0)from by decide]
    rfl
   ·rw[h3];rfl
  ·refine⟨.aA [.agg (eA (oW (dD x.profile r.bp).1 k.param).1),.bool (oW (dD x.profile r.bp).1 k.param).2],?_,?_⟩
   ·rw[h3]
    simp only[aI,reduceCtorEq,oP,oQ,oU,oT,oV,I3,I4,FV,JE,yc,lp,lq,lu,lz,kg,kf,kj,jT,jU,jV,jX,jW,jY,xE,xF,xG,xH,xI,xJ,xK,vK,vI,qX,show ¬((j:Int)<0)from by omega,iS 4 bX r.units h1,Wq _ hok.1.1,Yq _ (Yr hok.1.2 x.profile)]
   ·rw[h4];rfl
 obtain⟨w,h1,h2⟩:=key
 exact wrap_eq rfl h1 h2
section
set_option maxRecDepth 100000
noncomputable def Im (a0:Int):Option Bool:=
 some (aZ a0 0 36000000)
theorem zN {a0:Int} {σ:Heap} {r:Bool} (h:Im a0=some r):vD [(U.int .i64 a0)] σ=some ((U.bool r),σ):=by
 refine B2 (f:=Ig) (y0:=(U.int .i64 a0)) (enc:=fun r:Bool=>(U.bool r)) (T:=Im a0) rfl rfl ?_ r h
 unfold Ig Im
 refine an _ (j0 a0 0 36000000 σ) ?_
 exact fu _ (cV _ _) ⟨rfl,rfl⟩
noncomputable def xB (a0:az) (a1:az):Option Int:=
 if ¬(a0.unit=a1.unit)then
  if a0.unit<a1.unit then
   some (-1)
  else
  some 1
 else
 some (Lib.compareBytes a0.param.data.toList a1.param.data.toList)
theorem M4 {a0:az} {a1:az} {σ:Heap} {r:Int} (h:xB a0 a1=some r):Eu [(U.agg (aH a0)),(U.agg (aH a1))] σ=some ((U.int .i64 r),σ):=by
 refine xW (f:=HU) (y0:=(U.agg (aH a0))) (y1:=(U.agg (aH a1))) (enc:=fun r:Int=>(U.int .i64 r)) (T:=xB a0 a1) rfl rfl ?_ r h
 unfold HU xB
 refine an _ rfl<|an _ rfl<|an _ rfl<|an _ rfl<|an _ (iM _ _ _) ?_
 refine mW (p:=¬(a0.unit=a1.unit)) (fun c2=>?_) (fun c2=>?_)
 ·refine an _ rfl<|an _ rfl<|an _ rfl ?_
  refine mW (p:=a0.unit<a1.unit) (fun c1=>?_) (fun c1=>?_)
  ·exact fu _ (cV _ _) ⟨rfl,rfl⟩
  exact fu _ (cV _ _) ⟨rfl,rfl⟩
 refine an _ rfl<|an _ rfl<|an _ rfl ?_
 exact fu _ (cV _ _) ⟨rfl,rfl⟩
noncomputable def zI (a0:(List aM)):Option Int:=
 iL a0 (fun(i8:Nat) e7 (s1:Unit)=>(show Option (Lr Unit Unit Int)from
   if(!(aZ e7.key.unit 1 9999))=true then
    some (.ret 1)
   else
   (tq (fK e7.key.param) (qq e7.key.param)).bind fun r9=>
   if(!r9)=true then
    some (.ret 5)
   else
   if((e7.release&&(decide (¬(e7.value=(⟨0,0⟩:fN)))))||((decide (¬(e7.value.level=0)))&&(decide (¬(e7.value.dV=0)))))=true then
    some (.ret 3)
   else
   if((!(aZ e7.value.level 0 65535))||(!(aZ e7.value.dV 0 999)))=true then
    some (.ret 1)
   else
   if((!e7.yw)&&((decide (¬(e7.delay=0)))||(decide (¬(e7.time=0)))))=true then
    some (.ret 3)
   else
   if((!((aZ e7.delay 0 36000000)))||(!((aZ e7.time 0 36000000))))=true then
    some (.ret 1)
   else
   (if decide (0<(i8:Int))=true then p6 a0 (IntKind.i64.wrap ((i8:Int) -1))else some default).bind fun bu=>
   (if decide (0<(i8:Int))=true then xB bu.key e7.key else some default).bind fun cg=>
   if((decide (0<(i8:Int)))&&(decide (0≤cg)))=true then
    some (.ret 7)
   else
   some (.go ()))) (fun s1=>some ()) () (fun b2=>
  some 0) (fun b2=>
  some b2)
theorem Vi {a0:(List aM)} {σ:Heap} {r:Int} (h:zI a0=some r):HG [(sl 8 aK a0)] σ=some ((U.int .i64 r),σ):=by
 refine B2 (f:=HH) (y0:=(sl 8 aK a0)) (enc:=fun r:Int=>(U.int .i64 r)) (T:=zI a0) rfl rfl ?_ r h
 unfold HH zI
 refine an _ (dU _ _ _) ?_
 refine lZ (B:=Unit) (R:=Int) (fun(i8:Nat) (s1:Unit) v w3=>v=[aj,(U.int .i64 (i8:Int))]∧σ=w3) (fun(b2:Unit) (q:LS)=>∃u2 u7,q=((AX.exit 0),([u2,u7]:List U),σ)) (fun(b2:Int) (q:LS)=>∃u7,q=(AX.ret,([(U.int .i64 b2),u7]:List U),σ)) ?_ ?_ ⟨rfl,rfl⟩ ?_ ?_
 ·intro yD i8 e7 s1 v w3 nR hI
  obtain⟨rfl,rfl⟩:=hI
  refine an _ (iq nR)<|mg<|an _ (fW nR)<|an _ rfl<|an _ rfl<|an _ (xX _ _ rfl)<|an _ rfl<|an _ (j0 e7.key.unit 1 9999 σ)<|an _ rfl ?_
  refine iJ (c:=(!(aZ e7.key.unit 1 9999))) (fun eP=>?_) (fun eP=>?_)
  ·exact bK (fT (by simp) ⟨_,rfl⟩)
  refine an _ rfl ?_
  refine jA (fun r9:Bool=>((U.bool r9),σ)) (fun r9 Ds=>(oh (e:=fun r:Bool=>((U.bool r),σ)) (fun hs=>FF e7.key.param hs σ)) Ds) (fun r9 Ds=>?_)
  refine an _ rfl ?_
  refine iJ (c:=(!r9)) (fun kS=>?_) (fun kS=>?_)
  ·exact bK (fT (by simp) ⟨_,rfl⟩)
  refine an _ rfl<|dF (U.agg (qn e7.value)) (fun hg=>rfl)<|dF (U.agg (qn (⟨0,0⟩:fN))) (fun hg=>rfl)<|dF (U.bool (decide (¬(e7.value=(⟨0,0⟩:fN))))) (fun hg=>by(try rw[hg]);exact(Zs _ _))<|an _ (qo _ _)<|gn (U.int .i64 e7.value.level) (fun hg=>rfl)<|gn (U.bool (decide (¬(e7.value.level=0)))) (fun hg=>by(try rw[hg]);exact(iM _ _ _))<|gn (U.bool (decide (¬(e7.value.level=0)))) (fun hg=>by(try rw[hg]);exact rfl)<|RL (U.int .i64 e7.value.dV) (fun hg=>rfl)<|RL (U.bool (decide (¬(e7.value.dV=0)))) (fun hg=>by(try rw[hg]);exact(iM _ _ _))<|gn (U.bool ((decide (¬(e7.value.level=0)))&&(decide (¬(e7.value.dV=0))))) (fun hg=>by(try rw[hg]);exact(qo _ _))<|an _ (rK _ _) ?_
  refine iJ (c:=((e7.release&&(decide (¬(e7.value=(⟨0,0⟩:fN)))))||((decide (¬(e7.value.level=0)))&&(decide (¬(e7.value.dV=0)))))) (fun rT=>?_) (fun rT=>?_)
  ·exact bK (fT (by simp) ⟨_,rfl⟩)
  refine an _ rfl<|an _ (j0 e7.value.level 0 65535 σ)<|an _ rfl<|gn (U.int .i64 e7.value.dV) (fun hg=>rfl)<|gn (U.bool (aZ e7.value.dV 0 999)) (fun hg=>by(try rw[hg]);exact(quiet_of (j0 e7.value.dV 0 999 σ)))<|gn (U.bool (!(aZ e7.value.dV 0 999))) (fun hg=>by(try rw[hg]);exact rfl)<|an _ (rK _ _) ?_
  refine iJ (c:=((!(aZ e7.value.level 0 65535))||(!(aZ e7.value.dV 0 999)))) (fun iz=>?_) (fun iz=>?_)
  ·exact bK (fT (by simp) ⟨_,rfl⟩)
  refine an _ rfl<|an _ rfl<|dF (U.int .i64 e7.delay) (fun hg=>rfl)<|dF (U.bool (decide (¬(e7.delay=0)))) (fun hg=>by(try rw[hg]);exact(iM _ _ _))<|dF (U.bool (decide (¬(e7.delay=0)))) (fun hg=>by(try rw[hg]);exact rfl)<|Cm (U.int .i64 e7.time) (fun hg=>rfl)<|Cm (U.bool (decide (¬(e7.time=0)))) (fun hg=>by(try rw[hg]);exact(iM _ _ _))<|dF (U.bool ((decide (¬(e7.delay=0)))||(decide (¬(e7.time=0))))) (fun hg=>by(try rw[hg]);exact(rK _ _))<|an _ (qo _ _) ?_
  refine iJ (c:=((!e7.yw)&&((decide (¬(e7.delay=0)))||(decide (¬(e7.time=0)))))) (fun jC=>?_) (fun jC=>?_)
  ·exact bK (fT (by simp) ⟨_,rfl⟩)
  refine an _ rfl<|an _ (zN (σ:=σ) (r:=(aZ e7.delay 0 36000000)) rfl)<|an _ rfl<|gn (U.int .i64 e7.time) (fun hg=>rfl)<|gn (U.bool ((aZ e7.time 0 36000000))) (fun hg=>by(try rw[hg]);exact(quiet_of (zN (σ:=σ) (r:=(aZ e7.time 0 36000000)) rfl)))<|gn (U.bool (!((aZ e7.time 0 36000000)))) (fun hg=>by(try rw[hg]);exact rfl)<|an _ (rK _ _) ?_
  refine iJ (c:=((!((aZ e7.delay 0 36000000)))||(!((aZ e7.time 0 36000000))))) (fun uT=>?_) (fun uT=>?_)
  ·exact bK (fT (by simp) ⟨_,rfl⟩)
  refine an _ rfl<|dF (sl 8 aK a0) (fun hg=>rfl)<|dF (U.int .i64 (i8:Int)) (fun hg=>rfl)<|dF (U.int .i64 (IntKind.i64.wrap ((i8:Int) -1))) (fun hg=>by(try rw[hg]);exact rfl) ?_
  refine yl (ω:=aM) (fun bu=>(U.rp (aK bu))) (fun hg bu S0=>by(try rw[hg]);exact yu S0) (fun bu S0=>?_)
  refine dF (U.rp (aK bu)) (fun hg=>by(try rw[hg]);exact rfl)<|dF (U.agg (aH bu.key)) (fun hg=>by(try rw[hg]);exact rfl)<|dF (U.agg (aH e7.key)) (fun hg=>rfl) ?_
  refine yl (ω:=Int) (fun cg=>(U.int .i64 cg)) (fun hg cg wT=>by(try rw[hg]);exact(quiet_of (M4 wT))) (fun cg wT=>?_)
  refine dF (U.bool (decide (0≤cg))) (fun hg=>by(try rw[hg]);exact rfl)<|an _ (qo _ _) ?_
  refine iJ (c:=((decide (0<(i8:Int)))&&(decide (0≤cg)))) (fun cU=>?_) (fun cU=>?_)
  ·exact bK (fT (by simp) ⟨_,rfl⟩)
  refine an _ (fZ nR yD) ?_
  exact bK (l5 ⟨rfl,rfl⟩)
 ·intro hl s1 v w3 hI
  obtain⟨rfl,rfl⟩:=hI
  refine an _ (ia _)<|me ?_
  exact bK ⟨by simp,⟨_,_,rfl⟩⟩
 ·intro hl b2 q hq
  obtain⟨u2,u7,rfl⟩:=hq
  refine gL rfl ?_
  exact fu _ (cV _ _) ⟨rfl,rfl⟩
 ·intro hl b2 q hq
  obtain⟨u7,rfl⟩:=hq
  refine rM rfl<|gL rfl ?_
  exact fu _ (cV _ _) ⟨rfl,rfl⟩
noncomputable def zT (a0:(List aG)):Option Int:=
 if 300<(a0.length:Int)then
  some 2
 else
 iL a0 (fun(i8:Nat) e7 (s1:Int)=>(show Option (Lr Int Int Int)from
   if(!(aZ e7.number 1 9999999))=true then
    some (.ret 1)
   else
   (if decide (0<(i8:Int))=true then p6 a0 (IntKind.i64.wrap ((i8:Int) -1))else some default).bind fun x9=>
   if((decide (0<(i8:Int)))&&(decide (e7.number≤x9.number)))=true then
    some (.ret 7)
   else
   (if decide (¬(e7.title=(⟨#[]⟩:ByteArray)))=true then tq (fK e7.title) (Co e7.title)else some default).bind fun fF=>
   if((decide (¬(e7.title=(⟨#[]⟩:ByteArray))))&&(!fF))=true then
    some (.ret 3)
   else
   if(((((!((aZ e7.delay 0 36000000)))||(!((aZ e7.up 0 36000000))))||(!((aZ e7.down 0 36000000))))||(!((aZ e7.other 0 36000000))))||(!(aZ e7.follow (-1) 36000000)))=true then
    some (.ret 1)
   else
   if ¬((ur e7.fB)=0)then
    some (.ret (ur e7.fB))
   else
   if 2000<(e7.aL.length:Int)then
    some (.ret 2)
   else
   (zI e7.aL).bind fun cg=>
   if ¬(cg=0)then
    some (.ret cg)
   else
   some (.go (IntKind.i64.wrap (s1+(e7.aL.length:Int)))))) (fun s1=>some s1) 0 (fun b2=>
  some (if(decide (10000<b2))=true then 2 else 0)) (fun b2=>
  some b2)
theorem NY {a0:(List aG)} {σ:Heap} {r:Int} (h:zT a0=some r):zS [(sl 11 aQ a0)] σ=some ((U.int .i64 r),σ):=by
 refine B2 (f:=IQ) (y0:=(sl 11 aQ a0)) (enc:=fun r:Int=>(U.int .i64 r)) (T:=zT a0) (bU (gM (fun _=>rfl) _) rfl) rfl ?_ r h
 unfold IQ zT
 refine an _ (dU _ _ _)<|an _ rfl ?_
 refine mW (p:=300<(a0.length:Int)) (fun kT=>?_) (fun kT=>?_)
 ·exact fu _ (cV _ _) ⟨rfl,rfl⟩
 refine an _ (dU _ _ _) ?_
 refine lZ (B:=Int) (R:=Int) (fun(i8:Nat) (s1:Int) v w3=>v=[aj,(U.int .i64 s1),(U.int .i64 (i8:Int))]∧σ=w3) (fun(b2:Int) (q:LS)=>∃u2 sC,q=((AX.exit 0),([u2,(U.int .i64 b2),sC]:List U),σ)) (fun(b2:Int) (q:LS)=>∃u3 sC,q=(AX.ret,([(U.int .i64 b2),u3,sC]:List U),σ)) ?_ ?_ ⟨rfl,rfl⟩ ?_ ?_
 ·intro yD i8 e7 s1 v w3 nR hI
  obtain⟨rfl,rfl⟩:=hI
  refine an _ (iq nR)<|mg<|an _ (fW nR)<|an _ rfl<|an _ rfl<|an _ (Cd _ _ rfl)<|an _ rfl<|an _ (j0 e7.number 1 9999999 σ)<|an _ rfl ?_
  refine iJ (c:=(!(aZ e7.number 1 9999999))) (fun eP=>?_) (fun eP=>?_)
  ·exact bK (fT (by simp) ⟨_,_,rfl⟩)
  refine an _ rfl<|dF (U.int .i64 e7.number) (fun hg=>rfl)<|dF (sl 11 aQ a0) (fun hg=>rfl)<|dF (U.int .i64 (i8:Int)) (fun hg=>rfl)<|dF (U.int .i64 (IntKind.i64.wrap ((i8:Int) -1))) (fun hg=>by(try rw[hg]);exact rfl) ?_
  refine yl (ω:=aG) (fun x9=>(U.rp (aQ x9))) (fun hg x9 TW=>by(try rw[hg]);exact yu TW) (fun x9 TW=>?_)
  refine dF (U.rp (aQ x9)) (fun hg=>by(try rw[hg]);exact rfl)<|dF (U.int .i64 x9.number) (fun hg=>by(try rw[hg]);exact rfl)<|dF (U.bool (decide (e7.number≤x9.number))) (fun hg=>by(try rw[hg]);exact rfl)<|an _ (qo _ _) ?_
  refine iJ (c:=((decide (0<(i8:Int)))&&(decide (e7.number≤x9.number)))) (fun kS=>?_) (fun kS=>?_)
  ·exact bK (fT (by simp) ⟨_,_,rfl⟩)
  refine an _ rfl<|an _ (KL _ _)<|dF (U.str e7.title) (fun hg=>rfl) ?_
  refine yl (ω:=Bool) (fun fF=>(U.bool fF)) (fun hg fF CK=>by(try rw[hg]);exact(quiet_of ((oh (e:=fun r:Bool=>((U.bool r),σ)) (fun hs=>Pc e7.title hs σ)) CK))) (fun fF CK=>?_)
  refine dF (U.bool (!fF)) (fun hg=>by(try rw[hg]);exact rfl)<|an _ (qo _ _) ?_
  refine iJ (c:=((decide (¬(e7.title=(⟨#[]⟩:ByteArray))))&&(!fF))) (fun rT=>?_) (fun rT=>?_)
  ·exact bK (fT (by simp) ⟨_,_,rfl⟩)
  refine an _ rfl<|an _ (zN (σ:=σ) (r:=(aZ e7.delay 0 36000000)) rfl)<|an _ rfl<|gn (U.int .i64 e7.up) (fun hg=>rfl)<|gn (U.bool ((aZ e7.up 0 36000000))) (fun hg=>by(try rw[hg]);exact(quiet_of (zN (σ:=σ) (r:=(aZ e7.up 0 36000000)) rfl)))<|gn (U.bool (!((aZ e7.up 0 36000000)))) (fun hg=>by(try rw[hg]);exact rfl)<|an _ (rK _ _)<|gn (U.int .i64 e7.down) (fun hg=>rfl)<|gn (U.bool ((aZ e7.down 0 36000000))) (fun hg=>by(try rw[hg]);exact(quiet_of (zN (σ:=σ) (r:=(aZ e7.down 0 36000000)) rfl)))<|gn (U.bool (!((aZ e7.down 0 36000000)))) (fun hg=>by(try rw[hg]);exact rfl)<|an _ (rK _ _)<|gn (U.int .i64 e7.other) (fun hg=>rfl)<|gn (U.bool ((aZ e7.other 0 36000000))) (fun hg=>by(try rw[hg]);exact(quiet_of (zN (σ:=σ) (r:=(aZ e7.other 0 36000000)) rfl)))<|gn (U.bool (!((aZ e7.other 0 36000000)))) (fun hg=>by(try rw[hg]);exact rfl)<|an _ (rK _ _)<|gn (U.int .i64 e7.follow) (fun hg=>rfl)<|gn (U.bool (aZ e7.follow (-1) 36000000)) (fun hg=>by(try rw[hg]);exact(quiet_of (j0 e7.follow (-1) 36000000 σ)))<|gn (U.bool (!(aZ e7.follow (-1) 36000000))) (fun hg=>by(try rw[hg]);exact rfl)<|an _ (rK _ _) ?_
  refine iJ (c:=(((((!((aZ e7.delay 0 36000000)))||(!((aZ e7.up 0 36000000))))||(!((aZ e7.down 0 36000000))))||(!((aZ e7.other 0 36000000))))||(!(aZ e7.follow (-1) 36000000)))) (fun iz=>?_) (fun iz=>?_)
  ·exact bK (fT (by simp) ⟨_,_,rfl⟩)
  refine an _ rfl<|an _ (VJ e7.fB σ)<|an _ (iM _ _ _) ?_
  refine mW (p:=¬((ur e7.fB)=0)) (fun jC=>?_) (fun jC=>?_)
  ·exact bK (fT (by simp) ⟨_,_,rfl⟩)
  refine an (sl 8 aK e7.aL) rfl<|an _ (dU _ _ _)<|an _ rfl ?_
  refine mW (p:=2000<(e7.aL.length:Int)) (fun uT=>?_) (fun uT=>?_)
  ·exact bK (fT (by simp) ⟨_,_,rfl⟩)
  refine an (sl 8 aK e7.aL) rfl ?_
  refine jA (fun cg:Int=>((U.int .i64 cg),σ)) (fun cg wT=>Vi wT) (fun cg wT=>?_)
  refine an _ (iM _ _ _) ?_
  refine mW (p:=¬(cg=0)) (fun cU=>?_) (fun cU=>?_)
  ·exact bK (fT (by simp) ⟨_,_,rfl⟩)
  refine an (sl 8 aK e7.aL) rfl<|an _ (dU _ _ _)<|an _ rfl<|an _ (fZ nR yD) ?_
  exact bK (l5 ⟨rfl,rfl⟩)
 ·intro hl s1 v w3 hI
  obtain⟨rfl,rfl⟩:=hI
  refine an _ (ia _)<|me ?_
  exact bK ⟨by simp,⟨_,_,rfl⟩⟩
 ·intro hl b2 q hq
  obtain⟨u2,sC,rfl⟩:=hq
  refine gL rfl<|an _ rfl<|an _ (FG (decide (10000<b2)) 2 σ) ?_
  exact fu _ (cV _ _) ⟨rfl,rfl⟩
 ·intro hl b2 q hq
  obtain⟨u3,sC,rfl⟩:=hq
  refine rM rfl<|gL rfl ?_
  exact fu _ (cV _ _) ⟨rfl,rfl⟩
noncomputable def zQ (a0:aV):Option (List (az×Bool)):=
 (tq (gK a0) (((if cN a0=0 then ig a0 else[]:List az),cN a0))).bind fun r1=>
 iL r1.1 (fun(pX:Nat) iZ (s4:(List (az×Bool)))=>(show Option (Lr (List (az×Bool)) (List (az×Bool)) Unit)from
   some (.go (eo iZ true s4)))) (fun s4=>some s4) ([]:List (az×Bool)) (fun b5=>
  some b5) (fun b5=>
  none)
theorem Wz {a0:aV} {σ:Heap} {r:(List (az×Bool))} (h:zQ a0=some r):Ir [(U.agg (bh a0))] σ=some ((qE (fun x=>(U.agg (aH x))) (fun x=>(U.bool x)) r),σ):=by
 refine B2 (f:=It) (y0:=(U.agg (bh a0))) (enc:=fun r:(List (az×Bool))=>(qE (fun x=>(U.agg (aH x))) (fun x=>(U.bool x)) r)) (T:=zQ a0) rfl rfl ?_ r h
 unfold It zQ
 refine an _ rfl<|an _ rfl ?_
 refine jA (fun r1:((List az)×Int)=>((U.aA [(sl 2 aH r1.1),(U.int .i64 r1.2)]),σ)) (fun r1 oI=>(oh (e:=fun r:((List az)×Int)=>((U.aA [(sl 2 aH r.1),(U.int .i64 r.2)]),σ)) (fun hs=>Qm a0 hs σ)) oI) (fun r1 oI=>?_)
 refine an (sl 2 aH r1.1) rfl<|an _ rfl ?_
 have hp2:Hp σ σ []:=F9 σ
 have hp3:Hp σ (σ++[aO.map []]) [((U.om σ.length),(Ct.m (List.map (fun p=>((fun x=>(U.agg (aH x))) p.1,(fun x=>(U.bool x)) p.2)) ([]:List (az×Bool)))))]:=Ks hp2
 refine an _ (dU _ _ _) ?_
 refine lZ (B:=(List (az×Bool))) (R:=Unit) (fun(pX:Nat) (s4:(List (az×Bool))) v w6=>v=[(U.int .i64 (pX:Int))]∧Hp σ w6 [((U.om σ.length),(Ct.m (List.map (fun p=>((fun x=>(U.agg (aH x))) p.1,(fun x=>(U.bool x)) p.2)) s4)))]) (fun(b5:(List (az×Bool))) (q:LS)=>∃u16 w7,q=((AX.exit 0),([u16]:List U),w7)∧Hp σ w7 [((U.om σ.length),(Ct.m (List.map (fun p=>((fun x=>(U.agg (aH x))) p.1,(fun x=>(U.bool x)) p.2)) b5)))]) (fun(b5:Unit) (q:LS)=>False) ?_ ?_ ⟨rfl,hp3⟩ ?_ ?_
 ·intro Kp pX iZ s4 v w6 yC hI
  obtain⟨rfl,ve⟩:=hI
  refine an _ (iq yC)<|mg<|an _ (fW yC)<|an _ rfl<|an _ rfl<|an _ (yc _ _ rfl)<|an _ rfl ?_
  obtain⟨xy,LO,AO⟩:=JO (ek:=(.s [0,2])) (eK:=(fun x=>(U.agg (aH x)))) (eV:=(fun x=>(U.bool x))) ve 0 rfl uo iZ true rfl
  change Hp σ xy [((U.om σ.length),(Ct.m (List.map (fun p=>((fun x=>(U.agg (aH x))) p.1,(fun x=>(U.bool x)) p.2)) (eo iZ true s4))))]at AO
  refine an xy LO<|an _ (fZ yC Kp) ?_
  exact bK (l5 ⟨rfl,AO⟩)
 ·intro hl s4 v w6 hI
  obtain⟨rfl,ve⟩:=hI
  refine an _ (ia _)<|me ?_
  exact bK ⟨by simp,⟨_,_,rfl,ve⟩⟩
 ·intro hl b5 q hq
  obtain⟨u16,w7,rfl,TP⟩:=hq
  refine gL rfl ?_
  exact fu _ (Cj TP (Ro TP (k:=0) rfl (by intro p hp;obtain⟨x,_,rfl⟩:=List.mem_map.1 hp;exact⟨(rz (uq _)),(B8 _)⟩))) ⟨rfl,rfl⟩
 ·intro hl b5 q hq
  exact False.elim hq
noncomputable def zL (a0:az) (a1:az):Option Bool:=
 if ¬(a0.unit=a1.unit)then
  some (decide (a0.unit<a1.unit))
 else
 some (decide ((Lib.compareBytes a0.param.data.toList a1.param.data.toList)<0))
theorem VL {a0:az} {a1:az} {σ:Heap} {r:Bool} (h:zL a0 a1=some r):HS [(U.agg (aH a0)),(U.agg (aH a1))] σ=some ((U.bool r),σ):=by
 refine xW (f:=HW) (y0:=(U.agg (aH a0))) (y1:=(U.agg (aH a1))) (enc:=fun r:Bool=>(U.bool r)) (T:=zL a0 a1) rfl rfl ?_ r h
 unfold HW zL
 refine an _ rfl<|an _ rfl<|an _ rfl<|an _ rfl<|an _ (iM _ _ _) ?_
 refine mW (p:=¬(a0.unit=a1.unit)) (fun c1=>?_) (fun c1=>?_)
 ·refine an _ rfl<|an _ rfl<|an _ rfl ?_
  exact fu _ (cV _ _) ⟨rfl,rfl⟩
 refine an _ rfl<|an _ rfl<|an _ rfl<|an _ rfl ?_
 exact fu _ (cV _ _) ⟨rfl,rfl⟩
noncomputable def zH (a0:aV) (a1:(List bJ)):Option Int:=
 (tq (gK a0) (cN a0)).bind fun r1=>
 (tq (([r1,(if(decide (200<(a1.length:Int)))=true then 2 else 0)]:(List Int)).length≤br) ((([r1,(if(decide (200<(a1.length:Int)))=true then 2 else 0)]:(List Int)).find? fun n=>decide (¬n=0)).getD 0)).bind fun r2=>
 if ¬(r2=0)then
  some r2
 else
 (zQ a0).bind fun r3=>
 iL a1 (fun(pX:Nat) iZ (s4:Unit)=>(show Option (Lr Unit Unit Int)from
   if(!(aZ iZ.number 1 999))=true then
    some (.ret 1)
   else
   (if decide (0<(pX:Int))=true then p6 a1 (IntKind.i64.wrap ((pX:Int) -1))else some default).bind fun cE=>
   if((decide (0<(pX:Int)))&&(decide (iZ.number≤cE.number)))=true then
    some (.ret 7)
   else
   (tq (fK iZ.title) (yf iZ.title)).bind fun gQ=>
   if(!gQ)=true then
    some (.ret 3)
   else
   if 2000<(iZ.jq.length:Int)then
    some (.ret 2)
   else
   iL iZ.jq (fun(i21:Nat) uX (p5:Unit)=>(show Option (Lr Unit Unit Int)from
     if(!((bA uX.key r3).getD false))=true then
      some (.ret 8)
     else
     if(!(aZ uX.level 0 65535))=true then
      some (.ret 1)
     else
     (if decide (0<(i21:Int))=true then p6 iZ.jq (IntKind.i64.wrap ((i21:Int) -1))else some default).bind fun bT=>
     (if decide (0<(i21:Int))=true then zL bT.key uX.key else some default).bind fun jh=>
     if((decide (0<(i21:Int)))&&(!jh))=true then
      some (.ret 7)
     else
     some (.go ()))) (fun p5=>some ()) () (fun yN=>
    some (.go ())) (fun yN=>
    some (.ret yN)))) (fun s4=>some ()) () (fun b5=>
  some 0) (fun b5=>
  some b5)
theorem U7 {a0:aV} {a1:(List bJ)} {σ:Heap} {r:Int} (h:zH a0 a1=some r):HA [(U.agg (bh a0)),(sl 3 gh a1)] σ=some ((U.int .i64 r),σ):=by
 refine xW (f:=HB) (y0:=(U.agg (bh a0))) (y1:=(sl 3 gh a1)) (enc:=fun r:Int=>(U.int .i64 r)) (T:=zH a0 a1) rfl rfl ?_ r h
 unfold HB zH
 refine an _ rfl<|an _ rfl ?_
 refine jA (fun r1:Int=>((U.int .i64 r1),σ)) (fun r1 oI=>(oh (e:=fun r:Int=>((U.int .i64 r),σ)) (fun hs=>Ip a0 hs σ)) oI) (fun r1 oI=>?_)
 refine an _ (dU _ _ _)<|an _ rfl<|an _ (FG (decide (200<(a1.length:Int))) 2 σ)<|an (sl 1 AK ([r1,(if(decide (200<(a1.length:Int)))=true then 2 else 0)]:(List Int))) rfl ?_
 refine jA (fun r2:Int=>((U.int .i64 r2),σ)) (fun r2 xk=>(oh (e:=fun r:Int=>((U.int .i64 r),σ)) (fun hs=>Pa ([r1,(if(decide (200<(a1.length:Int)))=true then 2 else 0)]:(List Int)) hs σ)) xk) (fun r2 xk=>?_)
 refine an _ (iM _ _ _) ?_
 refine mW (p:=¬(r2=0)) (fun CZ=>?_) (fun CZ=>?_)
 ·exact fu _ (cV _ _) ⟨rfl,rfl⟩
 refine an _ rfl ?_
 refine jA (fun r3:(List (az×Bool))=>((qE (fun x=>(U.agg (aH x))) (fun x=>(U.bool x)) r3),σ)) (fun r3 Dr=>Wz Dr) (fun r3 Dr=>?_)
 refine an _ (dU _ _ _) ?_
 refine lZ (B:=Unit) (R:=Int) (fun(pX:Nat) (s4:Unit) v w6=>∃u4,v=[u4,(U.int .i64 (pX:Int))]∧σ=w6) (fun(b5:Unit) (q:LS)=>∃u4 DI,q=((AX.exit 0),([u4,DI]:List U),σ)) (fun(b5:Int) (q:LS)=>∃DI,q=(AX.ret,([(U.int .i64 b5),DI]:List U),σ)) ?_ ?_ ⟨_,rfl,rfl⟩ ?_ ?_
 ·intro Kp pX iZ s4 v w6 yC hI
  obtain⟨u4,rfl,rfl⟩:=hI
  refine an _ (iq yC)<|mg<|an _ (fW yC)<|an _ rfl<|an _ rfl<|an _ (Og _ _ rfl)<|an _ rfl<|an _ (j0 iZ.number 1 999 σ)<|an _ rfl ?_
  refine iJ (c:=(!(aZ iZ.number 1 999))) (fun CY=>?_) (fun CY=>?_)
  ·exact bK (fT (by simp) ⟨_,rfl⟩)
  refine an _ rfl<|dF (U.int .i64 iZ.number) (fun hg=>rfl)<|dF (sl 3 gh a1) (fun hg=>rfl)<|dF (U.int .i64 (pX:Int)) (fun hg=>rfl)<|dF (U.int .i64 (IntKind.i64.wrap ((pX:Int) -1))) (fun hg=>by(try rw[hg]);exact rfl) ?_
  refine yl (ω:=bJ) (fun cE=>(U.rp (gh cE))) (fun hg cE S1=>by(try rw[hg]);exact yu S1) (fun cE S1=>?_)
  refine dF (U.rp (gh cE)) (fun hg=>by(try rw[hg]);exact rfl)<|dF (U.int .i64 cE.number) (fun hg=>by(try rw[hg]);exact rfl)<|dF (U.bool (decide (iZ.number≤cE.number))) (fun hg=>by(try rw[hg]);exact rfl)<|an _ (qo _ _) ?_
  refine iJ (c:=((decide (0<(pX:Int)))&&(decide (iZ.number≤cE.number)))) (fun CX=>?_) (fun CX=>?_)
  ·exact bK (fT (by simp) ⟨_,rfl⟩)
  refine an _ rfl ?_
  refine jA (fun gQ:Bool=>((U.bool gQ),σ)) (fun gQ SR=>(oh (e:=fun r:Bool=>((U.bool r),σ)) (fun hs=>YR iZ.title hs σ)) SR) (fun gQ SR=>?_)
  refine an _ rfl ?_
  refine iJ (c:=(!gQ)) (fun nP=>?_) (fun nP=>?_)
  ·exact bK (fT (by simp) ⟨_,rfl⟩)
  refine an (sl 3 ck iZ.jq) rfl<|an _ (dU _ _ _)<|an _ rfl ?_
  refine mW (p:=2000<(iZ.jq.length:Int)) (fun CW=>?_) (fun CW=>?_)
  ·exact bK (fT (by simp) ⟨_,rfl⟩)
  refine an (sl 3 ck iZ.jq) rfl<|an _ (dU _ _ _) ?_
  refine lZ (B:=Unit) (R:=Int) (fun(i21:Nat) (p5:Unit) v Mv=>∃u4,v=[u4,(U.lbx (gh iZ)),(U.int .i64 (i21:Int))]∧σ=Mv) (fun(yN:Unit) (q:LS)=>∃u4 u8 DO,q=((AX.exit 3),([u4,u8,DO]:List U),σ)) (fun(yN:Int) (q:LS)=>∃u8 DO,q=(AX.ret,([(U.int .i64 yN),u8,DO]:List U),σ)) ?_ ?_ ⟨_,rfl,rfl⟩ ?_ ?_
  ·intro ace i21 uX p5 v Mv La hI
   obtain⟨u4,rfl,rfl⟩:=hI
   refine an _ (iq La)<|mg<|an _ (fW La)<|an _ rfl<|an _ rfl<|an _ (BG _ _ rfl)<|an _ rfl<|an _ (Jj (ek:=(.s [0,2])) (eK:=(fun x=>(U.agg (aH x)))) (eV:=(fun x=>(U.bool x))) uo uX.key false rfl)<|an _ rfl ?_
   refine iJ (c:=(!((bA uX.key r3).getD false))) (fun jO=>?_) (fun jO=>?_)
   ·exact bK (fT (by simp) ⟨_,_,rfl⟩)
   refine an _ rfl<|an _ (NC uX.level σ)<|an _ rfl ?_
   refine iJ (c:=(!(aZ uX.level 0 65535))) (fun jD=>?_) (fun jD=>?_)
   ·exact bK (fT (by simp) ⟨_,_,rfl⟩)
   refine an _ rfl<|an _ rfl<|dF (sl 3 ck iZ.jq) (fun hg=>rfl)<|dF (U.int .i64 (i21:Int)) (fun hg=>rfl)<|dF (U.int .i64 (IntKind.i64.wrap ((i21:Int) -1))) (fun hg=>by(try rw[hg]);exact rfl) ?_
   refine yl (ω:=bW) (fun bT=>(U.rp (ck bT))) (fun hg bT S4=>by(try rw[hg]);exact yu S4) (fun bT S4=>?_)
   refine dF (U.rp (ck bT)) (fun hg=>by(try rw[hg]);exact rfl)<|dF (U.agg (aH bT.key)) (fun hg=>by(try rw[hg]);exact rfl)<|dF (U.agg (aH uX.key)) (fun hg=>rfl) ?_
   refine yl (ω:=Bool) (fun jh=>(U.bool jh)) (fun hg jh SX=>by(try rw[hg]);exact(quiet_of (VL SX))) (fun jh SX=>?_)
   refine dF (U.bool (!jh)) (fun hg=>by(try rw[hg]);exact rfl)<|an _ (qo _ _) ?_
   refine iJ (c:=((decide (0<(i21:Int)))&&(!jh))) (fun eB=>?_) (fun eB=>?_)
   ·exact bK (fT (by simp) ⟨_,_,rfl⟩)
   refine an _ (fZ La ace) ?_
   exact bK (l5 ⟨_,rfl,rfl⟩)
  ·intro hl p5 v Mv hI
   obtain⟨u4,rfl,rfl⟩:=hI
   refine an _ (ia _)<|me ?_
   exact bK ⟨by simp,⟨_,_,_,rfl⟩⟩
  ·intro hl yN q hq
   obtain⟨u4,u8,DO,rfl⟩:=hq
   refine gL rfl<|an _ (fZ yC Kp) ?_
   exact bK (l5 ⟨_,rfl,rfl⟩)
  ·intro hl yN q hq
   obtain⟨u8,DO,rfl⟩:=hq
   refine rM rfl<|gL rfl ?_
   exact bK (fT (by simp) ⟨_,rfl⟩)
 ·intro hl s4 v w6 hI
  obtain⟨u4,rfl,rfl⟩:=hI
  refine an _ (ia _)<|me ?_
  exact bK ⟨by simp,⟨_,_,rfl⟩⟩
 ·intro hl b5 q hq
  obtain⟨u4,DI,rfl⟩:=hq
  refine gL rfl ?_
  exact fu _ (cV _ _) ⟨rfl,rfl⟩
 ·intro hl b5 q hq
  obtain⟨DI,rfl⟩:=hq
  refine rM rfl<|gL rfl ?_
  exact fu _ (cV _ _) ⟨rfl,rfl⟩
noncomputable def vG (a0:(List bJ)) (a1:az) (a2:fN):Option (Int×Int):=
 if((decide (¬(a2.level=0)))&&(decide (¬(a2.dV=0))))=true then
  some (0,3)
 else
 if(!(aZ a2.level 0 65535))=true then
  some (0,1)
 else
 if a2.dV=0 then
  some (a2.level,0)
 else
 iL a0 (fun(i8:Nat) e7 (s1:Unit)=>(show Option (Lr Unit Unit Int)from
   if ¬(e7.number=a2.dV)then
    some (.go ())
   else
   iL e7.jq (fun(i16:Nat) GM (s9:Unit)=>(show Option (Lr Unit Unit Int)from
     if GM.key=a1 then
      some (.ret GM.level)
     else
     some (.go ()))) (fun s9=>some ()) () (fun yK=>
    some (.brk ())) (fun yK=>
    some (.ret yK)))) (fun s1=>some ()) () (fun b2=>
  some (0,8)) (fun b2=>
  some (b2,0))
theorem Nd {a0:(List bJ)} {a1:az} {a2:fN} {σ:Heap} {r:(Int×Int)} (h:vG a0 a1 a2=some r):BA [(sl 3 gh a0),(U.agg (aH a1)),(U.agg (qn a2))] σ=some ((U.aA [(U.int .i64 r.1),(U.int .i64 r.2)]),σ):=by
 refine B3 (f:=Ih) (y0:=(sl 3 gh a0)) (y1:=(U.agg (aH a1))) (y2:=(U.agg (qn a2))) (enc:=fun r:(Int×Int)=>(U.aA [(U.int .i64 r.1),(U.int .i64 r.2)])) (T:=vG a0 a1 a2) rfl rfl ?_ r h
 unfold Ih vG
 refine an _ rfl<|an _ rfl<|an _ rfl<|an _ (iM _ _ _)<|dF (U.int .i64 a2.dV) (fun hg=>rfl)<|dF (U.bool (decide (¬(a2.dV=0)))) (fun hg=>by(try rw[hg]);exact(iM _ _ _))<|an _ (qo _ _) ?_
 refine iJ (c:=((decide (¬(a2.level=0)))&&(decide (¬(a2.dV=0))))) (fun gO=>?_) (fun gO=>?_)
 ·exact fu _ (cV _ _) ⟨rfl,rfl⟩
 refine an _ rfl<|an _ (NC a2.level σ)<|an _ rfl ?_
 refine iJ (c:=(!(aZ a2.level 0 65535))) (fun iN=>?_) (fun iN=>?_)
 ·exact fu _ (cV _ _) ⟨rfl,rfl⟩
 refine an _ rfl<|an _ (oB _ _ _) ?_
 refine mW (p:=a2.dV=0) (fun kT=>?_) (fun kT=>?_)
 ·refine an _ rfl ?_
  exact fu _ (cV _ _) ⟨rfl,rfl⟩
 refine an _ (dU _ _ _) ?_
 refine lZ (B:=Unit) (R:=Int) (fun(i8:Nat) (s1:Unit) v w3=>v=[(U.lbx (aH a1)),(U.lbx (qn a2)),aj,aj,(U.int .i64 (i8:Int))]∧σ=w3) (fun(b2:Unit) (q:LS)=>∃u4 u5 u6 u7 DJ,q=((AX.exit 0),([u4,u5,u6,u7,DJ]:List U),σ)) (fun(b2:Int) (q:LS)=>∃u4 u5 DJ,q=(AX.ret,([u4,u5,(U.int .i64 b2),aj,DJ]:List U),σ)) ?_ ?_ ⟨rfl,rfl⟩ ?_ ?_
 ·intro yD i8 e7 s1 v w3 nR hI
  obtain⟨rfl,rfl⟩:=hI
  refine an _ (iq nR)<|mg<|an _ (fW nR)<|an _ rfl<|an _ rfl<|an _ (Og _ _ rfl)<|an _ rfl<|an _ rfl<|an _ rfl<|an _ (iM _ _ _) ?_
  refine mW (p:=¬(e7.number=a2.dV)) (fun eP=>?_) (fun eP=>?_)
  ·refine an _ (fZ nR yD) ?_
   exact bK (l5 ⟨rfl,rfl⟩)
  refine an (sl 3 ck e7.jq) rfl<|an _ (dU _ _ _) ?_
  refine lZ (B:=Unit) (R:=Int) (fun(i16:Nat) (s9:Unit) v Mt=>v=[(U.lbx (aH a1)),aj,aj,(U.int .i64 (i16:Int))]∧σ=Mt) (fun(yK:Unit) (q:LS)=>∃u4 u6 u7 DL,q=((AX.exit 2),([u4,u6,u7,DL]:List U),σ)) (fun(yK:Int) (q:LS)=>∃u4 DL,q=(AX.ret,([u4,(U.int .i64 yK),aj,DL]:List U),σ)) ?_ ?_ ⟨rfl,rfl⟩ ?_ ?_
  ·intro ab8 i16 GM s9 v Mt K7 hI
   obtain⟨rfl,rfl⟩:=hI
   refine an _ (iq K7)<|mg<|an _ (fW K7)<|an _ rfl<|an _ rfl<|an _ (BG _ _ rfl)<|an _ rfl<|an _ rfl<|an _ (abu _ _) ?_
   refine mW (p:=GM.key=a1) (fun kS=>?_) (fun kS=>?_)
   ·refine an _ rfl ?_
    exact bK (fT (by simp) ⟨_,_,rfl⟩)
   refine an _ (fZ K7 ab8) ?_
   exact bK (l5 ⟨rfl,rfl⟩)
  ·intro hl s9 v Mt hI
   obtain⟨rfl,rfl⟩:=hI
   refine an _ (ia _)<|me ?_
   exact bK ⟨by simp,⟨_,_,_,_,rfl⟩⟩
  ·intro hl yK q hq
   obtain⟨u4,u6,u7,DL,rfl⟩:=hq
   refine gL rfl ?_
   exact bK (aa0 (by simp) ⟨_,_,_,_,_,rfl⟩)
  ·intro hl yK q hq
   obtain⟨u4,DL,rfl⟩:=hq
   refine rM rfl<|gL rfl ?_
   exact bK (fT (by simp) ⟨_,_,_,rfl⟩)
 ·intro hl s1 v w3 hI
  obtain⟨rfl,rfl⟩:=hI
  refine an _ (ia _)<|me ?_
  exact bK ⟨by simp,⟨_,_,_,_,_,rfl⟩⟩
 ·intro hl b2 q hq
  obtain⟨u4,u5,u6,u7,DJ,rfl⟩:=hq
  refine gL rfl ?_
  exact fu _ (cV _ _) ⟨rfl,rfl⟩
 ·intro hl b2 q hq
  obtain⟨u4,u5,DJ,rfl⟩:=hq
  refine rM rfl<|gL rfl ?_
  exact fu _ (cV _ _) ⟨rfl,rfl⟩
noncomputable def Bx (a0:aV) (a1:(List bJ)) (a2:(List aG)):Option Int:=
 (zH a0 a1).bind fun r1=>
 (zT a2).bind fun r2=>
 (tq (([r1,r2]:(List Int)).length≤br) ((([r1,r2]:(List Int)).find? fun n=>decide (¬n=0)).getD 0)).bind fun r3=>
 if ¬(r3=0)then
  some r3
 else
 (tq (gK a0) (((if cN a0=0 then ig a0 else[]:List az),cN a0))).bind fun r4=>
 iL r4.1 (fun(Mc:Nat) GL (s7:(List (az×Bool)))=>(show Option (Lr (List (az×Bool)) (List (az×Bool)) Unit)from
   some (.go (eo GL true s7)))) (fun s7=>some s7) ([]:List (az×Bool)) (fun b8=>
  iL a2 (fun(Me:Nat) C9 (qO:Unit)=>(show Option (Lr Unit Unit Int)from
    iL C9.aL (fun(i33:Nat) wZ (sy:Unit)=>(show Option (Lr Unit Unit Int)from
      if(!((bA wZ.key b8).getD false))=true then
       some (.ret 8)
      else
      (vG a1 wZ.key wZ.value).bind fun kF=>
      if ¬(kF.2=0)then
       some (.ret kF.2)
      else
      some (.go ()))) (fun sy=>some ()) () (fun yQ=>
     some (.go ())) (fun yQ=>
     some (.ret yQ)))) (fun qO=>some ()) () (fun yP=>
   some 0) (fun yP=>
   some yP)) (fun b8=>
  none)
theorem MT {a0:aV} {a1:(List bJ)} {a2:(List aG)} {σ:Heap} {r:Int} (h:Bx a0 a1 a2=some r):Bv [(U.agg (bh a0)),(sl 3 gh a1),(sl 11 aQ a2)] σ=some ((U.int .i64 r),σ):=by
 refine B3 (f:=HL) (y0:=(U.agg (bh a0))) (y1:=(sl 3 gh a1)) (y2:=(sl 11 aQ a2)) (enc:=fun r:Int=>(U.int .i64 r)) (T:=Bx a0 a1 a2) (bU (tE (bU (gM (fun _=>(bU rfl (bU rfl (bU (gM (fun _=>rfl) _) mO)))) _) (bU rfl mO))) (bU (gM (fun _=>rfl) _) (bU (gM (fun _=>rfl) _) rfl))) rfl ?_ r h
 unfold HL Bx
 refine an _ rfl<|an _ rfl ?_
 refine jA (fun r1:Int=>((U.int .i64 r1),σ)) (fun r1 oI=>U7 oI) (fun r1 oI=>?_)
 refine jA (fun r2:Int=>((U.int .i64 r2),σ)) (fun r2 xk=>NY xk) (fun r2 xk=>?_)
 refine an (sl 1 AK ([r1,r2]:(List Int))) rfl ?_
 refine jA (fun r3:Int=>((U.int .i64 r3),σ)) (fun r3 Dr=>(oh (e:=fun r:Int=>((U.int .i64 r),σ)) (fun hs=>Pa ([r1,r2]:(List Int)) hs σ)) Dr) (fun r3 Dr=>?_)
 refine an _ (iM _ _ _) ?_
 refine mW (p:=¬(r3=0)) (fun yR=>?_) (fun yR=>?_)
 ·exact fu _ (cV _ _) ⟨rfl,rfl⟩
 refine an _ rfl ?_
 refine jA (fun r4:((List az)×Int)=>((U.aA [(sl 2 aH r4.1),(U.int .i64 r4.2)]),σ)) (fun r4 TR=>(oh (e:=fun r:((List az)×Int)=>((U.aA [(sl 2 aH r.1),(U.int .i64 r.2)]),σ)) (fun hs=>Qm a0 hs σ)) TR) (fun r4 TR=>?_)
 refine an (sl 2 aH r4.1) rfl<|an _ rfl ?_
 have hp5:Hp σ σ []:=F9 σ
 have hp6:Hp σ (σ++[aO.map []]) [((U.om σ.length),(Ct.m (List.map (fun p=>((fun x=>(U.agg (aH x))) p.1,(fun x=>(U.bool x)) p.2)) ([]:List (az×Bool)))))]:=Ks hp5
 refine an _ (dU _ _ _) ?_
 refine lZ (B:=(List (az×Bool))) (R:=Unit) (fun(Mc:Nat) (s7:(List (az×Bool))) v w9=>v=[(U.int .i64 (Mc:Int))]∧Hp σ w9 [((U.om σ.length),(Ct.m (List.map (fun p=>((fun x=>(U.agg (aH x))) p.1,(fun x=>(U.bool x)) p.2)) s7)))]) (fun(b8:(List (az×Bool))) (q:LS)=>∃Ub Ms,q=((AX.exit 0),([Ub]:List U),Ms)∧Hp σ Ms [((U.om σ.length),(Ct.m (List.map (fun p=>((fun x=>(U.agg (aH x))) p.1,(fun x=>(U.bool x)) p.2)) b8)))]) (fun(b8:Unit) (q:LS)=>False) ?_ ?_ ⟨rfl,hp6⟩ ?_ ?_
 ·intro ab7 Mc GL s7 v w9 KZ hI
  obtain⟨rfl,CH⟩:=hI
  refine an _ (iq KZ)<|mg<|an _ (fW KZ)<|an _ rfl<|an _ rfl<|an _ (yc _ _ rfl)<|an _ rfl ?_
  obtain⟨Uc,gW,GD⟩:=JO (ek:=(.s [0,2])) (eK:=(fun x=>(U.agg (aH x)))) (eV:=(fun x=>(U.bool x))) CH 0 rfl uo GL true rfl
  change Hp σ Uc [((U.om σ.length),(Ct.m (List.map (fun p=>((fun x=>(U.agg (aH x))) p.1,(fun x=>(U.bool x)) p.2)) (eo GL true s7))))]at GD
  refine an Uc gW<|an _ (fZ KZ ab7) ?_
  exact bK (l5 ⟨rfl,GD⟩)
 ·intro hl s7 v w9 hI
  obtain⟨rfl,CH⟩:=hI
  refine an _ (ia _)<|me ?_
  exact bK ⟨by simp,⟨_,_,rfl,CH⟩⟩
 ·intro hl b8 q hq
  obtain⟨Ub,Ms,rfl,adp⟩:=hq
  refine gL rfl<|an _ (dU _ _ _) ?_
  refine lZ (B:=Unit) (R:=Int) (fun(Me:Nat) (qO:Unit) v zx=>∃u6,v=[u6,(U.int .i64 (Me:Int))]∧Hp σ zx [((U.om σ.length),(Ct.m (List.map (fun p=>((fun x=>(U.agg (aH x))) p.1,(fun x=>(U.bool x)) p.2)) b8)))]) (fun(yP:Unit) (q:LS)=>∃u6 DM zy,q=((AX.exit 2),([u6,DM]:List U),zy)∧Hp σ zy [((U.om σ.length),(Ct.m (List.map (fun p=>((fun x=>(U.agg (aH x))) p.1,(fun x=>(U.bool x)) p.2)) b8)))]) (fun(yP:Int) (q:LS)=>∃DM zy,q=(AX.ret,([(U.int .i64 yP),DM]:List U),zy)∧Hp σ zy []) ?_ ?_ ⟨_,rfl,adp⟩ ?_ ?_
  ·intro acg Me C9 qO v zx Lc hI
   obtain⟨u6,rfl,CJ⟩:=hI
   refine an _ (iq Lc)<|mg<|an _ (fW Lc)<|an _ rfl<|an _ rfl<|an _ (Cd _ _ rfl)<|an (sl 8 aK C9.aL) rfl<|an _ (dU _ _ _) ?_
   refine lZ (B:=Unit) (R:=Int) (fun(i33:Nat) (sy:Unit) v xz=>∃u6,v=[u6,(U.int .i64 (i33:Int))]∧Hp σ xz [((U.om σ.length),(Ct.m (List.map (fun p=>((fun x=>(U.agg (aH x))) p.1,(fun x=>(U.bool x)) p.2)) b8)))]) (fun(yQ:Unit) (q:LS)=>∃u6 DN zz,q=((AX.exit 4),([u6,DN]:List U),zz)∧Hp σ zz [((U.om σ.length),(Ct.m (List.map (fun p=>((fun x=>(U.agg (aH x))) p.1,(fun x=>(U.bool x)) p.2)) b8)))]) (fun(yQ:Int) (q:LS)=>∃DN zz,q=(AX.ret,([(U.int .i64 yQ),DN]:List U),zz)∧Hp σ zz []) ?_ ?_ ⟨_,rfl,CJ⟩ ?_ ?_
   ·intro ach i33 wZ sy v xz Ld hI
    obtain⟨u6,rfl,AQ⟩:=hI
    refine an _ (iq Ld)<|mg<|an _ (fW Ld)<|an _ rfl<|an _ rfl<|an _ (xX _ _ rfl)<|an _ rfl<|an _ (Zd (ek:=(.s [0,2])) (eK:=(fun x=>(U.agg (aH x)))) (eV:=(fun x=>(U.bool x))) AQ 0 rfl uo wZ.key false rfl)<|an _ rfl ?_
    refine iJ (c:=(!((bA wZ.key b8).getD false))) (fun kU=>?_) (fun kU=>?_)
    ·exact bK (fT (by simp) ⟨_,_,rfl,(JP AQ)⟩)
    refine an _ rfl<|an _ rfl ?_
    refine jA (fun kF:(Int×Int)=>((U.aA [(U.int .i64 kF.1),(U.int .i64 kF.2)]),xz)) (fun kF SZ=>Nd SZ) (fun kF SZ=>?_)
    refine an _ rfl<|an _ rfl<|an _ (iM _ _ _) ?_
    refine mW (p:=¬(kF.2=0)) (fun rU=>?_) (fun rU=>?_)
    ·exact bK (fT (by simp) ⟨_,_,rfl,(JP AQ)⟩)
    refine an _ (fZ Ld ach) ?_
    exact bK (l5 ⟨_,rfl,AQ⟩)
   ·intro hl sy v xz hI
    obtain⟨u6,rfl,AQ⟩:=hI
    refine an _ (ia _)<|me ?_
    exact bK ⟨by simp,⟨_,_,_,rfl,AQ⟩⟩
   ·intro hl yQ q hq
    obtain⟨u6,DN,zz,rfl,AR⟩:=hq
    refine gL rfl<|an _ (fZ Lc acg) ?_
    exact bK (l5 ⟨_,rfl,AR⟩)
   ·intro hl yQ q hq
    obtain⟨DN,zz,rfl,AR⟩:=hq
    refine rM rfl<|gL rfl ?_
    exact bK (fT (by simp) ⟨_,_,rfl,(JP AR)⟩)
  ·intro hl qO v zx hI
   obtain⟨u6,rfl,CJ⟩:=hI
   refine an _ (ia _)<|me ?_
   exact bK ⟨by simp,⟨_,_,_,rfl,CJ⟩⟩
  ·intro hl yP q hq
   obtain⟨u6,DM,zy,rfl,AP⟩:=hq
   refine gL rfl ?_
   exact fu _ (Cj AP (J7 (dZ _ _))) ⟨rfl,rfl⟩
  ·intro hl yP q hq
   obtain⟨DM,zy,rfl,AP⟩:=hq
   refine rM rfl<|gL rfl ?_
   exact fu _ (Cj AP (J7 (dZ _ _))) ⟨rfl,rfl⟩
 ·intro hl b8 q hq
  exact False.elim hq
end
section
section
variable {κ ν : Type} [DecidableEq κ]
theorem On (k a:κ) (v:ν):∀(l:List (κ×ν)),bA k (eo a v l)=if k=a then some v else bA k l
 |[]=>by simp [eo,bA]
 |(b,w)::l=>by
  rw[eo]
  by_cases h:a=b
  ·subst h
   rw[if_pos rfl,bA,bA]
   split<;>rfl
  ·rw[if_neg h,bA,bA,On k a v l]
   by_cases h2:k=b
   ·subst h2;rw[if_pos rfl,if_pos rfl,if_neg (fun e=>h e.symm)]
   ·rw[if_neg h2,if_neg h2]
theorem Ja (k:κ):∀(l:List κ) (s:List (κ×Bool)),(bA k (l.foldl (fun s x=>eo x true s) s)).getD false=(decide (k∈l)||(bA k s).getD false)
 |[],s=>by simp
 |x::l,s=>by
  rw[List.foldl_cons,Ja k l,On]
  by_cases h:k=x
  ·simp [h]
  ·simp [h]
end
theorem WS {l:List Int} {n:Int} (h:l.Pairwise (·<·)) (k:yH l n=false):(l++[n]).Pairwise (·<·):=by
 rw[List.pairwise_append]
 refine⟨h,by simp,fun a ha b hb=>?_⟩
 simp at hb
 subst hb
 unfold yH at k
 cases hl:l.getLast? with
 |none=>rw[List.getLast?_eq_none_iff]at hl;subst hl;simp at ha
 |some m=>
  rw[hl]at k
  simp at k
  obtain⟨ys,rfl⟩:=List.getLast?_eq_some_iff.1 hl
  rw[List.pairwise_append]at h
  rcases List.mem_append.1 ha with ha|ha
  ·have:=h.2.2 a ha m (by simp);omega
  ·simp at ha;omega
theorem Nv {ey:List bG}:∀(rest pre:List bE),wN ey pre rest=0→(pre.map (·.number)).Pairwise (·<·)→((pre++rest).map (·.number)).Pairwise (·<·)
 |[],pre,_,h=>by simpa using h
 |u::rest,pre,hc,h=>by
  rw[wN]at hc
  split at hc
  ·cases hc
  split at hc
  ·cases hc
  rename_i ho
  split at hc
  ·cases hc
  split at hc
  ·cases hc
  split at hc
  ·cases hc
  have:=Nv rest (pre++[u]) hc (by rw[List.map_append];exact WS h (by simpa using ho))
  simpa using this
theorem xL {r:aV} (h:cN r=0):(r.units.map (·.number)).Pairwise (·<·):=by
 unfold cN at h
 split at h
 ·split at h
  ·cases h
  ·simpa using Nv r.units [] h (by simp)
 ·rename_i h2;exact absurd h h2
theorem Xv (p:bG) (nm:ByteArray):(oW p nm).2=true↔∃x∈p.params,x.name=nm:=by
 unfold oW
 cases h:p.params.find? fun x=>decide (x.name=nm)with
 |none=>
  simp only[Option.elim_none,Bool.false_eq_true,false_iff]
  rintro⟨x,hx,e⟩
  have:=List.find?_eq_none.1 h x hx
  simp [e]at this
 |some x=>
  simp only[Option.elim_some,true_iff]
  exact⟨x,List.mem_of_find?_eq_some h,by simpa using List.find?_some h⟩
theorem O9 {l:List bE} (h:(l.map (·.number)).Pairwise (·<·)) {u v:bE} (hu:u∈l) (hv:v∈l) (e:u.number=v.number):u=v:=by
 induction l with
 |nil=>simp at hu
 |cons x l ih=>
  rw[List.map_cons,List.pairwise_cons]at h
  rcases List.mem_cons.1 hu with Dt|Dt<;>rcases List.mem_cons.1 hv with Du|Du
  ·rw[Dt,Du]
  ·have:=h.1 v.number (List.mem_map.2 ⟨v,Du,rfl⟩);rw[←Dt]at this;omega
  ·have:=h.1 u.number (List.mem_map.2 ⟨u,Dt,rfl⟩);rw[←Du]at this;omega
  ·exact ih h.2 Dt Du
def wR (r:aV) (k:az):Bool:=(ko r k).2
theorem Jm {r:aV} (h:cN r=0) (k:az):wR r k=decide (k∈ig r):=by
 rw[Bool.eq_iff_iff,decide_eq_true_iff]
 unfold wR ko ig
 rw[List.mem_flatMap]
 cases hf:r.units.find? fun u=>decide (u.number=k.unit)with
 |none=>
  simp only[Option.elim_none,Bool.false_eq_true,false_iff]
  rintro⟨u,hu,hk⟩
  obtain⟨x,_,rfl⟩:=List.mem_map.1 hk
  have:=List.find?_eq_none.1 hf u hu
  simp at this
 |some u=>
  have hu:=List.mem_of_find?_eq_some hf
  have hn:u.number=k.unit:=by simpa using List.find?_some hf
  simp only[Option.elim_some,Xv]
  constructor
  ·rintro⟨x,hx,e⟩
   exact⟨u,hu,List.mem_map.2 ⟨x,hx,by rw[hn,e]⟩⟩
  ·rintro⟨v,hv,hk⟩
   obtain⟨x,hx,rfl⟩:=List.mem_map.1 hk
   obtain rfl:=O9 (xL h) hu hv hn
   exact⟨x,hx,rfl⟩
theorem Fu {r:aV} (h:cN r=0):(ig r).length≤16000:=by
 have h1:=Io h r.units
 have h2:=xO h
 show(r.units.flatMap (iU r.bp)).length≤_
 omega
theorem Ze {α:Type} {p:Prop} [Decidable p] (a b:α):(if p then some a else some b)=some (if p then a else b):=by split<;>rfl
theorem IU {α β:Type} {p:Prop} [Decidable p] (a b:α) (f:α→Option β):(if p then some a else some b).bind f=f (if p then a else b):=by split<;>rfl
theorem before_eq (a b:az):zL a b=some (dr a b):=by
 unfold zL dr
 by_cases h:a.unit=b.unit
 ·simp [h,FD,JH]
 ·by_cases h2:a.unit<b.unit<;>simp [h,h2]
theorem compare_eq (a b:az):xB a b=some (nJ a b):=by
 unfold xB nJ
 by_cases h:a.unit=b.unit
 ·simp [h]
 ·by_cases h2:a.unit<b.unit<;>simp [h,h2]
def Gs (has:az→Bool) (l:List bW) (i:Nat) (x:bW):Int:=
 if(!has x.key)=true then 8
 else if(!(aZ x.level 0 65535))=true then 1
 else if(decide (0<(i:Int))&&!dr (pv l i).key x.key)=true then 7 else 0
def FZ (has:az→Bool) (l:List bJ) (i:Nat) (p:bJ):Int:=
 if(!(aZ p.number 1 999))=true then 1
 else if(decide (0<(i:Int))&&decide (p.number≤(pv l i).number))=true then 7
 else if(!(yf p.title))=true then 3
 else if 2000<(p.jq.length:Int)then 2
 else gp (Gs has p.jq) p.jq 0
def nY (r:aV) (l:List bJ):Int:=
 if ¬(cN r=0)then cN r else if 200<(l.length:Int)then 2 else gp (FZ (wR r) l) l 0
theorem V0 (c:Bool) (a b:az):(c&&!(if c=true then dr a b else(default:Bool)))=(c&&!dr a b):=by cases c<;>rfl
theorem Yb (c:Bool) (a b:az):(c&&decide (0≤(if c=true then nJ a b else(default:Int))))=(c&&!dr a b):=by
 cases c
 ·rfl
 ·simp only[if_true,Bool.true_and];exact ZZ a b
theorem Wy (s:ByteArray):(decide (¬(s=(⟨#[]⟩:ByteArray)))&&!(if decide (¬(s=(⟨#[]⟩:ByteArray)))=true then Co s else(default:Bool)))=!yf s:=by
 unfold yf
 by_cases h:s=⟨#[]⟩<;>simp [h]
theorem Vu (r:aV) (l:List bJ) (hr:gK r) (hl:cB nX l):zH r l=some (nY r l):=by
 unfold zH nY
 simp only[oa hr,Option.bind_some]
 rw[oa (by show 2≤br;unfold br;omega)]
 simp only[Sg,Option.bind_some]
 by_cases h0:cN r=0
 case neg=>simp [h0]
 by_cases h1:200<(l.length:Int)
 ·simp [h0,h1]
 have hk:zQ r=some ((ig r).foldl (fun s x=>eo x true s) []):=by
  unfold zQ
  have:=Fu h0
  simp only[oa hr,Option.bind_some,h0,if_true]
  rw[zW (fun s x=>eo x true s) (fun _ _=>True) (by unfold br;omega) trivial (fun _ _ _ _ _=>trivial) (fun _ _ _ _ _=>rfl)]
  rfl
 simp only[h0,h1,not_true_eq_false,if_false,decide_false,Bool.false_eq_true,hk,Option.bind_some]
 have has:∀k,(bA k ((ig r).foldl (fun s x=>eo x true s) [])).getD false=wR r k:=by
  intro k;rw[Ja,Jm h0];simp [bA]
 rw[BU (f:=FZ (wR r) l) hl.1 ?_]
 ·split
  ·rename_i h;rw[h]
  ·rfl
 intro i p hp
 have L5:=hl.2 p (List.mem_of_getElem? hp)
 obtain⟨_,ht,hs⟩:=L5
 simp only[F0 hp hl.1,Option.bind_some,oa ht,has]
 rw[BU (f:=Gs (wR r) p.jq) hs.1 ?_]
 ·unfold FZ
  repeat first|exact Pr _|exact go_ret|refine FR (by decide) ?_
 intro j x hx
 simp only[F0 hx hs.1,Option.bind_some,before_eq,IU,V0]
 unfold Gs
 repeat first|exact go_ret|refine FR (by decide) ?_
def Ao (l:List bJ) (k:az) (v:fN):Int×Int:=
 if(decide (¬(v.level=0))&&decide (¬(v.dV=0)))=true then(0,3)
 else if(!(aZ v.level 0 65535))=true then(0,1)
 else if v.dV=0 then(v.level,0)
 else match l.find? fun p=>decide (p.number=v.dV)with
  |none=>(0,8)
  |some p=>match p.jq.find? fun s=>decide (s.key=k)with|none=>(0,8)|some s=>(s.level,0)
theorem W8 {α γ R:Type} {p:α→Bool} {l:List α} {body:Nat→α→Unit→Option (Lr Unit Unit R)} {r:α→Option R} {fin:Unit→Option Unit} {s:Unit} {K1:Unit→Option γ} {K2:R→Option γ} (hl:l.length≤br) (hb:∀i x,l[i]? =some x→body i x ()=if p x=true then some (match r x with|some q=>.ret q|none=>.brk ())else some (.go ())) (hf:fin ()=some ():=by rfl):iL l body fin s K1 K2=match l.find? p with|some x=>(match r x with|some q=>K2 q|none=>K1 ())|none=>K1 ():=by
 rw[B7 hl]
 have key:∀(rest pre:List α),l=pre++rest→jK body fin rest pre.length ()=some (match rest.find? p with|some x=>(match r x with|some q=>.inr q|none=>.inl ())|none=>.inl ()):=by
  intro rest
  induction rest with
  |nil=>intro pre _;simp [jK,hf]
  |cons x rest ih=>
   intro pre hp
   rw[jK,hb pre.length x (by rw[hp];simp),List.find?_cons]
   cases h:p x
   ·simp only[Bool.false_eq_true,if_false,Option.bind_some]
    have:=ih (pre++[x]) (by simpa using hp)
    simpa using this
   ·simp only[if_true,Option.bind_some]
    cases r x<;>rfl
 have k:=key l [] rfl
 rw[List.length_nil]at k
 rw[show s=()from rfl,k,Option.bind_some]
 cases l.find? p with
 |none=>rfl
 |some x=>
  simp only
  cases r x<;>rfl
theorem Qn (l:List bJ) (hl:cB nX l) (k:az) (v:fN):vG l k v=some (Ao l k v):=by
 unfold vG Ao
 split
 ·rfl
 split
 ·rfl
 split
 ·rfl
 rw[W8 (p:=fun p=>decide (p.number=v.dV)) (r:=fun p=>(p.jq.find? fun s=>decide (s.key=k)).map (·.level)) hl.1 ?_]
 ·cases hf:l.find? fun p=>decide (p.number=v.dV)with
  |none=>rfl
  |some p=>
   simp only
   cases p.jq.find? fun s=>decide (s.key=k)<;>rfl
 intro i p hp
 have L5:=hl.2 p (List.mem_of_getElem? hp)
 by_cases hn:p.number=v.dV
 ·simp only[hn,not_true_eq_false,if_false,decide_true,if_true]
  rw[E1 (p:=fun s=>decide (s.key=k)) (r:=fun s=>s.level) L5.2.2.1 (by intro i x _;simp only[decide_eq_true_eq,Ze])]
  cases p.jq.find? fun s=>decide (s.key=k)<;>rfl
 ·simp [hn]
def Gp (l:List aM) (i:Nat) (m:aM):Int:=
 if(!(aZ m.key.unit 1 9999))=true then 1
 else if(!(qq m.key.param))=true then 5
 else if((m.release&&(decide (¬(m.value=(⟨0,0⟩:fN)))))||((decide (¬(m.value.level=0)))&&(decide (¬(m.value.dV=0)))))=true then 3
 else if((!(aZ m.value.level 0 65535))||(!(aZ m.value.dV 0 999)))=true then 1
 else if((!m.yw)&&((decide (¬(m.delay=0)))||(decide (¬(m.time=0)))))=true then 3
 else if((!(aZ m.delay 0 36000000))||(!(aZ m.time 0 36000000)))=true then 1
 else if(decide (0<(i:Int))&&!dr (pv l i).key m.key)=true then 7 else 0
def AA (l:List aM):Int:=gp (Gp l) l 0
theorem VZ (l:List aM) (hl:cB rC l):zI l=some (AA l):=by
 unfold zI AA
 rw[BU (f:=Gp l) hl.1 ?_]
 ·split
  ·rename_i h;rw[h]
  ·rfl
 intro i m hm
 have hmm:=hl.2 m (List.mem_of_getElem? hm)
 simp only[F0 hm hl.1,Option.bind_some,oa hmm.1.2,compare_eq,IU,Yb]
 unfold Gp
 repeat first|exact go_ret|refine FR (by decide) ?_
def uH (l:List aG) (i:Nat) (c:aG):Int:=
 if(!(aZ c.number 1 9999999))=true then 1
 else if(decide (0<(i:Int))&&decide (c.number≤(pv l i).number))=true then 7
 else if(!(yf c.title))=true then 3
 else if(((((!(aZ c.delay 0 36000000))||(!(aZ c.up 0 36000000)))||(!(aZ c.down 0 36000000)))||(!(aZ c.other 0 36000000)))||(!(aZ c.follow (-1) 36000000)))=true then 1
 else if ¬(ur c.fB=0)then ur c.fB
 else if 2000<(c.aL.length:Int)then 2
 else AA c.aL
def Kw (l:List aG):Int:=l.foldl (fun s c=>IntKind.i64.wrap (s+(c.aL.length:Int))) 0
def l7 (l:List aG):Int:=
 if 300<(l.length:Int)then 2 else if ¬(gp (uH l) l 0=0)then gp (uH l) l 0 else if 10000<Kw l then 2 else 0
theorem X5 {α γ S B:Type} {f:Nat→α→Int} {g:S→α→S} {l:List α} {body:Nat→α→S→Option (Lr S B Int)} {fin:S→Option B} {s:S} {K1:B→Option γ} {K2:Int→Option γ} (hl:l.length≤br) (hb:∀i x s,l[i]? =some x→body i x s=some (if f i x=0 then .go (g s x)else .ret (f i x))):iL l body fin s K1 K2=if gp f l 0=0 then(fin (l.foldl g s)).bind K1 else K2 (gp f l 0):=by
 rw[B7 hl]
 have key:∀(rest pre:List α) (s:S),l=pre++rest→jK body fin rest pre.length s=if gp f rest pre.length=0 then(fin (rest.foldl g s)).map .inl else some (.inr (gp f rest pre.length)):=by
  intro rest
  induction rest with
  |nil=>intro pre s _;simp [jK,gp]
  |cons x rest ih=>
   intro pre s hp
   rw[jK,hb pre.length x s (by rw[hp];simp),Option.bind_some,gp]
   by_cases h:f pre.length x=0
   ·simp only[h,if_true]
    have:=ih (pre++[x]) (g s x) (by simpa using hp)
    simpa using this
   ·simp only[h,if_false]
 have k:=key l [] s rfl
 rw[List.length_nil]at k
 rw[k]
 split
 ·cases fin (l.foldl g s)<;>rfl
 ·rfl
theorem Zf {S B:Type} {p:Prop} [Decidable p] {k f:Int} {t:S} {Y:Option (Lr S B Int)} (hk:k≠0) (h:Y=some (if f=0 then .go t else .ret f)):(if p then some (.ret k)else Y)=some (if(if p then k else f)=0 then .go t else .ret (if p then k else f)):=by
 by_cases hp:p
 ·simp [hp,hk]
 ·simp [hp,h]
theorem Yf {S B:Type} {k f:Int} {t:S} {Y:Option (Lr S B Int)} (h:Y=some (if f=0 then .go t else .ret f)):(if ¬(k=0)then some (.ret k)else Y)=some (if(if ¬(k=0)then k else f)=0 then .go t else .ret (if ¬(k=0)then k else f)):=by
 by_cases hp:k=0
 ·simp [hp,h]
 ·simp [hp]
theorem OE {S B:Type} {k:Int} {t:S}:(if ¬(k=0)then some (.ret k)else some (.go t):Option (Lr S B Int))=some (if k=0 then .go t else .ret k):=by
 by_cases hp:k=0<;>simp [hp]
theorem Rm (l:List aG) (hl:cB mP l):zT l=some (l7 l):=by
 unfold zT l7
 split
 ·rfl
 rw[X5 (f:=uH l) (g:=fun s c=>IntKind.i64.wrap (s+(c.aL.length:Int))) hl.1 ?_]
 ·show(if gp (uH l) l 0=0 then some (if decide (10000<Kw l)=true then(2:Int)else 0)else some (gp (uH l) l 0))=_
  by_cases h:gp (uH l) l 0=0
  ·by_cases h2:10000<Kw l<;>simp [h,h2]
  ·simp [h]
 intro i c s hc
 obtain⟨_,ht,_,_,_,_,_,_,hm⟩:=hl.2 c (List.mem_of_getElem? hc)
 simp only[F0 hc hl.1,Option.bind_some,oa ht,VZ _ hm,IU,Wy]
 unfold uH
 repeat first|exact OE|refine Zf (by decide) ?_|refine Yf ?_
def qA (r:aV) (ak:List bJ) (m:aM):Int:=
 if(!wR r m.key)=true then 8 else(Ao ak m.key m.value).2
def AI (r:aV) (ak:List bJ) (l:List aG):Int:=gp (fun _ c=>gp (fun _ m=>qA r ak m) c.aL 0) l 0
def gJ (r:aV) (ak:List bJ) (l:List aG):Int:=
 if ¬(nY r ak=0)then nY r ak else if ¬(l7 l=0)then l7 l else AI r ak l
theorem Ng {r:aV} {l:List bJ} (h:nY r l=0):cN r=0:=by
 unfold nY at h
 by_cases h0:cN r=0
 ·exact h0
 ·rw[if_pos h0]at h;exact h
theorem WD {c:aG} (h:mP c):cB rC c.aL:=by
 obtain⟨_,_,_,_,_,_,_,_,hm⟩:=h;exact hm
theorem Nr (r:aV) (ak:List bJ) (l:List aG) (hr:gK r) (hp:cB nX ak) (hl:cB mP l):Bx r ak l=some (gJ r ak l):=by
 unfold Bx gJ
 simp only[Vu r ak hr hp,Rm l hl,Option.bind_some]
 rw[oa (by show 2≤br;unfold br;omega)]
 simp only[Sg,Option.bind_some]
 by_cases h0:nY r ak=0
 case neg=>simp [h0]
 by_cases h1:l7 l=0
 case neg=>simp [h0,h1]
 have cR:=Ng h0
 have nS:=Fu cR
 simp only[h0,h1,not_true_eq_false,if_false,oa hr,Option.bind_some,cR,if_true]
 rw[zW (fun s x=>eo x true s) (fun _ _=>True) (by unfold br;omega) trivial (fun _ _ _ _ _=>trivial) (fun _ _ _ _ _=>rfl)]
 simp only[Option.bind_some]
 have has:∀k,(bA k ((ig r).foldl (fun s x=>eo x true s) [])).getD false=wR r k:=by
  intro k;rw[Ja,Jm cR];simp [bA]
 rw[BU (f:=fun _ c=>gp (fun _ m=>qA r ak m) c.aL 0) hl.1 ?_]
 ·show(if AI r ak l=0 then some (0:Int)else some (AI r ak l))=_
  split
  ·rename_i h;rw[h]
  ·rfl
 intro i c hc
 rw[BU (f:=fun _ m=>qA r ak m) (WD (hl.2 c (List.mem_of_getElem? hc))).1 ?_]
 ·exact Pr _
 intro j m hm
 simp only[has,Qn ak hp,Option.bind_some]
 unfold qA
 repeat first|exact OE|refine FR (by decide) ?_
end
section
set_option maxRecDepth 100000
noncomputable def HN (a0:aG) (a1:Int):Option Int:=
 some (IntKind.i64.wrap (a0.number-a1))
theorem Vr {a0:aG} {a1:Int} {σ:Heap} {r:Int} (h:HN a0 a1=some r):xA [(U.agg (aQ a0)),(U.int .i64 a1)] σ=some ((U.int .i64 r),σ):=by
 refine xW (f:=HM) (y0:=(U.agg (aQ a0))) (y1:=(U.int .i64 a1)) (enc:=fun r:Int=>(U.int .i64 r)) (T:=HN a0 a1) (bU (tE rfl) rfl) rfl ?_ r h
 unfold HM HN
 refine an _ rfl<|an _ rfl<|an _ rfl ?_
 exact fu _ (cV _ _) ⟨rfl,rfl⟩
noncomputable def Eo (a0:aM) (a1:az):Option Int:=
 (xB a0.key a1).bind fun r1=>
 some r1
theorem Vk {a0:aM} {a1:az} {σ:Heap} {r:Int} (h:Eo a0 a1=some r):Bu [(U.agg (aK a0)),(U.agg (aH a1))] σ=some ((U.int .i64 r),σ):=by
 refine xW (f:=HJ) (y0:=(U.agg (aK a0))) (y1:=(U.agg (aH a1))) (enc:=fun r:Int=>(U.int .i64 r)) (T:=Eo a0 a1) rfl rfl ?_ r h
 unfold HJ Eo
 refine an _ rfl<|an _ rfl<|an _ rfl<|an _ rfl ?_
 refine jA (fun r1:Int=>((U.int .i64 r1),σ)) (fun r1 oI=>M4 oI) (fun r1 oI=>?_)
 exact fu _ (cV _ _) ⟨rfl,rfl⟩
noncomputable def BH (a0:(List aG)):Option (List (az×bB)):=
 iL a0 (fun(zf:Nat) e9 (s3:(List (az×bB)))=>(show Option (Lr (List (az×bB)) (List (az×bB)) Unit)from
   iL e9.aL (fun(Md:Nat) gW (fS:(List (az×bB)))=>(show Option (Lr (List (az×bB)) (List (az×bB)) Unit)from
     (show Option (List (az×bB))from
       if gW.release=true then
        some (oA gW.key fS)
       else
       some (eo gW.key (⟨(⟨gW.key.unit,gW.key.param⟩:az),(⟨gW.value.level,gW.value.dV⟩:fN),e9.number⟩:bB) fS)).bind fun GZ=>
     some (.go GZ))) (fun fS=>some fS) s3 (fun yL=>
    some (.go yL)) (fun yL=>
    none))) (fun s3=>some s3) ([]:List (az×bB)) (fun b4=>
  some b4) (fun b4=>
  none)
theorem NB {a0:(List aG)} {σ:Heap} {r:(List (az×bB))} (h:BH a0=some r):vH [(sl 11 aQ a0)] σ=some ((qE (fun x=>(U.agg (aH x))) (fun x=>(U.agg (jc x))) r),σ):=by
 refine B2 (f:=Is) (y0:=(sl 11 aQ a0)) (enc:=fun r:(List (az×bB))=>(qE (fun x=>(U.agg (aH x))) (fun x=>(U.agg (jc x))) r)) (T:=BH a0) (bU (gM (fun _=>rfl) _) rfl) rfl ?_ r h
 unfold Is BH
 have hp1:Hp σ σ []:=F9 σ
 have hp2:Hp σ (σ++[aO.map []]) [((U.om σ.length),(Ct.m (List.map (fun p=>((fun x=>(U.agg (aH x))) p.1,(fun x=>(U.agg (jc x))) p.2)) ([]:List (az×bB)))))]:=Ks hp1
 refine an _ (dU _ _ _) ?_
 refine lZ (B:=(List (az×bB))) (R:=Unit) (fun(zf:Nat) (s3:(List (az×bB))) v w5=>v=[(U.int .i64 (zf:Int))]∧Hp σ w5 [((U.om σ.length),(Ct.m (List.map (fun p=>((fun x=>(U.agg (aH x))) p.1,(fun x=>(U.agg (jc x))) p.2)) s3)))]) (fun(b4:(List (az×bB))) (q:LS)=>∃T7 w6,q=((AX.exit 0),([T7]:List U),w6)∧Hp σ w6 [((U.om σ.length),(Ct.m (List.map (fun p=>((fun x=>(U.agg (aH x))) p.1,(fun x=>(U.agg (jc x))) p.2)) b4)))]) (fun(b4:Unit) (q:LS)=>False) ?_ ?_ ⟨rfl,hp2⟩ ?_ ?_
 ·intro Lg zf e9 s3 v w5 y9 hI
  obtain⟨rfl,zb⟩:=hI
  refine an _ (iq y9)<|mg<|an _ (fW y9)<|an _ rfl<|an _ rfl<|an _ (Cd _ _ rfl)<|an (sl 8 aK e9.aL) rfl<|an _ (dU _ _ _) ?_
  refine lZ (B:=(List (az×bB))) (R:=Unit) (fun(Md:Nat) (fS:(List (az×bB))) v Mu=>v=[(U.lbx (aQ e9)),(U.int .i64 (Md:Int))]∧Hp σ Mu [((U.om σ.length),(Ct.m (List.map (fun p=>((fun x=>(U.agg (aH x))) p.1,(fun x=>(U.agg (jc x))) p.2)) fS)))]) (fun(yL:(List (az×bB))) (q:LS)=>∃u5 T8 zu,q=((AX.exit 2),([u5,T8]:List U),zu)∧Hp σ zu [((U.om σ.length),(Ct.m (List.map (fun p=>((fun x=>(U.agg (aH x))) p.1,(fun x=>(U.agg (jc x))) p.2)) yL)))]) (fun(yL:Unit) (q:LS)=>False) ?_ ?_ ⟨rfl,zb⟩ ?_ ?_
  ·intro ab9 Md gW fS v Mu K8 hI
   obtain⟨rfl,GC⟩:=hI
   refine an _ (iq K8)<|mg<|an _ (fW K8)<|an _ rfl<|an _ rfl<|an _ (xX _ _ rfl)<|an _ rfl ?_
   refine S8 (ω:=(List (az×bB))) (fun GZ a=>∃Mw,a=(([(U.lbx (aQ e9))]:List U),Mw)∧Hp σ Mw [((U.om σ.length),(Ct.m (List.map (fun p=>((fun x=>(U.agg (aH x))) p.1,(fun x=>(U.agg (jc x))) p.2)) GZ)))]) (
     by
      refine iJ (c:=gW.release) (fun jD=>?_) (fun jD=>?_)
      ·refine an _ rfl ?_
       obtain⟨zw,e21,SQ⟩:=aaj (ek:=(.s [0,2])) (eK:=(fun x=>(U.agg (aH x)))) (eV:=(fun x=>(U.agg (jc x)))) GC 0 rfl uo gW.key rfl
       change Hp σ zw [((U.om σ.length),(Ct.m (List.map (fun p=>((fun x=>(U.agg (aH x))) p.1,(fun x=>(U.agg (jc x))) p.2)) (oA gW.key fS))))]at SQ
       refine an zw e21 ?_
       exact bK ⟨_,rfl,SQ⟩
      refine an _ rfl<|an _ rfl<|an _ rfl<|an _ rfl<|an _ rfl<|an (U.agg (jc (⟨(⟨gW.key.unit,gW.key.param⟩:az),(⟨gW.value.level,gW.value.dV⟩:fN),e9.number⟩:bB))) rfl ?_
      obtain⟨Ud,C9,AP⟩:=JO (ek:=(.s [0,2])) (eK:=(fun x=>(U.agg (aH x)))) (eV:=(fun x=>(U.agg (jc x)))) GC 0 rfl uo gW.key (⟨(⟨gW.key.unit,gW.key.param⟩:az),(⟨gW.value.level,gW.value.dV⟩:fN),e9.number⟩:bB) rfl
      change Hp σ Ud [((U.om σ.length),(Ct.m (List.map (fun p=>((fun x=>(U.agg (aH x))) p.1,(fun x=>(U.agg (jc x))) p.2)) (eo gW.key (⟨(⟨gW.key.unit,gW.key.param⟩:az),(⟨gW.value.level,gW.value.dV⟩:fN),e9.number⟩:bB) fS))))]at AP
      refine an Ud C9 ?_
      exact bK ⟨_,rfl,AP⟩
     ) (fun GZ a ha=>?_)
   obtain⟨Mw,rfl,adq⟩:=ha
   refine an _ (fZ K8 ab9) ?_
   exact bK (l5 ⟨rfl,adq⟩)
  ·intro hl fS v Mu hI
   obtain⟨rfl,GC⟩:=hI
   refine an _ (ia _)<|me ?_
   exact bK ⟨by simp,⟨_,_,_,rfl,GC⟩⟩
  ·intro hl yL q hq
   obtain⟨u5,T8,zu,rfl,GD⟩:=hq
   refine gL rfl<|an _ (fZ y9 Lg) ?_
   exact bK (l5 ⟨rfl,GD⟩)
  ·intro hl yL q hq
   exact False.elim hq
 ·intro hl s3 v w5 hI
  obtain⟨rfl,zb⟩:=hI
  refine an _ (ia _)<|me ?_
  exact bK ⟨by simp,⟨_,_,rfl,zb⟩⟩
 ·intro hl b4 q hq
  obtain⟨T7,w6,rfl,ve⟩:=hq
  refine gL rfl ?_
  exact fu _ (Cj ve (Ro ve (k:=0) rfl (by intro p hp;obtain⟨x,_,rfl⟩:=List.mem_map.1 hp;exact⟨(rz (uq _)),(rz (X7 _))⟩))) ⟨rfl,rfl⟩
 ·intro hl b4 q hq
  exact False.elim hq
end
theorem JN {i j:Nat} (h:i+j<9223372036854775808):A.shr (.int .u64 ((i+j:Nat):Int)) (.int .u64 1)=some (.int .u64 (((i+j) / 2:Nat):Int)):=by
 simp only[A.shr]
 rw[if_neg (by decide)]
 congr 2
 rw[show(2:Int) ^ (min (Int.toNat 1) IntKind.u64.bits)=2 from rfl,Int.fdiv_eq_ediv_of_nonneg _ (by decide)]
 omega
theorem J1 {n:Nat} (h:n<9223372036854775808):A.conv .u64 (.int .i64 (n:Int))=some (.int .u64 (n:Int)):=by
 simp only[A.conv]
 congr 2
 unfold IntKind.wrap
 simp [IntKind.bits,IntKind.signed]
 omega
theorem JZ {n:Nat} (h:n<9223372036854775808):A.conv .i64 (.int .u64 (n:Int))=some (.int .i64 (n:Int)):=by
 simp only[A.conv]
 rw[wrap64 (by unfold aS;omega)]
theorem GG {a b:Nat} (h:a+b<9223372036854775808):A.add (.int .i64 (a:Int)) (.int .i64 (b:Int))=some (.int .i64 ((a+b:Nat):Int)):=by
 rw[Cx,wrap64 (by unfold aS;omega)];simp
theorem AH {a:Nat} (h:a+1<9223372036854775808):A.add (.int .i64 (a:Int)) (.int .i64 1)=some (.int .i64 ((a+1:Nat):Int)):=GG (b:=1) h
theorem uQ (a b:Nat):A.lss (.int .i64 (a:Int)) (.int .i64 (b:Int))=some (.bool (decide (a<b))):=by
 rw[uG]
 have:((a:Int)<(b:Int))=(a<b):=propext ⟨fun h=>by omega,fun h=>by omega⟩
 simp only[this]
theorem KC (a:Int):A.lss (.int .i64 a) (.int .i64 0)=some (.bool (decide (a<0))):=by rw[uG]
theorem LP {α:Type} {X Y:α}:(bif (AX.exit 0==AX.exit 0)then X else Y)=X:=rfl
theorem Qo {f:List U→Heap→Option (AX×List U×Heap)} {σ:Heap} (pv:Nat→Nat→List U) {v0:List U} {n p:Nat} (hp:p≤n) (h0:v0=pv 0 n)
  (hs:∀i j,i<j→j≤n→f (pv i j) σ=some (.normal,if(i+j) / 2<p then pv ((i+j) / 2+1) j else pv i ((i+j) / 2),σ))
  (he:∀i,i≤n→f (pv i i) σ=some (.exit 0,pv i i,σ)):A.loop f v0 σ=some (.exit 0,pv p p,σ):=by
 subst h0
 have key:∀k i j,j-i≤k→i≤p→p≤j→j≤n→∃m,A.iter f m (pv i j) σ=some (.exit 0,pv p p,σ):=by
  intro k
  induction k with
  |zero=>
   intro i j hk h1 h2 h3
   have:i=p:=by omega
   have:j=p:=by omega
   subst i;subst j
   exact oO (he p h3) (by simp)
  |succ k ih=>
   intro i j hk h1 h2 h3
   by_cases hij:i<j
   ·have hstep:=hs i j hij h3
    by_cases hh:(i+j) / 2<p
    ·rw[if_pos hh]at hstep
     exact vJ hstep (ih _ _ (by omega) (by omega) h2 h3)
    ·rw[if_neg hh]at hstep
     exact vJ hstep (ih _ _ (by omega) h1 (by omega) (by omega))
   ·have:i=p:=by omega
    have:j=p:=by omega
    subst i;subst j
    exact oO (he p h3) (by simp)
 obtain⟨m,hm⟩:=key n 0 n (by omega) (by omega) hp (Nat.le_refl _)
 exact xC hm
theorem bsM {dyn:Nat→List U→Heap→Option (U×Heap)} {l:List aM} {fn:Nat} {k:az} {cv:aM→Int} {p:Nat} {σ:Heap} (hl:l.length<4611686018427387904) (hp:p≤l.length)
  (hd:∀x∈l,dyn fn [.agg (aK x),.agg (aH k)] σ=some (.int .i64 (cv x),σ)) (hc:∀h x,l[h]? =some x→(cv x<0↔h<p)):
  DY dyn [sl 8 aK l,.agg (aH k),.fn fn []] σ=some (.aA [.int .i64 (p:Int),.bool ((l[p]?).any fun x=>decide (cv x=0))],σ):=by
 refine wrap_eq rfl ?_ rfl
 show DZ dyn (sl 8 aK l) (.agg (aH k)) (.fn fn []) σ=_
 unfold DZ
 rw[show A.cells 2 (.agg (aH k))=some (aH k)from rfl,Option.bind_some,dU,Option.bind_some]
 rw[Qo (v0:=[.lbx (aH k),.int .i64 0,.int .i64 (l.length:Int)]) (fun i j=>[.lbx (aH k),.int .i64 (i:Int),.int .i64 (j:Int)]) hp rfl ?_ ?_,Option.bind_some]
 ·simp only[LP,List.getD_cons_succ,List.getD_cons_zero]
  rw[uQ,Option.bind_some]
  by_cases hpl:p<l.length
  ·have hx:l[p]? =some l[p]:=List.getElem?_eq_getElem hpl
   have mB:=hd _ (List.mem_of_getElem? hx)
   have gf:=iS 8 aK l hx
   have hq:=quiet_of (by show A.fO dyn (.fn fn []) [.agg (aK l[p]),.agg (aH k)] σ=_;simp only[A.fO,List.append_nil];exact mB)
   simp only[decide_eq_true hpl,A.guard,beq_self_eq_true,cond_true,Option.bind_some,List.getD_cons_succ,List.getD_cons_zero,gf,A.deref,xV,A.lb,A.aq,A.aD,A.pick,hx,Option.any_some]
   show((A.quiet (A.fO dyn (.fn fn []) [.agg (aK l[p]),.agg (aH k)] σ) σ).bind _)=_
   rw[hq,Option.bind_some,oB]
   exact cV _ _
  ·have hx:l[p]? =none:=List.getElem?_eq_none (by omega)
   simp only[decide_eq_false hpl,A.guard,Option.bind_some,A.pick,hx,Option.any_none]
   exact cV _ _
 ·intro i j hij hj
  have hlt:(i+j) / 2<l.length:=by omega
  have hx:l[(i+j) / 2]? =some l[(i+j) / 2]:=List.getElem?_eq_getElem hlt
  have mB:=hd _ (List.mem_of_getElem? hx)
  have gf:=iS 8 aK l hx
  have hq:=quiet_of (by show A.fO dyn (.fn fn []) [.agg (aK l[(i+j) / 2]),.agg (aH k)] σ=_;simp only[A.fO,List.append_nil];exact mB)
  simp only[List.getD_cons_succ,List.getD_cons_zero]
  rw[uQ,Option.bind_some,decide_eq_true hij]
  simp only[A.cond,cond_true]
  rw[GG (by omega),Option.bind_some,J1 (by omega),Option.bind_some,JN (by omega),Option.bind_some,JZ (by omega),Option.bind_some,gf,Option.bind_some]
  simp only[A.deref,Option.bind_some,xV,A.lb]
  show((A.quiet (A.fO dyn (.fn fn []) [.agg (aK l[(i+j) / 2]),.agg (aH k)] σ) σ).bind _)=_
  rw[hq,Option.bind_some,KC,Option.bind_some]
  by_cases hh:(i+j) / 2<p
  ·have:=(hc _ _ hx).2 hh
   rw[decide_eq_true this,if_pos hh]
   simp only[cond_true,AH (show(i+j) / 2+1<9223372036854775808 by omega),Option.bind_some]
   rfl
  ·have:¬(cv l[(i+j) / 2]<0):=fun e=>hh ((hc _ _ hx).1 e)
   rw[decide_eq_false this,if_neg hh]
   rfl
 ·intro i hi
  simp only[List.getD_cons_succ,List.getD_cons_zero]
  rw[uQ,Option.bind_some,decide_eq_false (Nat.lt_irrefl i)]
  rfl
theorem bsC {dyn:Nat→List U→Heap→Option (U×Heap)} {l:List aG} {fn:Nat} {k:Int} {cv:aG→Int} {p:Nat} {σ:Heap} (hl:l.length<4611686018427387904) (hp:p≤l.length)
  (hd:∀x∈l,dyn fn [.agg (aQ x),.int .i64 k] σ=some (.int .i64 (cv x),σ)) (hc:∀h x,l[h]? =some x→(cv x<0↔h<p)):
  zC dyn [sl 11 aQ l,.int .i64 k,.fn fn []] σ=some (.aA [.int .i64 (p:Int),.bool ((l[p]?).any fun x=>decide (cv x=0))],σ):=by
 refine wrap_eq rfl ?_ rfl
 show zD dyn (sl 11 aQ l) (.int .i64 k) (.fn fn []) σ=_
 unfold zD
 rw[dU,Option.bind_some]
 rw[Qo (v0:=[.int .i64 0,.int .i64 (l.length:Int)]) (fun i j=>[.int .i64 (i:Int),.int .i64 (j:Int)]) hp rfl ?_ ?_,Option.bind_some]
 ·simp only[LP,List.getD_cons_succ,List.getD_cons_zero]
  rw[uQ,Option.bind_some]
  by_cases hpl:p<l.length
  ·have hx:l[p]? =some l[p]:=List.getElem?_eq_getElem hpl
   have mB:=hd _ (List.mem_of_getElem? hx)
   have gf:=iS 11 aQ l hx
   have hq:=quiet_of (by show A.fO dyn (.fn fn []) [.agg (aQ l[p]),.int .i64 k] σ=_;simp only[A.fO,List.append_nil];exact mB)
   simp only[decide_eq_true hpl,A.guard,beq_self_eq_true,cond_true,Option.bind_some,List.getD_cons_succ,List.getD_cons_zero,gf,A.deref,xZ,A.lb,A.aq,A.aD,A.pick,hx,Option.any_some]
   show((A.quiet (A.fO dyn (.fn fn []) [.agg (aQ l[p]),.int .i64 k] σ) σ).bind _)=_
   rw[hq,Option.bind_some,oB]
   exact cV _ _
  ·have hx:l[p]? =none:=List.getElem?_eq_none (by omega)
   simp only[decide_eq_false hpl,A.guard,Option.bind_some,A.pick,hx,Option.any_none]
   exact cV _ _
 ·intro i j hij hj
  have hlt:(i+j) / 2<l.length:=by omega
  have hx:l[(i+j) / 2]? =some l[(i+j) / 2]:=List.getElem?_eq_getElem hlt
  have mB:=hd _ (List.mem_of_getElem? hx)
  have gf:=iS 11 aQ l hx
  have hq:A.fO dyn (.fn fn []) [.agg (aQ l[(i+j) / 2]),.int .i64 k] σ=some (.int .i64 (cv l[(i+j) / 2]),σ):=by simp only[A.fO,List.append_nil];exact mB
  simp only[List.getD_cons_succ,List.getD_cons_zero]
  rw[uQ,Option.bind_some,decide_eq_true hij]
  simp only[A.cond,cond_true]
  rw[GG (by omega),Option.bind_some,J1 (by omega),Option.bind_some,JN (by omega),Option.bind_some,JZ (by omega),Option.bind_some,gf,Option.bind_some]
  simp only[A.deref,Option.bind_some,xZ,A.lb]
  rw[hq,Option.bind_some,KC,Option.bind_some]
  by_cases hh:(i+j) / 2<p
  ·have:=(hc _ _ hx).2 hh
   rw[decide_eq_true this,if_pos hh]
   simp only[cond_true,AH (show(i+j) / 2+1<9223372036854775808 by omega),Option.bind_some]
   rfl
  ·have:¬(cv l[(i+j) / 2]<0):=fun e=>hh ((hc _ _ hx).1 e)
   rw[decide_eq_false this,if_neg hh]
   rfl
 ·intro i hi
  simp only[List.getD_cons_succ,List.getD_cons_zero]
  rw[uQ,Option.bind_some,decide_eq_false (Nat.lt_irrefl i)]
  rfl
section
open Go.Sort
theorem Ri:∀a:List UInt8,Op.bytesLess a a=false
 |[]=>rfl
 |x::l=>by simp [Op.bytesLess,UInt8.lt_irrefl,Ri l]
theorem Pg:∀a b c:List UInt8,Op.bytesLess a b=true→Op.bytesLess b c=true→Op.bytesLess a c=true
 |[],[],c,h,_=>by simp [Op.bytesLess]at h
 |[],_::_,[],_,k=>by simp [Op.bytesLess]at k
 |[],_::_,_::_,_,_=>rfl
 |_::_,[],c,h,_=>by simp [Op.bytesLess]at h
 |_::_,_::_,[],_,k=>by simp [Op.bytesLess]at k
 |x::a,y::b,z::c,h,k=>by
  rw[Op.bytesLess]at h k ⊢
  simp only[Bool.or_eq_true,Bool.and_eq_true,decide_eq_true_eq,beq_iff_eq]at h k ⊢
  rcases h with h|⟨rfl,h⟩<;>rcases k with k|⟨rfl,k⟩
  ·exact .inl (UInt8.lt_trans h k)
  ·exact .inl h
  ·exact .inl k
  ·exact .inr ⟨rfl,Pg a b c h k⟩
theorem qm (a:az):dr a a=false:=by simp [dr,Ri]
theorem E4 {a b c:az} (h:dr a b=true) (k:dr b c=true):dr a c=true:=by
 simp only[dr,Bool.or_eq_true,Bool.and_eq_true,decide_eq_true_eq]at h k ⊢
 rcases h with h|⟨h1,h2⟩<;>rcases k with k|⟨k1,k2⟩
 ·left;omega
 ·left;omega
 ·left;omega
 ·right;exact⟨by omega,Pg _ _ _ h2 k2⟩
theorem QG {a b:az} (h:dr a b=false) (k:dr b a=false):a=b:=by
 rw[←Qr]
 have h1:¬nJ a b<0:=fun e=>by rw[(JI a b).1 e]at h;cases h
 have hba:nJ b a=-nJ a b∨True:=.inr trivial
 -- what is neither smaller nor greater is the same
 unfold nJ at h1 ⊢
 simp only[dr,Bool.or_eq_false_iff,Bool.and_eq_false_iff,decide_eq_false_iff_not]at h k
 have hu:a.unit=b.unit:=by omega
 simp only[hu,not_true_eq_false,if_false]at h1 ⊢
 have e1:Op.bytesLess a.param.data.toList b.param.data.toList=false:=by
  rcases h.2 with q|q
  ·exact absurd hu q
  ·simpa [FD]using q
 have e2:Op.bytesLess b.param.data.toList a.param.data.toList=false:=by
  rcases k.2 with q|q
  ·exact absurd hu.symm q
  ·simpa [FD]using q
 rw[JG]
 have tri:∀x y:List UInt8,Op.bytesLess x y=false→Op.bytesLess y x=false→x=y:=by
  intro x
  induction x with
  |nil=>intro y p q;cases y with|nil=>rfl|cons y l=>simp [Op.bytesLess]at p
  |cons x xs ih=>
   intro y p q
   cases y with
   |nil=>simp [Op.bytesLess]at q
   |cons y ys=>
    rw[Op.bytesLess]at p q
    by_cases h1:x<y
    ·simp [h1]at p
    ·by_cases h2:y<x
     ·simp [h2]at q
     ·have:x=y:=UInt8.le_antisymm (UInt8.not_lt.1 h2) (UInt8.not_lt.1 h1)
      subst this
      simp [h1]at p q
      rw[ih ys p q]
 exact tri _ _ e1 e2
end
def eG (l:List aM):Prop:=l.Pairwise fun a b=>dr a.key b.key=true
def cS (l:List aM) (k:az):Nat:=(l.takeWhile fun m=>dr m.key k).length
def gq (l:List aM) (k:az):Bool:=l.any fun m=>decide (m.key=k)
theorem Q3 (l:List aM) (k:az):cS l k≤l.length:=(List.takeWhile_prefix _).length_le
theorem ya {l:List aM} {k:az} (h:eG l):∀{i:Nat} {x:aM},l[i]? =some x→(dr x.key k=true↔i<cS l k):=by
 induction l with
 |nil=>intro i x hx;simp at hx
 |cons a l ih=>
  intro i x hx
  have hs:=List.pairwise_cons.1 h
  unfold cS
  rw[List.takeWhile_cons]
  cases ha:dr a.key k
  ·simp only[Bool.false_eq_true,if_false,List.length_nil,Nat.not_lt_zero,iff_false,Bool.not_eq_true]
   cases i with
   |zero=>simp at hx;subst hx;exact ha
   |succ i=>
    simp only[List.getElem?_cons_succ]at hx
    have:=hs.1 x (List.mem_of_getElem? hx)
    cases hq:dr x.key k
    ·rfl
    ·rw[E4 this hq]at ha;cases ha
  ·simp only[if_true,List.length_cons]
   cases i with
   |zero=>simp at hx;subst hx;simp [ha]
   |succ i=>
    simp only[List.getElem?_cons_succ]at hx
    rw[ih hs.2 hx]
    unfold cS
    omega
theorem Fy {l:List aM} {k:az} (h:eG l):((l[cS l k]?).any fun x=>decide (x.key=k))=gq l k:=by
 rw[Bool.eq_iff_iff]
 constructor
 ·intro e
  cases hx:l[cS l k]? with
  |none=>rw[hx]at e;cases e
  |some x=>
   rw[hx]at e
   exact List.any_eq_true.2 ⟨x,List.mem_of_getElem? hx,e⟩
 ·intro e
  obtain⟨x,hm,hk⟩:=List.any_eq_true.1 e
  have hk:=of_decide_eq_true hk
  obtain⟨i,hi⟩:=List.mem_iff_getElem?.1 hm
  have h1:¬i<cS l k:=fun q=>by
   have:=(ya h hi).2 q
   rw[hk,qm]at this;cases this
  have h2:¬cS l k<i:=fun q=>by
   have hp:cS l k<l.length:=Nat.lt_trans q (List.getElem?_eq_some_iff.1 hi).1
   have hy:l[cS l k]? =some l[cS l k]:=List.getElem?_eq_getElem hp
   have h3:¬dr l[cS l k].key k=true:=fun q'=>Nat.lt_irrefl _ ((ya h hy).1 q')
   have h4:=List.pairwise_iff_getElem.1 h (cS l k) i hp (List.getElem?_eq_some_iff.1 hi).1 q
   rw[(List.getElem?_eq_some_iff.1 hi).2,hk]at h4
   exact h3 h4
  have:cS l k=i:=by omega
  rw[this,hi];simp [hk]
theorem Zr {c:aG} (hs:eG c.aL) (hl:c.aL.length<4611686018427387904) (k:az) (σ:Heap):vF [.agg (aQ c),.agg (aH k)] σ=some (.aA [.int .i64 (cS c.aL k:Int),.bool (gq c.aL k)],σ):=by
 refine wrap_eq rfl ?_ rfl
 show EG (.agg (aQ c)) (.agg (aH k)) σ=_
 unfold EG
 rw[Qp,Option.bind_some,show A.cells 2 (.agg (aH k))=some (aH k)from rfl,Option.bind_some,show A.aq 10 (aQ c)=some (sl 8 aK c.aL)from rfl,Option.bind_some,show A.aD 0 2 (aH k)=some (.agg (aH k))from rfl,Option.bind_some]
 rw[bsM (cv:=fun x=>nJ x.key k) (p:=cS c.aL k) hl (Q3 _ _) ?_ ?_,Option.bind_some]
 ·have e:((c.aL[cS c.aL k]?).any fun x=>decide (nJ x.key k=0))=gq c.aL k:=by
   rw[←Fy hs]
   congr 1
   funext x
   rw[decide_eq_decide,Qr]
  rw[e]
  exact cV _ _
 ·intro x hx
  exact Vk (r:=nJ x.key k) (by unfold Eo;rw[compare_eq];rfl)
 ·intro i x hx
  rw[JI,ya hs hx]
structure Good (l : List aG) : Prop where
 len:l.length≤300
 num:∀c∈l,1≤c.number∧c.number≤9999999
 ji:l.Pairwise fun a b=>a.number<b.number
 mv:∀c∈l,c.aL.length≤2000∧eG c.aL
 pts:∀c∈l,c.fB.points.length≤20
theorem IB {α:Type} [Inhabited α] {r:α→α→Prop} (tr:∀a b c,r a b→r b c→r a c):∀(l:List α),(∀i x,l[i+1]? =some x→r (l[i]?.getD default) x)→l.Pairwise r
 |[],_=>List.Pairwise.nil
 |[a],_=>by simp
 |a::b::l,h=>by
  have ih:=IB tr (b::l) (fun i x hx=>h (i+1) x hx)
  have hab:r a b:=h 0 b rfl
  refine List.pairwise_cons.2 ⟨fun x hx=>?_,ih⟩
  rcases List.mem_cons.1 hx with rfl|hx
  ·exact hab
  ·exact tr _ _ _ hab ((List.pairwise_cons.1 ih).1 x hx)
section
theorem Q5 {α:Type} [Inhabited α] (l:List α) (i:Nat):pv l (i+1)=l[i]?.getD default:=by
 simp [pv,List.getD_eq_getElem?_getD]
theorem Xb {l:List aM} (h:AA l=0):eG l:=by
 unfold AA at h
 refine IB (r:=fun a b:aM=>dr a.key b.key=true) (fun a b c=>E4) l fun i x hx=>?_
 have:=(zV l 0).1 h (i+1) x hx
 rw[Nat.zero_add]at this
 unfold Gp at this
 rw[←Q5]
 by_cases hq:dr (pv l (i+1)).key x.key=true
 ·exact hq
 ·exfalso
  have e:(decide (0<((i+1:Nat):Int))&&!dr (pv l (i+1)).key x.key)=true:=by
   rw[Bool.and_eq_true];exact⟨decide_eq_true (by omega),by simpa using hq⟩
  rw[e]at this
  repeat (first|(split at this;· cases this)|(simp at this;done)|(rename_i q;exact q rfl))
theorem rq {l:List aG} (h:l7 l=0):Good l:=by
 unfold l7 at h
 by_cases h1:300<(l.length:Int)
 ·simp [h1]at h
 rw[if_neg h1]at h
 by_cases h2:gp (uH l) l 0=0
 case neg=>rw[if_pos h2]at h;exact absurd h h2
 have hc:∀i x,l[i]? =some x→(1≤x.number∧x.number≤9999999)∧(0<i→(pv l i).number<x.number)∧x.aL.length≤2000∧AA x.aL=0∧x.fB.points.length≤20:=by
  intro i x hx
  have:=(zV l 0).1 h2 i x hx
  rw[Nat.zero_add]at this
  unfold uH at this
  split at this
  ·cases this
  rename_i a1
  split at this
  ·cases this
  rename_i a2
  split at this
  ·cases this
  split at this
  ·cases this
  split at this
  ·rename_i a5;exact absurd this a5
  rename_i a5
  split at this
  ·cases this
  rename_i a6
  have hpt:x.fB.points.length≤20:=by
   have a5:ur x.fB=0:=by simpa using a5
   unfold ur at a5
   split at a5
   ·cases a5
   split at a5
   ·split at a5
    ·cases a5
    split at a5
    ·cases a5
    omega
   ·split at a5
    ·cases a5
    omega
  refine⟨by simpa [aZ]using a1,fun hi=>?_,by omega,this,hpt⟩
  have hi':decide (0<(i:Int))=true:=decide_eq_true (by omega)
  rw[hi',Bool.true_and,decide_eq_true_eq]at a2
  omega
 refine⟨by omega,fun c lQ=>?_,?_,fun c lQ=>?_,fun c lQ=>?_⟩
 ·obtain⟨i,hi⟩:=List.mem_iff_getElem?.1 lQ
  exact(hc i c hi).1
 ·refine IB (r:=fun a b:aG=>a.number<b.number) (fun a b c=>Int.lt_trans) l fun i x hx=>?_
  rw[←Q5]
  exact(hc (i+1) x hx).2.1 (by omega)
 ·obtain⟨i,hi⟩:=List.mem_iff_getElem?.1 lQ
  exact⟨(hc i c hi).2.2.1,Xb (hc i c hi).2.2.2.1⟩
 ·obtain⟨i,hi⟩:=List.mem_iff_getElem?.1 lQ
  exact(hc i c hi).2.2.2.2
def dN (l:List aG) (n:Int):Nat:=(l.takeWhile fun c=>decide (c.number<n)).length
def lM (l:List aG) (n:Int):Bool:=l.any fun c=>decide (c.number=n)
theorem Q1 (l:List aG) (n:Int):dN l n≤l.length:=(List.takeWhile_prefix _).length_le
theorem JU {l:List aG} {n:Int} (h:l.Pairwise fun a b=>a.number<b.number):∀{i:Nat} {x:aG},l[i]? =some x→(x.number<n↔i<dN l n):=by
 induction l with
 |nil=>intro i x hx;simp at hx
 |cons a l ih=>
  intro i x hx
  have hs:=List.pairwise_cons.1 h
  unfold dN
  rw[List.takeWhile_cons]
  by_cases ha:a.number<n
  ·rw[decide_eq_true ha]
   simp only[if_true,List.length_cons]
   cases i with
   |zero=>simp at hx;subst hx;simp [ha]
   |succ i=>
    simp only[List.getElem?_cons_succ]at hx
    rw[ih hs.2 hx]
    unfold dN
    omega
  ·rw[decide_eq_false ha]
   simp only[Bool.false_eq_true,if_false,List.length_nil,Nat.not_lt_zero,iff_false]
   cases i with
   |zero=>simp at hx;subst hx;exact ha
   |succ i=>
    simp only[List.getElem?_cons_succ]at hx
    have:=hs.1 x (List.mem_of_getElem? hx)
    omega
theorem Aq {l:List aG} {n:Int} (h:l.Pairwise fun a b=>a.number<b.number) {i:Nat} {x:aG} (hx:l[i]? =some x) (hn:x.number=n):dN l n=i:=by
 have h1:¬i<dN l n:=fun q=>by have:=(JU h hx).2 q;omega
 have h2:¬dN l n<i:=fun q=>by
  have hp:dN l n<l.length:=Nat.lt_trans q (List.getElem?_eq_some_iff.1 hx).1
  have hy:l[dN l n]? =some l[dN l n]:=List.getElem?_eq_getElem hp
  have h3:¬l[dN l n].number<n:=fun q'=>Nat.lt_irrefl _ ((JU h hy).1 q')
  have h4:=List.pairwise_iff_getElem.1 h (dN l n) i hp (List.getElem?_eq_some_iff.1 hx).1 q
  rw[(List.getElem?_eq_some_iff.1 hx).2,hn]at h4
  exact h3 h4
 omega
theorem PX {l:List aG} {n:Int} (h:l.Pairwise fun a b=>a.number<b.number):((l[dN l n]?).any fun x=>decide (x.number=n))=lM l n:=by
 rw[Bool.eq_iff_iff]
 constructor
 ·intro e
  cases hx:l[dN l n]? with
  |none=>rw[hx]at e;cases e
  |some x=>rw[hx]at e;exact List.any_eq_true.2 ⟨x,List.mem_of_getElem? hx,e⟩
 ·intro e
  obtain⟨x,hm,hk⟩:=List.any_eq_true.1 e
  have hk:=of_decide_eq_true hk
  obtain⟨i,hi⟩:=List.mem_iff_getElem?.1 hm
  rw[Aq h hi hk,hi];simp [hk]
theorem ZU {f:List U→Heap→Option (AX×List U×Heap)} {σ:Heap} (pv:Nat→Nat→List U) {v0:List U} {n:Nat} (h0:v0=pv 0 n) (q:Nat→Bool)
  (hs:∀i j,i<j→j≤n→f (pv i j) σ=some (.normal,if q ((i+j) / 2)=true then pv ((i+j) / 2+1) j else pv i ((i+j) / 2),σ))
  (he:∀i,i≤n→f (pv i i) σ=some (.exit 0,pv i i,σ)):∃p,p≤n∧A.loop f v0 σ=some (.exit 0,pv p p,σ):=by
 subst h0
 have key:∀k i j,j-i≤k→i≤j→j≤n→∃p,p≤n∧∃m,A.iter f m (pv i j) σ=some (.exit 0,pv p p,σ):=by
  intro k
  induction k with
  |zero=>
   intro i j hk h1 h3
   have:i=j:=by omega
   subst i
   exact⟨j,h3,oO (he j h3) (by simp)⟩
  |succ k ih=>
   intro i j hk h1 h3
   by_cases hij:i<j
   ·have hstep:=hs i j hij h3
    by_cases hh:q ((i+j) / 2)=true
    ·rw[if_pos hh]at hstep
     obtain⟨p,hp,hm⟩:=ih _ _ (by omega) (show(i+j) / 2+1≤j by omega) h3
     exact⟨p,hp,vJ hstep hm⟩
    ·rw[if_neg hh]at hstep
     obtain⟨p,hp,hm⟩:=ih i ((i+j) / 2) (by omega) (by omega) (by omega)
     exact⟨p,hp,vJ hstep hm⟩
   ·have:i=j:=by omega
    subst i
    exact⟨j,h3,oO (he j h3) (by simp)⟩
 obtain⟨p,hp,m,hm⟩:=key n 0 n (by omega) (by omega) (Nat.le_refl _)
 exact⟨p,hp,xC hm⟩
theorem ZT {β:Type} {f:List U→Heap→Option (AX×List U×Heap)} {σ:Heap} {K:AX×List U×Heap→Option β} {r:Nat→β} (pv:Nat→Nat→List U) {v0:List U} {n:Nat} (h0:v0=pv 0 n) (q:Nat→Bool)
  (hs:∀i j,i<j→j≤n→f (pv i j) σ=some (.normal,if q ((i+j) / 2)=true then pv ((i+j) / 2+1) j else pv i ((i+j) / 2),σ))
  (he:∀i,i≤n→f (pv i i) σ=some (.exit 0,pv i i,σ)) (hK:∀p,p≤n→K (.exit 0,pv p p,σ)=some (r p)):∃p,p≤n∧(A.loop f v0 σ).bind K=some (r p):=by
 obtain⟨p,hp,h⟩:=ZU pv h0 q hs he
 exact⟨p,hp,by rw[h,Option.bind_some,hK p hp]⟩
theorem abp {dyn:Nat→List U→Heap→Option (U×Heap)} {l:List aG} {fn:Nat} {k:Int} {cv:aG→Int} {σ:Heap} (hl:l.length<4611686018427387904)
  (hd:∀x∈l,dyn fn [.agg (aQ x),.int .i64 k] σ=some (.int .i64 (cv x),σ)) (hc:∀x∈l,cv x≠0):
  ∃p:Nat,p≤l.length∧zC dyn [sl 11 aQ l,.int .i64 k,.fn fn []] σ=some (.aA [.int .i64 (p:Int),.bool false],σ):=by
 suffices h:∃p:Nat,p≤l.length∧zD dyn (sl 11 aQ l) (.int .i64 k) (.fn fn []) σ=some (.aA [.int .i64 (p:Int),.bool false],σ) by
  obtain⟨p,hp,h⟩:=h
  exact⟨p,hp,wrap_eq rfl h rfl⟩
 unfold zD
 rw[dU,Option.bind_some]
 refine ZT (v0:=[.int .i64 0,.int .i64 (l.length:Int)]) (r:=fun p=>((U.aA [.int .i64 (p:Int),.bool false],σ):U×Heap)) (fun i j=>[.int .i64 (i:Int),.int .i64 (j:Int)]) rfl (fun h=>((l[h]?).any fun x=>decide (cv x<0))) (fun i j hij hj=>?_) (fun i hi=>?_) (fun p hp=>?_)
 ·have hlt:(i+j) / 2<l.length:=by omega
  have hx:l[(i+j) / 2]? =some l[(i+j) / 2]:=List.getElem?_eq_getElem hlt
  have mB:=hd _ (List.mem_of_getElem? hx)
  have gf:=iS 11 aQ l hx
  have hq:A.fO dyn (.fn fn []) [.agg (aQ l[(i+j) / 2]),.int .i64 k] σ=some (.int .i64 (cv l[(i+j) / 2]),σ):=by simp only[A.fO,List.append_nil];exact mB
  simp only[List.getD_cons_succ,List.getD_cons_zero]
  rw[uQ,Option.bind_some,decide_eq_true hij]
  simp only[A.cond,cond_true]
  rw[GG (by omega),Option.bind_some,J1 (by omega),Option.bind_some,JN (by omega),Option.bind_some,JZ (by omega),Option.bind_some,gf,Option.bind_some]
  simp only[A.deref,Option.bind_some,xZ,A.lb]
  rw[hq,Option.bind_some,KC,Option.bind_some]
  simp only[hx,Option.any_some]
  by_cases hh:cv l[(i+j) / 2]<0
  ·rw[decide_eq_true hh]
   simp only[cond_true,if_true,AH (show(i+j) / 2+1<9223372036854775808 by omega),Option.bind_some]
   rfl
  ·rw[decide_eq_false hh]
   rfl
 ·simp only[List.getD_cons_succ,List.getD_cons_zero]
  rw[uQ,Option.bind_some,decide_eq_false (Nat.lt_irrefl i)]
  rfl
 ·simp only[LP,List.getD_cons_succ,List.getD_cons_zero]
  rw[uQ,Option.bind_some]
  by_cases hpl:p<l.length
  ·have hx:l[p]? =some l[p]:=List.getElem?_eq_getElem hpl
   have mB:=hd _ (List.mem_of_getElem? hx)
   have hne:=hc _ (List.mem_of_getElem? hx)
   have gf:=iS 11 aQ l hx
   have hq:=quiet_of (by show A.fO dyn (.fn fn []) [.agg (aQ l[p]),.int .i64 k] σ=_;simp only[A.fO,List.append_nil];exact mB)
   simp only[decide_eq_true hpl,A.guard,beq_self_eq_true,cond_true,Option.bind_some,List.getD_cons_succ,List.getD_cons_zero,gf,A.deref,xZ,A.lb,A.aq,A.aD,A.pick]
   show((A.quiet (A.fO dyn (.fn fn []) [.agg (aQ l[p]),.int .i64 k] σ) σ).bind _)=_
   rw[hq,Option.bind_some,oB,decide_eq_false hne]
   exact cV _ _
  ·simp only[decide_eq_false hpl,A.guard,Option.bind_some,A.pick]
   exact cV _ _
structure Gg (l : List aG) : Prop where
 len:l.length≤300
 num:∀c∈l,1≤c.number∧c.number≤9999999
 ji:l.Pairwise fun a b=>a.number<b.number
theorem Good.n {l:List aG} (h:Good l):Gg l:=⟨h.len,h.num,h.ji⟩
theorem QZ {l:List aG} (hg:Gg l) {n:Int} (hn:aS n) (σ:Heap):∃p:Nat,ud [sl 11 aQ l,.int .i64 n] σ=some (.aA [.int .i64 (p:Int),.bool (lM l n)],σ)∧p≤l.length∧((1≤n∨lM l n=true)→p=dN l n):=by
 have hlen:l.length<4611686018427387904:=by have:=hg.len;omega
 have hd:∀x∈l,A.tab (fun _ _=>none) [(177,xA)] 177 [.agg (aQ x),.int .i64 n] σ=some (.int .i64 (IntKind.i64.wrap (x.number-n)),σ):=fun x _=>Vr (r:=IntKind.i64.wrap (x.number-n)) rfl
 have wr:∀{p:Nat} {b:Bool},zC (A.tab (fun _ _=>none) [(177,xA)]) [sl 11 aQ l,.int .i64 n,.fn 177 []] σ=some (.aA [.int .i64 (p:Int),.bool b],σ)→
   ud [sl 11 aQ l,.int .i64 n] σ=some (.aA [.int .i64 (p:Int),.bool b],σ):=by
  intro p b h
  refine wrap_eq rfl ?_ rfl
  rw[show A.bI [Sh.e 11 [.k,.k,.k,.k,.k,.k,.k,.s 2,.k,.k,.s 8]] [sl 11 aQ l,.int .i64 n]=[sl 11 aQ l,.int .i64 n]from bU (gM (fun _=>rfl) _) rfl]
  show EM (sl 11 aQ l) (.int .i64 n) σ=_
  unfold EM
  rw[h,Option.bind_some]
  exact cV _ _
 by_cases ad8:-4611686018427387904≤n
 ·refine⟨dN l n,wr ?_,Q1 _ _,fun _=>rfl⟩
  have hw:∀x∈l,IntKind.i64.wrap (x.number-n)=x.number-n:=fun x hx=>by
   have:=hg.num x hx
   unfold aS at hn
   exact wrap64 (by unfold aS;omega)
  rw[bsC (cv:=fun x=>IntKind.i64.wrap (x.number-n)) (p:=dN l n) hlen (Q1 _ _) hd ?_]
  ·rw[←PX hg.ji]
   congr 4
   cases hx:l[dN l n]? with
   |none=>rfl
   |some x=>
    simp only[Option.any_some]
    rw[hw x (List.mem_of_getElem? hx),show decide (x.number-n=0)=decide (x.number=n)from decide_eq_decide.2 (by omega)]
  ·intro h x hx
   rw[hw x (List.mem_of_getElem? hx),←JU hg.ji hx]
   omega
 ·have hno:lM l n=false:=by
   rw[Bool.eq_false_iff]
   intro e
   obtain⟨x,hx,hk⟩:=List.any_eq_true.1 e
   have:=hg.num x hx
   have:=of_decide_eq_true hk
   omega
  obtain⟨p,hp,h⟩:=abp hlen hd (fun x hx e=>by
   have aea:=hg.num x hx
   unfold aS at hn
   have h2:IntKind.i64.wrap (x.number-n)=x.number-n∨IntKind.i64.wrap (x.number-n)=x.number-n-18446744073709551616:=by
    by_cases hh:x.number-n<9223372036854775808
    ·exact .inl (wrap64 (by unfold aS;omega))
    ·right
     unfold IntKind.wrap
     simp [IntKind.bits,IntKind.signed]
     omega
   rcases h2 with h2|h2<;>rw[h2]at e<;>omega)
  exact⟨p,by rw[hno];exact wr h,hp,fun q=>by
   rcases q with q|q
   ·omega
   ·rw[hno]at q;cases q⟩
theorem aaR {l:List aG} (hg:Good l) {n:Int} (hn:aS n) (σ:Heap):∃p:Nat,ud [sl 11 aQ l,.int .i64 n] σ=some (.aA [.int .i64 (p:Int),.bool (lM l n)],σ)∧p≤l.length∧((1≤n∨lM l n=true)→p=dN l n):=QZ hg.n hn σ
section
variable {α R γ S B : Type}
end
end
section
open HP
def Lt (σ:Heap) (sh:Sh) (v t:U):Prop:=(∃v',A.bn σ 0 8 v=some v'∧A.own v'=false∧A.nn sh v'=A.nn sh t)∧A.own t=false∧(A.own v=false→A.nn sh v=A.nn sh t)
def A2 (σ:Heap):List Sh→List U→List U→Prop
 |_,[],[]=>True
 |[],a::bV,t::ts=>Lt σ .k a t∧A2 σ [] bV ts
 |s::ss,a::bV,t::ts=>Lt σ s a t∧A2 σ ss bV ts
 |_,_,_=>False
theorem jx (v:U):A.nn .k v=v:=by simp [A.nn]
theorem G0 {σ:Heap}:∀{ss:List Sh} {bV ts:List U},A2 σ ss bV ts→(∃wI,A.dm σ 0 8 bV=some wI∧wI.any A.own=false∧A.bI ss wI=A.bI ss ts)∧ts.any A.own=false∧(bV.any A.own=false→A.bI ss bV=A.bI ss ts)
 |ss,[],[],_=>⟨⟨[],by simp [A.dm],rfl,rfl⟩,rfl,fun _=>rfl⟩
 |[],a::bV,t::ts,h=>by
  obtain⟨⟨⟨v',h1,h2,h3⟩,h4,h5⟩,h6⟩:=h
  obtain⟨⟨wI,k1,k2,k3⟩,k4,k5⟩:=G0 h6
  rw[jx,jx]at h3
  simp only[A.bI]at k3 k5
  refine⟨⟨v'::wI,by simp [A.dm,h1,k1],by simp [h2,k2],by simp [A.bI,h3,k3]⟩,by simp [h4,k4],fun h=>?_⟩
  simp only[List.any_cons,Bool.or_eq_false_iff]at h
  have:=h5 h.1
  rw[jx,jx]at this
  simp [A.bI,this,k5 h.2]
 |s::ss,a::bV,t::ts,h=>by
  obtain⟨⟨⟨v',h1,h2,h3⟩,h4,h5⟩,h6⟩:=h
  obtain⟨⟨wI,k1,k2,k3⟩,k4,k5⟩:=G0 h6
  refine⟨⟨v'::wI,by simp [A.dm,h1,k1],by simp [h2,k2],by simp [A.bI,h3,k3]⟩,by simp [h4,k4],fun h=>?_⟩
  simp only[List.any_cons,Bool.or_eq_false_iff]at h
  simp [A.bI,h5 h.1,k5 h.2]
 |_,[],_::_,h=>by cases h
 |[],_::_,[],h=>by cases h
 |_::_,_::_,[],h=>by cases h
theorem CO {bL:List Sh} {cC:Sh} {r:List U→Heap→Option (U×Heap)} {bV ts:List U} {σ:Heap} {v:U} (h:A2 σ bL bV ts) (e:∀σ,A.wrap true bL cC r ts σ=some (v,σ)) (hs:A.tF v=true):A.wrap true bL cC r bV σ=some (v,σ):=by
 obtain⟨⟨wI,k1,k2,k3⟩,k4,k5⟩:=G0 h
 cases ho:bV.any A.own
 ·rw[JX (k5 ho) ho k4];exact e σ
 ·exact B4 ho k1 k2 (by rw[JX k3 k2 k4];exact e []) hs
theorem Cu {σ:Heap} {sh:Sh} {v:U} (h:Fz v) (ho:A.own v=false):Lt σ sh v v:=⟨⟨v,h σ 0 8,ho,rfl⟩,ho,fun _=>rfl⟩
theorem Ka {σ:Heap} (n:Int):Lt σ .k (.int .i64 n) (.int .i64 n):=Cu (dZ _ _) rfl
section
variable {α : Type} {c : α → List U} {sz : Nat} {B : aO → Prop} {au σ : Heap} {R : HP} {v : U} {l : List α}
def Sf (c:α→List U) (sz:Nat) (v:U) (l:List α):HP:=fun h=>(v=sl sz c l∧emp h)∨Sl (fl c) sz v l h
theorem Jx (H:Hs B au σ (Sf c sz v l*R)):(v=sl sz c l∧Hs B au σ R)∨Hs B au σ (Sl (fl c) sz v l*R):=by
 have H2:=iV H
 obtain⟨h1,h,⟨f,g,hf,hg,hd,hh⟩,h2⟩:=H
 rcases hf with⟨k1,k2⟩|k
 ·exact .inl ⟨k1,H2⟩
 ·exact .inr ⟨h1,h,⟨f,g,k,hg,hd,hh⟩,h2⟩
theorem RN (H:Hs B au σ (Sl (fl c) sz v l*R)):Hs B au σ (Sf c sz v l*R):=JQ (fun h k=>.inr k) H
theorem ug (H:Hs B au σ (Sl (fl c) sz v l*R)):(l=[]∧(v=.aB∨v=.ez)∧Hs B au σ R)∨∃id g,v=.os id g sz 0 l.length∧Hs B au σ (blk id (.arr g sz (l.map c))*R):=by
 rcases oR H with h|⟨id,g,seg,rfl,hl,H⟩
 ·exact .inl h
 ·have K:=F7.1 (hs_eq (show _=els (fl c) seg l*(blk id (.arr g sz seg)*R) by ac_rfl) H)
  obtain⟨rfl,K⟩:=K
  exact .inr ⟨id,g,rfl,K⟩
theorem RR {id g:Nat} {n:Nat} (H:Hs B au σ (blk id (.arr g sz (l.map c))*R)) (hn:n=l.length:=by rfl):Hs B au σ (Sl (fl c) sz (.os id g sz 0 n) l*R):=
 uC (id:=id) (g:=g) (seg:=l.map c) (hs_eq (show els (fl c) (l.map c) l*(blk id (.arr g sz (l.map c))*R)=_ by ac_rfl) (F7.2 ⟨rfl,H⟩)) hn
theorem Rn (hc:∀x,gu (c x)) {id g:Nat} (h:σ[id]? =some (.arr g sz (l.map c))) {n:Nat} (hn:¬id<n) (d:Nat):A.bn σ n (d+1) (.os id g sz 0 l.length)=some (sl sz c l):=by
 simp only[A.bn,if_neg hn,h]
 rw[if_pos (by simp),List.drop_zero,List.take_of_length_le (by simp),xU,KW hc]
 rfl
theorem RQ (H:Hs B au σ (Sl (fl c) sz v l*R)) (hc:∀x,gu (c x)) {n:Nat} (hn:n≤au.length) (d:Nat):∃v',A.bn σ n (d+1) v=some v'∧A.rS v'=false∧A.nn (.s sz) v'=sl sz c l:=by
 rcases ug H with⟨rfl,rfl|rfl,_⟩|⟨id,g,rfl,K⟩
 ·exact⟨.aB,by simp [A.bn],rfl,rfl⟩
 ·exact⟨.ez,by simp [A.bn],rfl,rfl⟩
 ·obtain⟨h1,h2⟩:=iF K
  exact⟨_,Rn hc h2 (by omega) d,rfl,rfl⟩
theorem Sy (H:Hs B au σ (Sf c sz v l*R)) (hc:∀x,gu (c x)) {n:Nat} (hn:n≤au.length) (d:Nat):∃v',A.bn σ n (d+1) v=some v'∧A.rS v'=false∧A.nn (.s sz) v'=sl sz c l:=by
 rcases Jx H with⟨rfl,_⟩|H
 ·exact⟨_,yp hc l σ n (d+1),rfl,rfl⟩
 ·exact RQ H hc hn d
structure Cl (p : U) (F : List U → HP) : Prop where
 nc:A.eT p=some p
 ow:A.own p=true
 ld:∀{au σ:Heap} {e:List U} {R:HP},Hs aY au σ (F e*R)→A.deref p σ=some e
 fa:∀(o:Nat),∃q,A.bD o p=some q∧(∀{au σ:Heap} {e:List U} {R:HP},Hs aY au σ (F e*R)→A.deref q σ=some (e.drop o))∧
  ∀{au σ:Heap} {e:List U} {R:HP} {new e':List U},Hs aY au σ (F e*R)→A.splice o new e=some e'→∃σ',A.storeAt q new σ=some σ'∧Hs aY au σ' (F e'*R)
 st:∀{au σ:Heap} {e:List U} {R:HP} {new e':List U},Hs aY au σ (F e*R)→A.splice 0 new e=some e'→∃σ',A.storeAt p new σ=some σ'∧Hs aY au σ' (F e'*R)
 fc:∀(o o':Nat) (q:U),A.bD o p=some q→A.bD o' q=A.bD (o+o') p
theorem abC {P:HP} (H:Hs B au σ P):Hs aY au σ P:=⟨by obtain⟨bs,h,_⟩:=H.pre;exact⟨bs,h,fun _ _=>trivial⟩,H.own⟩
end
section
variable {α : Type} {E : List U → α → HP} {sz : Nat} {au σ : Heap} {R : HP} {v : U} {l : List α}
theorem F1 (H:Hs aY au σ (Sl E sz v l*R)) {i:Nat} {x:α} (hx:l[i]? =some x):∃p F e,A.aU sz v (.int .i64 (i:Int))=some p∧Cl p F∧Hs aY au σ (F e*(E e x*R))∧
  ∀{σ:Heap} {e:List U} {y:α} {R:HP},Hs aY au σ (F e*(E e y*R))→Hs aY au σ (Sl E sz v (l.set i y)*R):=by
 have hi:=(List.getElem?_eq_some_iff.1 hx).1
 rcases oR H with⟨rfl,_,_⟩|⟨id,g,seg,rfl,hl,H⟩
 ·simp at hx
 ·have he:seg[i]? =some seg[i]:=List.getElem?_eq_getElem (by omega)
  have rd:∀{au σ:Heap} {e:List U} {R:HP} (o:Nat),Hs aY au σ (blk id (.arr g sz (seg.set i e))*els E (seg.eraseIdx i) (l.eraseIdx i)*R)→A.deref (.oe id g i o) σ=some (e.drop o):=by
   intro au σ e R o K
   obtain⟨_,k2⟩:=iF (hs_eq (lV _ _ _) K)
   simp only[A.deref,k2,if_true]
   rw[List.getElem?_set_self (by omega)]
   rfl
  have wr:∀{au σ:Heap} {e:List U} {R:HP} {new e':List U} (o:Nat),Hs aY au σ (blk id (.arr g sz (seg.set i e))*els E (seg.eraseIdx i) (l.eraseIdx i)*R)→A.splice o new e=some e'→
    ∃σ',A.storeAt (.oe id g i o) new σ=some σ'∧Hs aY au σ' (blk id (.arr g sz (seg.set i e'))*els E (seg.eraseIdx i) (l.eraseIdx i)*R):=by
   intro au σ e R new e' o K hs
   have K':=hs_eq (lV _ _ _) K
   obtain⟨_,k2⟩:=iF K'
   refine⟨σ.set id (.arr g sz (seg.set i e')),?_,?_⟩
   ·simp only[A.storeAt,k2,if_true]
    rw[List.getElem?_set_self (by omega),Option.bind_some,hs,Option.map_some,List.set_set]
   ·exact hs_eq (lV _ _ _).symm (Ay (b':=.arr g sz (seg.set i e')) K' trivial)
  refine⟨.oe id g i 0,fun e=>blk id (.arr g sz (seg.set i e))*els E (seg.eraseIdx i) (l.eraseIdx i),seg[i],?_,⟨rfl,rfl,fun K=>by have:=rd 0 K;simpa using this,fun o=>⟨.oe id g i o,by simp [A.bD],fun K=>rd o K,fun K hs=>wr o K hs⟩,fun K hs=>wr 0 K hs,fun o o' q hq=>by simp [A.bD]at hq;subst hq;simp [A.bD]⟩,?_,?_⟩
  ·have hi':((i:Int)<(l.length:Int)):=by omega
   simp [A.aU,A.idx,hi']
  ·refine hs_eq ?_ H
   have e1:seg.set i seg[i]=seg:=List.set_getElem_self (by omega)
   simp only[e1]
   rw[J4 hl he hx]
   ac_rfl
  ·intro σ e y R K
   refine uC (id:=id) (g:=g) (seg:=seg.set i e) (hs_eq ?_ K) (by simp)
   have e1:els E (seg.set i e) (l.set i y)=els E (seg.eraseIdx i) (l.eraseIdx i)*E e y:=by
    rw[J4 (i:=i) (e:=e) (x:=y) (by simp [hl]) (by rw[List.getElem?_set_self (by omega)]) (by rw[List.getElem?_set_self hi])]
    rw[List.eraseIdx_set_eq,List.eraseIdx_set_eq]
   rw[e1]
   ac_rfl
end
def dh (x:aG) (vp vm:U):List U:=[.int .i64 x.number,.str x.title,.int .i64 x.delay,.int .i64 x.up,.int .i64 x.down,.int .i64 x.other,.int .i64 x.fB.kind,vp,.bool x.block,.int .i64 x.follow,vm]
def mh (M:U→List aM→HP):List U→aG→HP:=fun e x=>ex fun vp=>ex fun vm=>pr (e=dh x vp vm)*(Sf eS 2 vp x.fB.points*M vm x.aL)
def dX:List U→aG→HP:=mh (Sl (fl aK) 8)
def qu:List U→aG→HP:=mh (Sf aK 8)
def iu:List Sh:=[.k,.k,.k,.k,.k,.k,.k,.s 2,.k,.k,.s 8]
section
variable {B : aO → Prop} {au σ : Heap} {R : HP} {M : U → List aM → HP} {e : List U} {x : aG}
theorem yA (H:Hs B au σ (mh M e x*R)):∃vp vm,e=dh x vp vm∧Hs B au σ (Sf eS 2 vp x.fB.points*(M vm x.aL*R)):=by
 unfold mh at H
 rw[AF]at H
 obtain⟨vp,H⟩:=H
 rw[AF]at H
 obtain⟨vm,H⟩:=H
 rw[lV,gI]at H
 exact⟨vp,vm,H.1,hs_eq (by ac_rfl) H.2⟩
theorem FL {vp vm:U} (he:e=dh x vp vm) (H:Hs B au σ (Sf eS 2 vp x.fB.points*(M vm x.aL*R))):Hs B au σ (mh M e x*R):=by
 unfold mh
 rw[AF]
 refine⟨vp,?_⟩
 rw[AF]
 refine⟨vm,?_⟩
 rw[lV,gI]
 exact⟨he,hs_eq (by ac_rfl) H⟩
theorem BR (H:Hs B au σ (dX e x*R)):Hs B au σ (qu e x*R):=by
 obtain⟨vp,vm,he,H⟩:=yA H
 exact FL he (hs_eq (by ac_rfl) (RN (hs_eq (show _=Sl (fl aK) 8 vm x.aL*(Sf eS 2 vp x.fB.points*R) by ac_rfl) H)))
theorem Qt (H:Hs B au σ (qu e x*R)) {n:Nat} (hn:n≤au.length) (d:Nat):∃e',A.dm σ n (d+1) e=some e'∧e'.any A.rS=false∧A.bI iu e'=aQ x:=by
 obtain⟨vp,vm,he,K⟩:=yA H
 subst he
 obtain⟨vp',p1,p2,p3⟩:=Sy K OC hn d
 obtain⟨gY,m1,m2,m3⟩:=Sy (iV K) BW hn d
 refine⟨dh x vp' gY,?_,?_,?_⟩
 ·simp [dh,A.dm,A.bn,p1,m1]
 ·simp only[dh,List.any_cons,List.any_nil,p2,m2];rfl
 ·simp only[dh,iu,A.bI,jx,p3,m3];rfl
theorem Qw:∀{seg:List (List U)} {l:List aG} {R:HP},Hs B au σ (els qu seg l*R)→∀{n:Nat},n≤au.length→∀(d:Nat),∃A0,A.iI σ n (d+1) seg=some A0∧A0.map (A.bI iu)=l.map aQ
 |[],[],R,H,n,hn,d=>⟨[],by simp [A.iI],rfl⟩
 |[],_::_,R,H,n,hn,d=>(gI.1 H).1.elim
 |_::_,[],R,H,n,hn,d=>(gI.1 H).1.elim
 |e::seg,x::l,R,H,n,hn,d=>by
  rw[els,lV]at H
  obtain⟨e',h1,_,h3⟩:=Qt H hn d
  obtain⟨A0,k1,k2⟩:=Qw (iV H) hn d
  exact⟨e'::A0,by simp [A.iI,h1,k1],by simp [h3,k2]⟩
theorem Pu:∀{seg:List (List U)} {l:List aG} {R:HP},Hs B au σ (els dX seg l*R)→Hs B au σ (els qu seg l*R)
 |[],[],R,H=>H
 |[],_::_,R,H=>H
 |_::_,[],R,H=>H
 |e::seg,x::l,R,H=>by
  rw[els]at H ⊢
  have H2:=Pu (hs_eq (show _=els dX seg l*(dX e x*R) by ac_rfl) H)
  have H3:=BR (hs_eq (show _=dX e x*(els qu seg l*R) by ac_rfl) H2)
  exact hs_eq (by ac_rfl) H3
variable {v : U} {l : List aG}
theorem Ow (H:Hs B au σ (Sl dX 11 v l*R)):Hs B au σ (Sl qu 11 v l*R):=by
 rcases oR H with⟨rfl,hv,H⟩|⟨id,g,seg,rfl,hl,H⟩
 ·exact qP H hv
 ·have H2:=Pu (hs_eq (show _=els dX seg l*(blk id (.arr g 11 seg)*R) by ac_rfl) H)
  exact uC (id:=id) (g:=g) (seg:=seg) (hs_eq (by ac_rfl) H2)
theorem Pm (H:Hs B au σ (Sl qu 11 v l*R)) {n:Nat} (hn:n≤au.length) (d:Nat):∃v',A.bn σ n (d+2) v=some v'∧A.rS v'=false∧A.nn (.e 11 iu) v'=sl 11 aQ l:=by
 rcases oR H with⟨rfl,rfl|rfl,_⟩|⟨id,g,seg,rfl,hl,H⟩
 ·exact⟨.aB,by simp [A.bn],rfl,rfl⟩
 ·exact⟨.ez,by simp [A.bn],rfl,rfl⟩
 ·obtain⟨h1,h2⟩:=iF H
  obtain⟨A0,k1,k2⟩:=Qw (hs_eq (show _=els qu seg l*(blk id (.arr g 11 seg)*R) by ac_rfl) H) hn d
  refine⟨.sl 11 A0,?_,rfl,?_⟩
  ·simp only[A.bn,if_neg (show ¬id<n by omega),h2]
   rw[if_pos (by simp;omega),List.drop_zero,List.take_of_length_le (by omega),xU,k1]
   rfl
  ·simp only[A.nn,k2];rfl
theorem V6 (l:List aG):A.nn (.e 11 iu) (sl 11 aQ l)=sl 11 aQ l:=gM (fun _=>rfl) l
theorem Zm (H:Hs B au σ (Sl qu 11 v l*R)):Lt σ (.e 11 iu) v (sl 11 aQ l):=by
 obtain⟨v',h1,h2,h3⟩:=Pm H (Nat.zero_le _) 6
 refine⟨⟨v',h1,?_,by rw[h3,V6]⟩,rfl,fun ho=>?_⟩
 ·rcases oR H with⟨rfl,rfl|rfl,_⟩|⟨id,g,seg,rfl,hl,H⟩
  ·simp [A.bn]at h1;subst h1;rfl
  ·simp [A.bn]at h1;subst h1;rfl
  ·cases v'<;>first|rfl|cases h2|skip
   rename_i cs
   simp only[A.nn]at h3
   cases h3
 ·rcases oR H with⟨rfl,rfl|rfl,_⟩|⟨id,g,seg,rfl,hl,H⟩
  ·rfl
  ·rfl
  ·cases ho
theorem QH (H:Hs B au σ (Sl dX 11 v l*R)):Lt σ (.e 11 iu) v (sl 11 aQ l):=Zm (Ow H)
theorem JR (H:Hs B au σ (qu e x*R)):Lt σ (.a iu) (.agg e) (.agg (aQ x)):=by
 obtain⟨e',h1,h2,h3⟩:=Qt H (Nat.zero_le _) 7
 obtain⟨vp,vm,he,K0⟩:=yA H
 refine⟨⟨.agg e',by simp [A.bn,h1],by simpa [A.own]using h2,?_⟩,rfl,fun ho=>?_⟩
 ·simp only[A.nn,h3]
  rw[show A.bI iu (aQ x)=aQ x from rfl]
 ·subst he
  have hp:A.rS vp=false∧A.rS vm=false:=by
   simp only[A.own,dh,List.any_cons,List.any_nil,Bool.or_eq_false_iff]at ho
   exact⟨ho.2.2.2.2.2.2.2.1,ho.2.2.2.2.2.2.2.2.2.2.1⟩
  have q1:A.nn (.s 2) vp=sl 2 eS x.fB.points:=by
   rcases Jx K0 with⟨rfl,_⟩|K
   ·rfl
   ·rcases ug K with⟨e0,rfl|rfl,_⟩|⟨id,g,rfl,_⟩
    ·rw[e0];rfl
    ·rw[e0];rfl
    ·cases hp.1
  have q2:A.nn (.s 8) vm=sl 8 aK x.aL:=by
   rcases Jx (iV K0)with⟨rfl,_⟩|K
   ·rfl
   ·rcases ug K with⟨e0,rfl|rfl,_⟩|⟨id,g,rfl,_⟩
    ·rw[e0];rfl
    ·rw[e0];rfl
    ·cases hp.2
  have q3:A.bI iu (dh x vp vm)=aQ x:=by simp only[dh,iu,A.bI,jx,q1,q2];rfl
  show U.agg (A.bI iu (dh x vp vm))=U.agg (A.bI iu (aQ x))
  rw[q3];rfl
end
end
section
open HP
theorem sQ {α:Type} {f:List U→Heap→Option LS} {Q:LS→Prop} (l:List α) (I:Nat→List U→Heap→Prop) {v0:List U} {σ:Heap}
  (hstep:∀i x v σ,l[i]? =some x→I i v σ→∃v' σ',f v σ=some (.normal,v',σ')∧I (i+1) v' σ')
  (hend:∀v σ,I l.length v σ→∃q,f v σ=some q∧q.1≠.normal∧Q q) (h0:I 0 v0 σ):∃q,A.loop f v0 σ=some q∧Q q:=by
 have key:∀(k i:Nat) v σ,l.length-i≤k→i≤l.length→I i v σ→∃q,(∃n,A.iter f n v σ=some q)∧Q q:=by
  intro k
  induction k with
  |zero=>
   intro i v σ hk hle hI
   have:i=l.length:=by omega
   subst this
   obtain⟨q,h1,h2,h3⟩:=hend v σ hI
   exact⟨q,oO h1 h2,h3⟩
  |succ k ih=>
   intro i v σ hk hle hI
   by_cases hi:i<l.length
   ·obtain⟨v',σ',h1,h2⟩:=hstep i _ v σ (List.getElem?_eq_getElem hi) hI
    obtain⟨q,hq,hQ⟩:=ih (i+1) v' σ' (by omega) (by omega) h2
    exact⟨q,vJ h1 hq,hQ⟩
   ·have:i=l.length:=by omega
    subst this
    obtain⟨q,h1,h2,h3⟩:=hend v σ hI
    exact⟨q,oO h1 h2,h3⟩
 obtain⟨q,⟨n,hn⟩,hQ⟩:=key _ 0 v0 σ (Nat.le_refl _) (Nat.zero_le _) h0
 exact⟨q,xC hn,hQ⟩
theorem rB {β:Type} {f:List U→Heap→Option LS} {K:LS→Option β} {v0:List U} {σ:Heap} {P:β→Prop} {Q:LS→Prop} (h:∃q,A.loop f v0 σ=some q∧Q q) (k:∀q,Q q→∃b,K q=some b∧P b):∃b,(A.loop f v0 σ).bind K=some b∧P b:=by
 obtain⟨q,h1,h2⟩:=h
 obtain⟨b,h3,h4⟩:=k q h2
 exact⟨b,by rw[h1];exact h3,h4⟩
section
variable {α : Type} {c : α → List U} {sz : Nat} {B : aO → Prop} {au σ : Heap} {R : HP} {v : U} {l : List α}
theorem Qq {most:Nat} {m r:List U→Heap→Option (U×Heap)} {r0:U→Heap→Option (U×Heap)} (hm:m=A.Ch (A.wrap true [(.s sz)] .k (A.fD r0))) (hr:∀a σ,r0 a σ=(A.uZ a .aB).bind fun x1=>A.cond x1 (some (.aB,σ)) ((A.append sz most .ez a σ).bind fun r2=>some (r2.1,r2.2)))
  (hl:l.length≤most) (hB:∀g g' seg,(seg=[]∨B (.arr g sz seg))→B (.arr g' sz (seg++l.map c))) (H:Hs B au σ R):∃v σ',m [sl sz c l] σ=some (v,σ')∧A.cell v=some v∧Hs B au σ' (Sl (fl c) sz v l*R):=by
 subst hm
 cases l with
 |nil=>exact⟨.ez,σ,rfl,rfl,qP H (.inr rfl)⟩
 |cons x l=>
  obtain⟨v',σ',e1,H2⟩:=AE (B:=B) (E:=fl c) (sz:=sz) (v:=.ez) (l:=[]) (ys:=(x::l).map c) (xs:=x::l) (most:=most) (qP (F7.2 ⟨rfl,H⟩) (.inr rfl)) (by simpa using hl) hB
  have hv:A.cell v'=some v':=by
   rcases ug H2 with⟨h,_,_⟩|⟨id,g,rfl,_⟩
   ·cases h
   ·rfl
  refine⟨v',σ',?_,hv,H2⟩
  show A.wrap true [(.s sz)] .k (A.fD r0) [sl sz c (x::l)] σ=_
  refine wrap_eq rfl ?_ rfl
  show r0 (sl sz c (x::l)) σ=_
  rw[hr,show A.uZ (sl sz c (x::l)) .aB=some (.bool false)from rfl,Option.bind_some,ga,show sl sz c (x::l)=.sl sz ((x::l).map c)from rfl,e1]
  rfl
end
section
variable {au σ : Heap} {R : HP}
theorem acZ {l:List aM} (hl:l.length≤2199023255552) (H:Hs aY au σ R):∃v σ',Eb [sl 8 aK l] σ=some (v,σ')∧A.cell v=some v∧Hs aY au σ' (Sl (fl aK) 8 v l*R):=
 Qq (most:=140737488355328 / 64) (r:=fun _ _=>none) rfl (fun _ _=>rfl) (by simpa using hl) (fun _ _ _ _=>trivial) H
theorem ac0 {l:List kK} (hl:l.length≤8796093022208) (H:Hs aY au σ R):∃v σ',D8 [sl 2 eS l] σ=some (v,σ')∧A.cell v=some v∧Hs aY au σ' (Sl (fl eS) 2 v l*R):=
 Qq (most:=140737488355328 / 16) (r:=fun _ _=>none) rfl (fun _ _=>rfl) (by simpa using hl) (fun _ _ _ _=>trivial) H
def je (l:List aM) (m:aM):List aM:=if gq l m.key=true then l.set (cS l m.key) m else l.take (cS l m.key)++[m]++l.drop (cS l m.key)
theorem FQ {l:List aM} (hs:eG l) {k:az} (h:gq l k=true):∃x,l[cS l k]? =some x:=by
 rw[←Fy hs]at h
 cases hx:l[cS l k]? with
 |none=>rw[hx]at h;cases h
 |some x=>exact⟨x,rfl⟩
theorem ady {v:U} {l:List aM} {m:aM} {i:Nat} (hi:i≤l.length) (hl:l.length<2199023255552) (H:Hs aY au σ (Sl (fl aK) 8 v l*R)):
  ∃v' σ',Bp [v,.int .i64 (i:Int),.sl 8 [aK m]] σ=some (v',σ')∧A.cell v'=some v'∧Hs aY au σ' (Sl (fl aK) 8 v' (l.take i++[m]++l.drop i)*R):=by
 obtain⟨v',σ',e,H2⟩:=abS (most:=140737488355328 / 64) (zs:=[aj,bw,aj,aj,aP,aP,aj,aj]) (vu:=Bn) (B:=aY) (E:=fl aK) (y:=m) (ye:=aK m)
  (hs_eq (show pr (aK m=aK m)*(Sl (fl aK) 8 v l*R)=_ by rw[show fl aK (aK m) m=pr (aK m=aK m)from rfl];ac_rfl) (gI.2 ⟨rfl,H⟩)) hi (by omega) (by omega) (fun _ _ _ _ _=>trivial)
 have hv:A.cell v'=some v':=by
  rcases ug H2 with⟨h,_,_⟩|⟨id,g,rfl,_⟩
  ·simp at h
  ·rfl
 refine⟨v',σ',?_,hv,H2⟩
 unfold Bp A.wrap
 rw[Bool.false_and,cond_false,show A.bI [] [v,.int .i64 (i:Int),.sl 8 [aK m]]=[v,.int .i64 (i:Int),.sl 8 [aK m]] by simp [A.bI]]
 show(Ea v (.int .i64 (i:Int)) (.sl 8 [aK m]) σ).map _=_
 rw[show Ea v (.int .i64 (i:Int)) (.sl 8 [aK m]) σ=some (v',σ')from e]
 simp [jx]
theorem JF {α:Type} {E:List U→α→HP} {sz:Nat} {B:aO→Prop} {v:U} {l:List α} (H:Hs B au σ (Sl E sz v l*R)):A.cell v=some v:=by
 rcases oR H with⟨_,rfl|rfl,_⟩|⟨id,g,seg,rfl,_⟩<;>rfl
theorem P5 (m:aM):(((A.cells 8 (.agg (aK m))).bind fun nO=>(A.splice 0 nO [aj,bw,aj,aj,aP,aP,aj,aj]).bind fun iY=>some iY).bind fun cs=>some (U.sl 8 (chunks 8 1 cs)))=some (.sl 8 [aK m]):=rfl
theorem adH {v:U} {l:List aM} {m:aM} {i:Nat} {x:aM} (hx:l[i]? =some x) (H:Hs aY au σ (Sl (fl aK) 8 v l*R)):
  ∃p σ',A.aU 8 v (.int .i64 (i:Int))=some p∧A.storeAt p (aK m) σ=some σ'∧Hs aY au σ' (Sl (fl aK) 8 v (l.set i m)*R):=by
 obtain⟨p,F,e,h1,hC,K,back⟩:=F1 H hx
 have he:e=aK x:=(gI.1 (iV K)).1
 subst he
 have K2:=iV (hs_eq (show _=pr (aK x=aK x)*(F (aK x)*R) by rw[show fl aK (aK x) x=pr (aK x=aK x)from rfl];ac_rfl) K)
 obtain⟨σ',h2,K3⟩:=hC.st K2 (xX m (aK x) rfl)
 refine⟨p,σ',h1,h2,back (e:=aK m) (hs_eq (show pr (aK m=aK m)*(F (aK m)*R)=_ by rw[show fl aK (aK m) m=pr (aK m=aK m)from rfl];ac_rfl) (gI.2 ⟨rfl,K3⟩))⟩
theorem Py {p:U} {F:List U→HP} (hC:Cl p F) {e:List U} (o:Nat) (H:Hs aY au σ (F e*R)) {vm:U} (h1:A.aq 0 (e.drop o)=some vm):∃q,A.bD o p=some q∧((A.deref q σ).bind fun c=>A.aq 0 c)=some vm:=by
 obtain⟨q,a1,a2,_⟩:=hC.fa o
 exact⟨q,a1,by rw[a2 H,Option.bind_some,h1]⟩
theorem N1 {e:List U} {x:aG} (H:Hs aY au σ (qu e x*R)) (hs:eG x.aL) (hl:x.aL.length<4611686018427387904) (k:az):vF [.agg e,.agg (aH k)] σ=some (.aA [.int .i64 (cS x.aL k:Int),.bool (gq x.aL k)],σ):=
 CO (bL:=[.a iu]) (ts:=[.agg (aQ x),.agg (aH k)]) ⟨JR H,Cu (rz (uq k)) rfl,trivial⟩ (fun σ=>Zr hs hl k σ) rfl
theorem acw {p:U} {F:List U→HP} {e:List U} {x:aG} {m:aM} (hC:Cl p F) (H:Hs aY au σ (F e*(dX e x*R))) (hs:eG x.aL) (hl:x.aL.length<2199023255552):
  ∃σ' e',zY [p,.agg (aK m)] σ=some (.aA [],σ')∧Hs aY au σ' (F e'*(dX e' {x with aL:=je x.aL m}*R)):=by
 obtain⟨vp,vm,he,K⟩:=yA (hs_eq (show _=mh (Sl (fl aK) 8) e x*(F e*R)from by rw[show dX e x=mh (Sl (fl aK) 8) e x from rfl];ac_rfl) H)
 have va:=N1 (BR (hs_eq (show _=dX e x*(F e*R) by ac_rfl) H)) hs (by omega) m.key
 have hld:=hC.ld H
 have i6:Hs aY au σ (Sl (fl aK) 8 vm x.aL*(F e*(Sf eS 2 vp x.fB.points*R))):=hs_eq (by ac_rfl) K
 have mk:∀{σ:Heap} {gY:U} {l:List aM},Hs aY au σ (F (dh x vp gY)*(Sl (fl aK) 8 gY l*(Sf eS 2 vp x.fB.points*R)))→Hs aY au σ (F (dh x vp gY)*(dX (dh x vp gY) {x with aL:=l}*R)):=by
  intro σ gY l K
  have:=FL (M:=Sl (fl aK) 8) (x:={x with aL:=l}) (e:=dh x vp gY) (vp:=vp) (vm:=gY) (R:=F (dh x vp gY)*R) (B:=aY) (au:=au) (σ:=σ) rfl (hs_eq (by ac_rfl) K)
  exact hs_eq (by rw[show dX (dh x vp gY) {x with aL:=l}=mh (Sl (fl aK) 8) (dh x vp gY) {x with aL:=l}from rfl];ac_rfl) this
 have run:∃σ' e',BO p (.agg (aK m)) σ=some (.aA [],σ')∧Hs aY au σ' (F e'*(dX e' {x with aL:=je x.aL m}*R)):=by
  subst he
  unfold BO
  rw[Fh,Option.bind_some,hC.nc,Option.bind_some,hld,Option.bind_some]
  rw[show A.aD 0 11 (dh x vp vm)=some (.agg (dh x vp vm))from rfl,Option.bind_some,Ia,Option.bind_some,quiet_of va,Option.bind_some]
  show ∃σ' e',A.cond (.bool (gq x.aL m.key)) _ _=_∧_
  obtain⟨q,f1,f2⟩:=Py hC 10 H (vm:=vm) (by
   have:=JF i6
   simp only[dh,List.drop_succ_cons,List.drop_zero,A.aq,List.getElem?_cons_zero,Option.bind_some]
   exact this)
  cases hh:gq x.aL m.key
  ·rw[ga]
   rw[Option.bind_some,f1,Option.bind_some,f2,Option.bind_some,xV,Option.bind_some,P5,Option.bind_some]
   obtain⟨v',σ1,e1,e2,H1⟩:=ady (m:=m) (Q3 x.aL m.key) hl i6
   rw[e1,Option.bind_some,Option.bind_some]
   simp only
   rw[f1,Option.bind_some,e2,Option.bind_some,Option.bind_some]
   obtain⟨q',g1,_,g3⟩:=hC.fa 10
   rw[f1]at g1;injection g1 with g1;subst g1
   obtain⟨σ2,e3,H2⟩:=g3 (hs_eq (show _=F (dh x vp vm)*(Sl (fl aK) 8 v' (x.aL.take (cS x.aL m.key)++[m]++x.aL.drop (cS x.aL m.key))*(Sf eS 2 vp x.fB.points*R)) by ac_rfl) H1) (new:=[v']) (e':=dh x vp v') rfl
   rw[e3,Option.bind_some]
   refine⟨σ2,dh x vp v',rfl,?_⟩
   rw[je,if_neg (by rw[hh];decide)]
   exact mk H2
  ·rw[iG]
   obtain⟨y,hy⟩:=FQ hs hh
   obtain⟨pp,σ1,e1,e2,H1⟩:=adH (m:=m) hy i6
   rw[Option.bind_some,f1,Option.bind_some,f2,Option.bind_some,xV,Option.bind_some,e1,Option.bind_some,Fh,Option.bind_some,e2,Option.bind_some]
   refine⟨σ1,dh x vp vm,rfl,?_⟩
   rw[je,if_pos hh]
   exact mk (hs_eq (by ac_rfl) H1)
 obtain⟨σ',e',h1,h2⟩:=run
 refine⟨σ',e',?_,h2⟩
 unfold zY A.wrap
 rw[Bool.false_and,cond_false,show A.bI [] [p,.agg (aK m)]=[p,.agg (aK m)] by simp [A.bI]]
 show(BO p (.agg (aK m)) σ).map _=_
 rw[h1]
 simp [jx]
end
end
section
open HP
section
variable {au σ : Heap} {R : HP}
def Small (l:List aG):Prop:=l.length≤1099511627776∧∀c∈l,c.aL.length≤2199023255552∧c.fB.points.length≤8796093022208
theorem ZB (x:aG) (vp vm:U):(((A.cells 11 (.agg (dh x vp vm))).bind fun iN=>(A.splice 0 iN [aj,bw,aj,aj,aj,aj,aj,U.aB,aP,aj,U.aB]).bind fun gO=>some gO).bind fun cs=>some (U.sl 11 (chunks 11 1 cs)))=some (.sl 11 [dh x vp vm]):=rfl
theorem Y0 {l:List aG} (hl:Small l) (hx:l.length≤br) (H:Hs aY au σ R):∃v σ',EA [sl 11 aQ l] σ=some (v,σ')∧Hs aY au σ' (Sl dX 11 v l*R):=by
 have run:∃b:U×Heap,EE (sl 11 aQ l) σ=some b∧Hs aY au b.2 (Sl dX 11 b.1 l*R):=by
  unfold EE
  rw[dU,Option.bind_some]
  refine rB (Q:=fun q=>∃v w,q.1=.exit 0∧q.2.1=[v,w]∧Hs aY au q.2.2 (Sl dX 11 v l*R)) (sQ l (fun i v s=>∃h,v=[h,.int .i64 (i:Int)]∧Hs aY au s (Sl dX 11 h (l.take i)*R)) ?_ ?_ ⟨.aB,rfl,qP H (.inl rfl)⟩) ?_
  ·rintro i x v s hx1 ⟨h,rfl,K⟩
   obtain⟨hm,hp⟩:=hl.2 x (List.mem_of_getElem? hx1)
   have hi:=(List.getElem?_eq_some_iff.1 hx1).1
   simp only[List.getD_cons_succ,List.getD_cons_zero]
   rw[iq hx1,Option.bind_some,iG,fW hx1,Option.bind_some]
   simp only[A.deref,Option.bind_some]
   rw[xZ,Option.bind_some,Qp,Option.bind_some,Cd _ _ rfl,Option.bind_some,show A.aq 7 (aQ x)=some (sl 2 eS x.fB.points)from rfl,Option.bind_some]
   obtain⟨vp,s1,e1,e2,K1⟩:=ac0 hp K
   rw[e1,Option.bind_some,e2,Option.bind_some,Option.bind_some,show A.splice 7 [vp] (aQ x)=some (dh x vp (sl 8 aK x.aL))from rfl,Option.bind_some,show A.aq 10 (dh x vp (sl 8 aK x.aL))=some (sl 8 aK x.aL)from rfl,Option.bind_some]
   obtain⟨vm,s2,e3,e4,K2⟩:=acZ hm K1
   rw[e3,Option.bind_some,e4,Option.bind_some,Option.bind_some,show A.splice 10 [vm] (dh x vp (sl 8 aK x.aL))=some (dh x vp vm)from rfl,Option.bind_some,show A.aD 0 11 (dh x vp vm)=some (.agg (dh x vp vm))from rfl,Option.bind_some,ZB,Option.bind_some]
   have K3:=FL (M:=Sl (fl aK) 8) (x:=x) (e:=dh x vp vm) rfl (hs_eq (show _=Sf eS 2 vp x.fB.points*(Sl (fl aK) 8 vm x.aL*(Sl dX 11 h (l.take i)*R)) by ac_rfl) (RN (hs_eq (show _=Sl (fl eS) 2 vp x.fB.points*(Sl (fl aK) 8 vm x.aL*(Sl dX 11 h (l.take i)*R)) by ac_rfl) K2)))
   have K4:=hs_eq (show _=Sl dX 11 h (l.take i)*(els dX [dh x vp vm] [x]*R) by rw[FN,show dX (dh x vp vm) x=mh (Sl (fl aK) 8) (dh x vp vm) x from rfl];ac_rfl) K3
   have hm2:=hl.1
   obtain⟨h',s3,e5,K5⟩:=AE (most:=140737488355328 / 128) K4 (by simp;omega) (fun _ _ _ _=>trivial)
   rw[e5,Option.bind_some,fZ hx1 hx,Option.bind_some]
   refine⟨_,_,rfl,h',rfl,?_⟩
   rw[List.take_add_one,hx1]
   exact K5
  ·rintro v s ⟨h,rfl,K⟩
   simp only[List.getD_cons_succ,List.getD_cons_zero]
   rw[ia,Option.bind_some,ga]
   refine⟨_,rfl,by simp,h,_,rfl,rfl,?_⟩
   rw[List.take_length]at K;exact K
  ·rintro⟨e,v,s⟩ ⟨h,w,h1,h2,K⟩
   simp only at h1 h2 K
   subst h1;subst h2
   exact⟨_,rfl,K⟩
 obtain⟨⟨v,σ'⟩,h1,h2⟩:=run
 refine⟨v,σ',wrap_eq rfl ?_ rfl,h2⟩
 rw[show A.bI [Sh.e 11 [.k,.k,.k,.k,.k,.k,.k,.s 2,.k,.k,.s 8]] [sl 11 aQ l]=[sl 11 aQ l]from bU (gM (fun _=>rfl) _) rfl]
 exact h1
theorem F8 {v v':U} (H:Hs aY au σ R) (h:A.bn σ au.length 8 v=some v') (hv:σ=au→v'=v):A.fin au v σ=some (v',au):=by
 obtain⟨⟨bs,rfl,_⟩,_⟩:=H
 by_cases kD:bs=[]
 ·subst kD
  rw[List.append_nil]at h ⊢
  rw[cV,hv (by simp)]
 ·unfold A.fin
  rw[if_neg (by simpa using kD),if_pos (by simp),h];rfl
end
end
section
open HP
theorem ZJ {l:List aG} (h:Good l):Small l:=⟨by have:=h.len;omega,fun c hc=>⟨by have:=(h.mv c hc).1;omega,by have:=h.pts c hc;omega⟩⟩
theorem F2 {l:List aM} (h:eG l) (m:aM):eG (je l m):=by
 unfold je
 have hlt:∀x∈l.take (cS l m.key),dr x.key m.key=true:=fun x hx=>by
  obtain⟨i,hi⟩:=List.mem_iff_getElem?.1 hx
  rw[List.getElem?_take]at hi
  split at hi
  ·rename_i hlt;exact(ya h hi).2 hlt
  ·cases hi
 have hge:∀x∈l.drop (cS l m.key),dr x.key m.key=false:=fun x hx=>by
  obtain⟨i,hi⟩:=List.mem_iff_getElem?.1 hx
  rw[List.getElem?_drop]at hi
  cases hq:dr x.key m.key
  ·rfl
  ·have:=(ya h hi).1 hq;omega
 split
 ·rename_i hh
  obtain⟨y,hy⟩:=FQ h hh
  have hk:y.key=m.key:=by
   have:=Fy (k:=m.key) h
   rw[hh,hy]at this
   simpa using this
  unfold eG at h ⊢
  rw[List.pairwise_iff_getElem]at h ⊢
  intro i j hi hj hij
  simp only[List.length_set]at hi hj
  have hp:=(List.getElem?_eq_some_iff.1 hy).1
  have key:∀k (hk':k<l.length),((l.set (cS l m.key) m)[k]'(by simpa using hk')).key=l[k].key:=by
   intro k hk'
   rw[List.getElem_set]
   split
   ·rename_i e;subst e;exact hk.symm.trans (congrArg aM.key (List.getElem?_eq_some_iff.1 hy).2.symm)
   ·rfl
  rw[key i hi,key j hj]
  exact h i j hi hj hij
 ·rename_i hh
  unfold eG at h ⊢
  rw[List.append_assoc,List.pairwise_append]
  refine⟨h.sublist (List.take_sublist _ _),?_,fun x hx y hy=>?_⟩
  ·rw[List.singleton_append,List.pairwise_cons]
   refine⟨fun y hy=>?_,h.sublist (List.drop_sublist _ _)⟩
   cases hq:dr m.key y.key
   ·exfalso
    have e:=QG hq (hge y hy)
    exact hh (List.any_eq_true.2 ⟨y,List.mem_of_mem_drop hy,by simp [e]⟩)
   ·rfl
  ·rcases List.mem_append.1 hy with hy|hy
   ·simp at hy;subst hy;exact hlt x hx
   ·have e:l.take (cS l m.key)++l.drop (cS l m.key)=l:=List.take_append_drop _ _
    rw[←e,List.pairwise_append]at h
    exact h.2.2 x hx y hy
theorem Q4 (l:List aM) (m:aM):(je l m).length≤l.length+1:=by
 unfold je
 split
 ·simp
 ·simp;omega
def dM (l:List aG) (i:Nat) (g:List aM→List aM):List aG:=match l[i]? with
 |some c=>l.set i {c with aL:=g c.aL}
 |none=>l
theorem YD (l:List aG) (i:Nat) (g:List aM→List aM):(dM l i g).length=l.length:=by unfold dM;split<;>simp
def Inv (k:Nat) (l:List aG):Prop:=l.length≤1000∧∀c∈l,eG c.aL∧c.aL.length≤2000+k
theorem Inv.mono {k k':Nat} {l:List aG} (h:Inv k l) (hk:k≤k'):Inv k' l:=⟨h.1,fun c hc=>⟨(h.2 c hc).1,by have:=(h.2 c hc).2;omega⟩⟩
theorem Inv.dM {k:Nat} {l:List aG} (h:Inv k l) (i:Nat) (m:aM):Inv (k+1) (dM l i (je · m)):=by
 refine⟨by rw[YD];exact h.1,fun c hc=>?_⟩
 unfold Go.Proofs.Ytphgchakmkankaa.dM at hc
 split at hc
 ·rename_i x hx
  rcases List.mem_or_eq_of_mem_set hc with hc|hc
  ·exact⟨(h.2 c hc).1,by have:=(h.2 c hc).2;omega⟩
  ·subst hc
   have hx':=h.2 x (List.mem_of_getElem? hx)
   exact⟨F2 hx'.1 m,by have:=Q4 x.aL m;show(je x.aL m).length≤_;omega⟩
 ·exact⟨(h.2 c hc).1,by have:=(h.2 c hc).2;omega⟩
theorem Inv.erase {k:Nat} {l:List aG} (h:Inv k l) (i:Nat):Inv k (l.eraseIdx i):=
 ⟨by have:=List.length_eraseIdx_le l i;have:=h.1;omega,fun c hc=>h.2 c (List.mem_of_mem_eraseIdx hc)⟩
theorem Inv.small {k:Nat} {l:List aG} (h:Inv k l) (hk:k≤100000):∀c∈l,eG c.aL∧c.aL.length<4611686018427387904:=fun c hc=>⟨(h.2 c hc).1,by have:=(h.2 c hc).2;omega⟩
section
variable {au σ : Heap} {R : HP}
theorem NU {α β:Type} (f:β→α→β) (b:β) (l:List α) {i:Nat} {x:α} (h:l[i]? =some x):(l.take (i+1)).foldl f b=f ((l.take i).foldl f b) x:=by
 rw[List.take_add_one,h,Option.toList_some,List.foldl_append];rfl
end
end
section
open HP
def GI (l:List aG):Prop:=∀c∈l,mP c
theorem QJ {l:List aM} {m x:aM} (h:x∈je l m):x∈l∨x=m:=by
 unfold je at h
 split at h
 ·exact List.mem_or_eq_of_mem_set h
 ·simp only[List.mem_append,List.mem_singleton]at h
  rcases h with(h|h)|h
  ·exact .inl (List.mem_of_mem_take h)
  ·exact .inr h
  ·exact .inl (List.mem_of_mem_drop h)
def Gi (o:List aG):List aG×Int:=if l7 o=0 then(o,0)else([],l7 o)
theorem aah {l:List aG} {n:Int} (hg:Good l) (h:lM l n=true):∃x,l[dN l n]? =some x∧x.number=n:=by
 rw[←PX hg.ji]at h
 cases hx:l[dN l n]? with
 |none=>rw[hx]at h;cases h
 |some x=>rw[hx]at h;exact⟨x,rfl,by simpa using h⟩
theorem CD (a b:U):A.ext 0 (.aA [a,b])=some a:=rfl
theorem ext1 (a b:U):A.ext 1 (.aA [a,b])=some b:=rfl
theorem RB {v:U} {o:List aG} {e:Int} (h:A.nn (.e 11 iu) v=sl 11 aQ o):A.nn (.t [(.e 11 iu),.k]) (.aA [v,.int .i64 e])=.aA [sl 11 aQ o,.int .i64 e]:=by
 show U.aA (A.bI [.e 11 iu,.k] [v,.int .i64 e])=_
 rw[bU h (bU (jx _) mO)]
theorem RA {e:Int}:A.nn (.t [(.e 11 iu),.k]) (.aA [.aB,.int .i64 e])=.aA [sl 11 aQ [],.int .i64 e]:=RB rfl
theorem KK (a:Int):A.neq .i (.int .i64 a) (.int .i64 0)=some (.bool (decide (¬(a=0)))):=by rw[iM]
end
section
open HP
theorem Qa {l:List aG} {i j:Nat} (h:i≠j) (g:List aM→List aM):(dM l i g)[j]? =l[j]? :=by
 unfold dM
 split
 ·rw[List.getElem?_set_ne h]
 ·rfl
section
variable {au σ : Heap} {R : HP}
theorem Z7 {v:U} {l:List aG} {e:Int} (H:Hs aY au σ (Sl qu 11 v l*R)):∃v',A.fin au (.aA [v,.int .i64 e]) σ=some (.aA [v',.int .i64 e],au)∧A.nn (.e 11 iu) v'=sl 11 aQ l:=by
 obtain⟨v',h1,h2,h3⟩:=Pm H (Nat.le_refl _) 6
 refine⟨v',F8 H (by simp [A.bn,A.dm,h1]) (fun e=>?_),h3⟩
 rcases oR H with⟨rfl,rfl|rfl,_⟩|⟨id,g,seg,rfl,hl,K⟩
 ·simp [A.bn]at h1;rw[h1]
 ·simp [A.bn]at h1;rw[h1]
 ·obtain⟨k1,k2⟩:=iF K
  have:=(List.getElem?_eq_some_iff.1 k2).1
  subst e;omega
theorem Z6 {e:Int} (H:Hs aY au σ R):A.fin au (.aA [.aB,.int .i64 e]) σ=some (.aA [.aB,.int .i64 e],au):=F8 H (by simp [A.bn,A.dm]) (fun _=>rfl)
end
end
section
open HP
def tK:aO→Prop:=fun b=>A.yh b=true
section
variable {α : Type} {c : α → List U} {sz : Nat} {au σ : Heap} {R : HP}
theorem Gb {B:aO→Prop} (H:Hs B au σ R) (bs:Heap) (kD:∀b∈bs,B b):Hs B au (σ++bs) R:=by
 obtain⟨⟨b0,rfl,hb0⟩,h,hr,h2⟩:=H
 exact⟨⟨b0++bs,by simp,fun b hb=>(List.mem_append.1 hb).elim (hb0 b) (kD b)⟩,h,hr,fun i b hb=>⟨(h2 i b hb).1,by rw[List.getElem?_append_left (List.getElem?_eq_some_iff.1 (h2 i b hb).2).1];exact(h2 i b hb).2⟩⟩
theorem Rq {B:aO→Prop} (H:Hs B au σ R) {bs:Heap} (kD:∀b∈bs,B b) {j:Nat} {b:aO} (hj:σ.length≤j) (hb:(σ++bs)[j]? =some b):Hs B au (σ++bs) (blk j b*R):=by
 have hl:=Rr H
 have H2:=Gb H bs kD
 obtain⟨_,h,hr,h2⟩:=H
 have hn:h j=none:=by
  cases hh:h j with
  |none=>rfl
  |some x=>have:=(List.getElem?_eq_some_iff.1 (h2 j x hh).2).1;omega
 refine⟨H2.pre,fun i=>if i=j then some b else h i,⟨fun i=>if i=j then some b else none,h,fun i=>rfl,hr,fun i=>?_,fun i=>?_⟩,fun i x hx=>?_⟩
 ·by_cases e:i=j
  ·subst e;exact .inr hn
  ·simp [e]
 ·by_cases e:i=j<;>simp [e]
 ·by_cases e:i=j
  ·subst e
   simp only[if_true,Option.some.injEq]at hx
   subst hx
   exact⟨by omega,hb⟩
  ·simp only[e,if_false]at hx
   obtain⟨k1,k2⟩:=h2 i x hx
   exact⟨k1,by rw[List.getElem?_append_left (List.getElem?_eq_some_iff.1 k2).1];exact k2⟩
def KS (m:List U→Heap→Option (U×Heap)) (args:List U) (c:α→List U) (sz:Nat) (l:List α):Prop:=
 ∀(au σ:Heap) (R:HP),Hs tK au σ R→∃v σ',m args σ=some (v,σ')∧Hs tK au σ' (Sl (fl c) sz v l*R)
theorem acs {B:aO→Prop} (GQ:∀b,tK b→B b) {m:List U→Heap→Option (U×Heap)} {args:List U} {l:List α} (h:KS m args c sz l) (H:Hs B au σ R):∃v σ',m args σ=some (v,σ')∧Hs B au σ' (Sl (fl c) sz v l*R):=by
 obtain⟨v,σ',e1,K⟩:=h σ σ emp (Ax σ)
 refine⟨v,σ',e1,?_⟩
 obtain⟨⟨bs,kD,hfr⟩,_⟩:=id K
 subst kD
 have A9:∀b∈bs,B b:=fun b hb=>GQ b (hfr b hb)
 rcases ug K with⟨rfl,hv,_⟩|⟨id,g,rfl,K2⟩
 ·exact qP (Gb H bs A9) hv
 ·obtain⟨k1,k2⟩:=iF K2
  exact RR (Rq H A9 k1 k2)
theorem acu {B:aO→Prop} (GQ:∀b,tK b→B b) {bL:List Sh} {r:List U→Heap→Option (U×Heap)} {uS ts:List U} {l:List α} (h:A2 σ bL uS ts) (e:KS (A.wrap true bL .k r) ts c sz l) (H:Hs B au σ R):
  ∃v σ',A.wrap true bL .k r uS σ=some (v,σ')∧Hs B au σ' (Sl (fl c) sz v l*R):=by
 obtain⟨⟨as',k1,k2,k3⟩,k4,k5⟩:=G0 h
 cases ho:uS.any A.own
 ·obtain⟨v,σ',e1,K⟩:=acs GQ e H
  exact⟨v,σ',by rw[JX (k5 ho) ho k4];exact e1,K⟩
 ·obtain⟨v,σ1,e1,K⟩:=e [] [] emp (Ax [])
  have e2:r (A.bI bL ts) []=some (v,σ1):=by
   unfold A.wrap at e1
   rw[k4,Bool.and_false,cond_false]at e1
   obtain⟨⟨q1,q2⟩,f1,f2⟩:=Option.map_eq_some_iff.1 e1
   simp only[Prod.mk.injEq,jx]at f2
   obtain⟨rfl,rfl⟩:=f2
   exact f1
  have hfr:∀b∈σ1,tK b:=by
   obtain⟨⟨bs,kD,hB⟩,_⟩:=K
   rw[List.nil_append]at kD
   subst kD
   exact hB
  have hb:σ1.all A.yh=true:=List.all_eq_true.2 hfr
  have A9:∀b∈σ1,B b:=fun b hb=>GQ b (hfr b hb)
  have hw:∀v',A.sW v=true→A.rE σ.length v=v'→A.wrap true bL .k r uS σ=some (v',σ++σ1):=by
   intro v' h1 h2
   unfold A.wrap
   rw[ho,Bool.and_self,cond_true,k1,Option.bind_some,k3,e2,Option.bind_some,jx]
   simp only[h1,hb,Bool.and_self,cond_true,h2]
  rcases ug K with⟨rfl,rfl|rfl,_⟩|⟨id,g,rfl,K2⟩
  ·exact⟨.aB,_,hw _ rfl rfl,qP (Gb H σ1 A9) (.inl rfl)⟩
  ·exact⟨.ez,_,hw _ rfl rfl,qP (Gb H σ1 A9) (.inr rfl)⟩
  ·obtain⟨_,k2⟩:=iF K2
   refine⟨.os (id+σ.length) g sz 0 l.length,_,hw _ rfl rfl,RR (Rq H A9 (by omega) ?_)⟩
   rw[List.getElem?_append_right (by omega),Nat.add_sub_cancel];exact k2
theorem Z8 {c:α→List U} (hc:∀x,(c x).all A.nI=true) (l:List α):∀g g' seg,(seg=[]∨tK (.arr g sz seg))→tK (.arr g' sz (seg++l.map c)):=by
 intro g g' seg h
 show((seg++l.map c).all fun e=>e.all A.nI)=true
 rw[List.all_append,Bool.and_eq_true]
 refine⟨?_,?_⟩
 ·rcases h with rfl|h
  ·rfl
  ·exact h
 ·rw[List.all_map,List.all_eq_true];intro x _;exact hc x
end
def tG (l:List bB):Prop:=l.Pairwise fun a b=>dr a.key b.key=true
def lP (l:List bB) (k:az):Nat:=(l.takeWhile fun m=>dr m.key k).length
def GA (l:List bB) (k:az):Bool:=l.any fun m=>decide (m.key=k)
theorem aaS (l:List bB) (k:az):lP l k≤l.length:=(List.takeWhile_prefix _).length_le
theorem FX {l:List bB} {k:az} (h:tG l):∀{i:Nat} {x:bB},l[i]? =some x→(dr x.key k=true↔i<lP l k):=by
 induction l with
 |nil=>intro i x hx;simp at hx
 |cons a l ih=>
  intro i x hx
  have hs:=List.pairwise_cons.1 h
  unfold lP
  rw[List.takeWhile_cons]
  cases ha:dr a.key k
  ·simp only[Bool.false_eq_true,if_false,List.length_nil,Nat.not_lt_zero,iff_false,Bool.not_eq_true]
   cases i with
   |zero=>simp at hx;subst hx;exact ha
   |succ i=>
    simp only[List.getElem?_cons_succ]at hx
    have:=hs.1 x (List.mem_of_getElem? hx)
    cases hq:dr x.key k
    ·rfl
    ·rw[E4 this hq]at ha;cases ha
  ·simp only[if_true,List.length_cons]
   cases i with
   |zero=>simp at hx;subst hx;simp [ha]
   |succ i=>
    simp only[List.getElem?_cons_succ]at hx
    rw[ih hs.2 hx]
    unfold lP
    omega
theorem Q2 {l:List bB} {k:az} (h:tG l) {i:Nat} {x:bB} (hi:l[i]? =some x) (hk:x.key=k):lP l k=i:=by
 have h1:¬i<lP l k:=fun q=>by
  have:=(FX h hi).2 q
  rw[hk,qm]at this;cases this
 have h2:¬lP l k<i:=fun q=>by
  have hp:lP l k<l.length:=Nat.lt_trans q (List.getElem?_eq_some_iff.1 hi).1
  have hy:l[lP l k]? =some l[lP l k]:=List.getElem?_eq_getElem hp
  have h3:¬dr l[lP l k].key k=true:=fun q'=>Nat.lt_irrefl _ ((FX h hy).1 q')
  have h4:=List.pairwise_iff_getElem.1 h (lP l k) i hp (List.getElem?_eq_some_iff.1 hi).1 q
  rw[(List.getElem?_eq_some_iff.1 hi).2,hk]at h4
  exact h3 h4
 omega
theorem PY {l:List bB} {k:az} (h:tG l):((l[lP l k]?).any fun x=>decide (x.key=k))=GA l k:=by
 rw[Bool.eq_iff_iff]
 constructor
 ·intro e
  cases hx:l[lP l k]? with
  |none=>rw[hx]at e;cases e
  |some x=>rw[hx]at e;exact List.any_eq_true.2 ⟨x,List.mem_of_getElem? hx,e⟩
 ·intro e
  obtain⟨x,hm,hk⟩:=List.any_eq_true.1 e
  have hk:=of_decide_eq_true hk
  obtain⟨i,hi⟩:=List.mem_iff_getElem?.1 hm
  rw[Q2 h hi hk,hi];simp [hk]
def tg (n:Int) (st:List bB) (m:aM):List bB:=
 let st1:=if GA st m.key=true then st.eraseIdx (lP st m.key)else st
 if m.release=true then st1 else st1.take (lP st m.key)++[⟨m.key,m.value,n⟩]++st1.drop (lP st m.key)
def Rh (st:List bB) (c:aG):List bB:=c.aL.foldl (tg c.number) st
def lW (l:List aG):List bB:=l.foldl Rh []
def gm (st:List bB) (k:az):Option bB:=st.find? fun e=>decide (e.key=k)
theorem Oh {n:Int} {st:List bB} (h:tG st) (m:aM):tG (tg n st m)∧(∀k,gm (tg n st m) k=if k=m.key then(if m.release=true then none else some ⟨m.key,m.value,n⟩)else gm st k)∧(tg n st m).length≤st.length+1:=by
 obtain⟨p,hp⟩:∃p,p=lP st m.key:=⟨_,rfl⟩
 obtain⟨st1,AT⟩:∃st1,st1=if GA st m.key=true then st.eraseIdx p else st:=⟨_,rfl⟩
 have aec:p≤st.length:=by rw[hp];exact aaS _ _
 have e1:st1.take p=st.take p:=by
  rw[AT];split
  ·rw[List.eraseIdx_eq_take_drop_succ,List.take_append_of_le_length (by simp;omega),List.take_take,Nat.min_self]
  ·rfl
 have e2:st1.drop p=if GA st m.key=true then st.drop (p+1)else st.drop p:=by
  rw[AT];split
  ·rw[List.eraseIdx_eq_take_drop_succ,List.drop_append_of_le_length (by simp;omega),List.drop_of_length_le (by simp;omega),List.nil_append]
  ·rfl
 have hlt:∀x∈st.take p,dr x.key m.key=true:=fun x hx=>by
  obtain⟨i,hi⟩:=List.mem_iff_getElem?.1 hx
  rw[List.getElem?_take]at hi
  split at hi
  ·rename_i q;exact(FX h hi).2 (by omega)
  ·cases hi
 have hgt:∀x∈st1.drop p,dr m.key x.key=true:=fun x hx=>by
  rw[e2]at hx
  have key:∀i,p≤i→st[i]? =some x→x.key≠m.key→dr m.key x.key=true:=by
   intro i hpi hi hne
   cases hq:dr m.key x.key
   ·exfalso
    have h1:dr x.key m.key=false:=by
     cases tM:dr x.key m.key
     ·rfl
     ·have:=(FX h hi).1 tM;omega
    exact hne (QG h1 hq)
   ·rfl
  split at hx
  ·rename_i hh
   obtain⟨i,hi⟩:=List.mem_iff_getElem?.1 hx
   rw[List.getElem?_drop]at hi
   refine key _ (by omega) hi fun e=>?_
   have:=Q2 h hi e
   omega
  ·rename_i hh
   obtain⟨i,hi⟩:=List.mem_iff_getElem?.1 hx
   rw[List.getElem?_drop]at hi
   refine key _ (by omega) hi fun e=>?_
   exact hh (List.any_eq_true.2 ⟨x,List.mem_of_getElem? hi,by simp [e]⟩)
 have hs1:tG st1:=by
  rw[AT];split
  ·exact h.sublist (List.eraseIdx_sublist _ _)
  ·exact h
 have lS:st1.length≤st.length:=by
  rw[AT];split
  ·exact List.length_eraseIdx_le _ _
  ·exact Nat.le_refl _
 have hno:∀k,k=m.key→gm st1 k=none:=by
  rintro k rfl
  unfold gm
  rw[List.find?_eq_none]
  intro x hx hk
  have hk:=of_decide_eq_true hk
  rw[←List.take_append_drop p st1,List.mem_append]at hx
  rcases hx with hx|hx
  ·rw[e1]at hx
   have:=hlt x hx
   rw[hk,qm]at this;cases this
  ·have:=hgt x hx
   rw[hk,qm]at this;cases this
 have SP:∀k,k≠m.key→gm st1 k=gm st k:=by
  intro k hk
  rw[AT];split
  ·rename_i hh
   unfold gm
   rw[List.eraseIdx_eq_take_drop_succ]
   have hx:st[p]? ≠none:=fun e=>by
    have:=PY (k:=m.key) h
    rw[hh,←hp,e]at this;cases this
   obtain⟨x,hx⟩:=Option.ne_none_iff_exists'.1 hx
   have hxk:x.key=m.key:=by
    have:=PY (k:=m.key) h
    rw[hh,←hp,hx]at this
    simpa using this
   have e:st=st.take p++x::st.drop (p+1):=by
    rw[←(List.getElem?_eq_some_iff.1 hx).2,List.getElem_cons_drop,List.take_append_drop]
   conv=>rhs;rw[e]
   rw[List.find?_append,List.find?_append,List.find?_cons,decide_eq_false (fun q=>hk (by rw[←q,hxk]))]
  ·rfl
 have adb:tg n st m=if m.release=true then st1 else st1.take p++[⟨m.key,m.value,n⟩]++st1.drop p:=by
  unfold tg
  rw[←hp,←AT]
 rw[adb]
 split
 ·rename_i hr
  refine⟨hs1,fun k=>?_,by omega⟩
  by_cases hk:k=m.key
  ·rw[if_pos hk];exact hno k hk
  ·rw[if_neg hk];exact SP k hk
 ·rename_i hr
  refine⟨?_,fun k=>?_,by simp;omega⟩
  ·unfold tG
   rw[List.append_assoc,List.pairwise_append]
   refine⟨hs1.sublist (List.take_sublist _ _),?_,fun x hx y hy=>?_⟩
   ·rw[List.singleton_append,List.pairwise_cons]
    exact⟨fun y hy=>hgt y hy,hs1.sublist (List.drop_sublist _ _)⟩
   ·rw[e1]at hx
    rcases List.mem_append.1 hy with hy|hy
    ·simp at hy;subst hy;exact hlt x hx
    ·exact E4 (hlt x hx) (hgt y hy)
  ·by_cases hk:k=m.key
   ·rw[if_pos hk]
    subst hk
    unfold gm
    rw[List.append_assoc,List.find?_append]
    have:(st1.take p).find? (fun e=>decide (e.key=m.key))=none:=by
     rw[List.find?_eq_none]
     intro x hx q
     rw[e1]at hx
     have:=hlt x hx
     rw[of_decide_eq_true q,qm]at this;cases this
    rw[this]
    simp
   ·rw[if_neg hk,←SP k hk]
    unfold gm
    rw[List.append_assoc,List.find?_append,List.singleton_append,List.find?_cons,decide_eq_false (fun q=>hk q.symm)]
    conv=>rhs;rw[←List.take_append_drop p st1,List.find?_append]
end
section
open HP
section
variable {B : aO → Prop} {au σ : Heap} {R : HP}
end
def wq (n:Int) (s:List (az×bB)) (m:aM):List (az×bB):=if m.release=true then oA m.key s else eo m.key ⟨m.key,m.value,n⟩ s
def rF (l:List aG):List (az×bB):=l.foldl (fun s c=>c.aL.foldl (wq c.number) s) []
def pM (s:List (az×bB)):Prop:=(s.map (·.1)).Nodup
theorem Jb {ν:Type} (k k':az) (v:ν):∀s:List (az×ν),bA k (eo k' v s)=if k=k' then some v else bA k s
 |[]=>by by_cases h:k=k'<;>simp [eo,bA,h]
 |(a,b)::s=>by
  rw[eo]
  by_cases h1:k'=a
  ·subst h1
   simp only[if_true,bA]
   by_cases h:k=k'<;>simp [h]
  ·rw[if_neg h1,bA,bA,Jb k k' v s]
   by_cases h2:k=a
   ·have:k≠k':=fun e=>h1 (by rw[←e,h2])
    simp [h2,this]
    intro e;exact absurd (e.symm) h1
   ·simp [h2]
theorem QI {ν:Type} {k:az}:∀{s:List (az×ν)} {x:az×ν},x∈oA k s→x∈s
 |[],x,h=>h
 |(a,b)::s,x,h=>by
  rw[oA]at h
  split at h
  ·exact List.mem_cons_of_mem _ h
  ·rcases List.mem_cons.1 h with rfl|h
   ·exact List.mem_cons_self
   ·exact List.mem_cons_of_mem _ (QI h)
theorem Om {ν:Type} {k:az}:∀{s:List (az×ν)},(∀p∈s,p.1≠k)→bA k s=none
 |[],_=>rfl
 |(a,b)::s,h=>by
  rw[bA,if_neg (fun e=>h (a,b) (by simp) e.symm)]
  exact Om (fun p hp=>h p (by simp [hp]))
theorem O6 (k k':az):∀{s:List (az×bB)},pM s→bA k (oA k' s)=if k=k' then none else bA k s
 |[],_=>by simp [oA,bA]
 |(a,b)::s,h=>by
  unfold pM at h
  rw[List.map_cons,List.nodup_cons]at h
  rw[oA]
  by_cases h1:k'=a
  ·subst h1
   rw[if_pos rfl]
   by_cases h2:k=k'
   ·subst h2
    rw[if_pos rfl]
    exact Om fun p hp e=>h.1 (List.mem_map.2 ⟨p,hp,e⟩)
   ·rw[if_neg h2,bA,if_neg h2]
  ·rw[if_neg h1,bA,bA,O6 k k' (s:=s) h.2]
   by_cases h2:k=a
   ·have:k≠k':=fun e=>h1 (by rw[←e,h2])
    rw[if_pos h2,if_pos h2,if_neg this]
   ·rw[if_neg h2,if_neg h2]
theorem QM {k:az} {v:bB}:∀{s:List (az×bB)},pM s→pM (eo k v s)∧∀x∈(eo k v s).map (·.1),x∈s.map (·.1)∨x=k
 |[],_=>⟨by simp [pM,eo],by simp [eo]⟩
 |(a,b)::s,h=>by
  unfold pM at h
  rw[List.map_cons,List.nodup_cons]at h
  rw[eo]
  split
  ·rename_i e
   subst e
   exact⟨by unfold pM;rw[List.map_cons,List.nodup_cons];exact h,fun x hx=>.inl hx⟩
  ·rename_i e
   obtain⟨h1,h2⟩:=QM (k:=k) (v:=v) h.2
   refine⟨?_,fun x hx=>?_⟩
   ·unfold pM
    rw[List.map_cons,List.nodup_cons]
    refine⟨fun hm=>?_,h1⟩
    rcases h2 _ hm with h3|h3
    ·exact h.1 h3
    ·exact e h3.symm
   ·rw[List.map_cons]at hx ⊢
    rcases List.mem_cons.1 hx with rfl|hx
    ·exact .inl List.mem_cons_self
    ·rcases h2 x hx with h3|h3
     ·exact .inl (List.mem_cons_of_mem _ h3)
     ·exact .inr h3
theorem QL {k:az}:∀{s:List (az×bB)},pM s→pM (oA k s)
 |[],h=>h
 |(a,b)::s,h=>by
  unfold pM at h
  rw[List.map_cons,List.nodup_cons]at h
  rw[oA]
  split
  ·exact h.2
  ·unfold pM
   rw[List.map_cons,List.nodup_cons]
   refine⟨fun hm=>?_,QL h.2⟩
   obtain⟨p,hp,e⟩:=List.mem_map.1 hm
   exact h.1 (List.mem_map.2 ⟨p,QI hp,e⟩)
def ym (s:List (az×bB)) (st:List bB):Prop:=pM s∧tG st∧∀k,bA k s=gm st k
theorem YA {n:Int} {s:List (az×bB)} {st:List bB} (h:ym s st) (m:aM):ym (wq n s m) (tg n st m):=by
 obtain⟨h1,h2,h3⟩:=h
 obtain⟨k1,k2,_⟩:=Oh (n:=n) h2 m
 unfold wq
 refine⟨?_,k1,fun k=>?_⟩
 ·split
  ·exact QL h1
  ·exact(QM h1).1
 ·rw[k2 k]
  split
  ·rw[O6 k m.key h1,h3 k]
  ·rw[Jb,h3 k]
theorem OS {n:Int}:∀(ms:List aM) {s:List (az×bB)} {st:List bB},ym s st→ym (ms.foldl (wq n) s) (ms.foldl (tg n) st)
 |[],_,_,h=>h
 |m::ms,_,_,h=>OS ms (YA h m)
theorem P8:∀(l:List aG) {s:List (az×bB)} {st:List bB},ym s st→ym (l.foldl (fun s c=>c.aL.foldl (wq c.number) s) s) (l.foldl Rh st)
 |[],_,_,h=>h
 |c::l,_,_,h=>P8 l (OS c.aL h)
theorem IT (l:List aG):ym (rF l) (lW l):=P8 l ⟨List.Pairwise.nil,List.Pairwise.nil,fun k=>rfl⟩
theorem Q9 {l:List aG} (hl:l.length≤br) (hm:∀c∈l,c.aL.length≤br):BH l=some (rF l):=by
 unfold BH rF
 rw[zW (g:=fun s c=>c.aL.foldl (wq c.number) s) (P:=fun _ _=>True) hl trivial (fun _ _ _ _ _=>trivial) ?_]
 ·rfl
 intro i c s hc _
 rw[zW (g:=fun s m=>wq c.number s m) (P:=fun _ _=>True) (hm c (List.mem_of_getElem? hc)) trivial (fun _ _ _ _ _=>trivial) ?_]
 ·rfl
 intro j m s hm _
 unfold wq
 by_cases hr:m.release=true<;>simp [hr]
end
section
open HP
def abE (n:Int):aG:=⟨n,⟨#[]⟩,0,0,0,0,⟨1,[]⟩,false,-1,[]⟩
def newRow (n:Int):List U:=dh (abE n) .aB .aB
theorem aa1 (k:az):(((A.cells 2 (.agg (aH k))).bind fun cU=>(A.splice 0 cU [aj,bw]).bind fun uT=>some uT).bind fun cs=>some (U.sl 2 (chunks 2 1 cs)))=some (.sl 2 [aH k]):=rfl
section
variable {au σ : Heap} {R : HP}
theorem Y3 {v:U} {o:List aG} (H:Hs aY au σ (Sl dX 11 v o*R)) (ho:cB mP o):BJ [v] σ=some (.aA [if l7 o=0 then v else .aB,.int .i64 (l7 o)],σ):=by
 have hf:zS [v] σ=some (.int .i64 (l7 o),σ):=CO (bL:=[.e 11 iu]) (ts:=[sl 11 aQ o]) ⟨QH H,trivial⟩ (fun σ=>NY (Rm o ho)) rfl
 unfold BJ A.wrap
 rw[Bool.false_and,cond_false,show A.bI [] [v]=[v] by simp [A.bI]]
 show(EU v σ).map _=_
 unfold EU
 rw[hf,Option.bind_some,KK,Option.bind_some]
 by_cases hq:l7 o=0
 ·rw[decide_eq_false (by simp [hq]),ga,if_pos hq,hq];simp [jx]
 ·rw[decide_eq_true hq,iG,if_neg hq];simp [jx]
theorem acE {B:aO→Prop} {v:U} {l:List az} (k:az) (hl:l.length<1000000) (hB:∀g g' seg,(seg=[]∨B (.arr g 2 seg))→B (.arr g' 2 (seg++[aH k]))) (H:Hs B au σ (Sl (fl aH) 2 v l*R)):
  ∃v' σ',A.append 2 (140737488355328 / 24) v (.sl 2 [aH k]) σ=some (v',σ')∧Hs B au σ' (Sl (fl aH) 2 v' (l++[k])*R):=
 AE (ys:=[aH k]) (xs:=[k]) (hs_eq (show pr (aH k=aH k)*(Sl (fl aH) 2 v l*R)=_ by
  rw[show els (fl aH) [aH k] [k]=pr (aH k=aH k)*emp from rfl,lV,uh];ac_rfl) (gI.2 ⟨rfl,H⟩)) (by simp;omega) hB
end
end
section
open HP
theorem Sr:aS 0:=by unfold aS;decide
end
section
open HP
section
variable {au σ : Heap} {R : HP}
theorem abL {v:U} {l:List aG} {i:Nat} {x:aG} (hx:l[i]? =some x) (H:Hs aY au σ (Sl dX 11 v l*R)):∃p e,A.aU 11 v (.int .i64 (i:Int))=some p∧((A.deref p σ).bind fun c=>A.aD 0 11 c)=some (.agg e)∧Lt σ (.a iu) (.agg e) (.agg (aQ x)):=by
 obtain⟨p,F,e,f1,hC,K,back⟩:=F1 H hx
 obtain⟨vp,vm,he,_⟩:=yA (hs_eq (show _=mh (Sl (fl aK) 8) e x*(F e*R) by rw[show dX e x=mh (Sl (fl aK) 8) e x from rfl];ac_rfl) K)
 refine⟨p,e,f1,?_,JR (BR (hs_eq (show _=dX e x*(F e*R) by ac_rfl) K))⟩
 rw[hC.ld K,Option.bind_some,he];rfl
theorem ZI {l:List aG} {i:Nat} {x:aG} (h:l[i]? =some x):l.set i x=l:=by
 apply List.ext_getElem?
 intro j
 rw[List.getElem?_set]
 split
 ·rename_i e;subst e;rw[h,if_pos (List.getElem?_eq_some_iff.1 h).1]
 ·rfl
end
end
section
open HP
theorem W0 (x:aM):(aK x).all A.nI=true:=rfl
section
variable {au σ : Heap} {R : HP}
theorem acF {B:aO→Prop} {v:U} {l:List aM} (k:aM) (hl:l.length<1000000) (hB:∀g g' seg,(seg=[]∨B (.arr g 8 seg))→B (.arr g' 8 (seg++[aK k]))) (H:Hs B au σ (Sl (fl aK) 8 v l*R)):
  ∃v' σ',A.append 8 (140737488355328 / 64) v (.sl 8 [aK k]) σ=some (v',σ')∧Hs B au σ' (Sl (fl aK) 8 v' (l++[k])*R):=
 AE (ys:=[aK k]) (xs:=[k]) (hs_eq (show pr (aK k=aK k)*(Sl (fl aK) 8 v l*R)=_ by
  rw[show els (fl aK) [aK k] [k]=pr (aK k=aK k)*emp from rfl,lV,uh];ac_rfl) (gI.2 ⟨rfl,H⟩)) (by simp;omega) hB
end
end
section
open HP
theorem P9 {l:List aG} {i:Nat} {g:List aM→List aM} (h:∀x,l[i]? =some x→g x.aL=x.aL):dM l i g=l:=by
 unfold dM
 split
 ·rename_i x hx
  rw[h x hx]
  exact ZI hx
 ·rfl
theorem mH (l:List aG) (i j:Nat) (g:List aM→List aM):(dM l i g)[j]? =if i=j then l[j]?.map (fun c=>{c with aL:=g c.aL})else l[j]? :=by
 by_cases h:i=j
 ·subst h
  rw[if_pos rfl]
  unfold dM
  split
  ·rename_i x hx
   rw[List.getElem?_set_self (List.getElem?_eq_some_iff.1 hx).1,hx];rfl
  ·rename_i hx;rw[hx];rfl
 ·rw[if_neg h,Qa h]
theorem XG (l:List aG) {i j:Nat} (h:i≠j) (g f:List aM→List aM):dM (dM l i g) j f=dM (dM l j f) i g:=by
 apply List.ext_getElem?
 intro k
 rw[mH,mH,mH,mH]
 by_cases h1:j=k
 ·subst h1;rw[if_pos rfl,if_neg h,if_neg h,if_pos rfl]
 ·rw[if_neg h1,if_neg h1]
theorem OX (l:List aG) (i:Nat) (g f:List aM→List aM):dM (dM l i g) i f=dM l i (fun x=>f (g x)):=by
 apply List.ext_getElem?
 intro k
 rw[mH,mH,mH]
 by_cases h1:i=k
 ·subst h1
  rw[if_pos rfl,if_pos rfl,if_pos rfl]
  cases l[i]? <;>rfl
 ·rw[if_neg h1,if_neg h1,if_neg h1]
theorem WQ {l:List aG} {i:Nat} {g f:List aM→List aM} (h:∀x,l[i]? =some x→g x.aL=f x.aL):dM l i g=dM l i f:=by
 unfold dM
 split
 ·rename_i x hx
  rw[h x hx]
 ·rfl
end
section
open HP
section
variable {au σ : Heap} {R : HP}
theorem Qy {α:Type} {c:α→List U} {sz:Nat} {B:aO→Prop} {v:U} {l:List α} (hc:∀x,gu (c x)) (H:Hs B au σ (Sl (fl c) sz v l*R)):∃v',A.fin au v σ=some (v',au)∧A.nn (.s sz) v'=sl sz c l:=by
 obtain⟨v',h1,h2,h3⟩:=RQ H hc (Nat.le_refl _) 7
 refine⟨v',F8 (abC H) h1 (fun e=>?_),h3⟩
 rcases ug H with⟨rfl,rfl|rfl,_⟩|⟨id,g,rfl,K⟩
 ·simp [A.bn]at h1;rw[h1]
 ·simp [A.bn]at h1;rw[h1]
 ·obtain⟨k1,k2⟩:=iF K
  have:=(List.getElem?_eq_some_iff.1 k2).1
  subst e;omega
end
end
section
open HP
theorem Sj {l:List U} (h:gu l):Fz (.rp l):=fun σ n d=>by cases d<;>simp [A.bn,h σ n]
theorem Y7 {σ:Heap} {n:Nat} (d:Nat) {es:List (U×U)} (h:∀p∈es,Fz p.1∧Fz p.2):A.tv σ n d es=some es:=by
 rw[←JM];exact FO d h
theorem Km {es:List (U×U)} (h:∀p∈es,Fz p.1∧Fz p.2):Fz (.fm es):=fun σ n d=>by cases d<;>simp [A.bn,Y7 _ h]
def GN (st:List (az×bB)):U:=qE (fun x=>(U.agg (aH x))) (fun x=>(U.agg (jc x))) st
section
variable {au σ : Heap} {R : HP}
end
end
def dP (l:List aM) (k:az):Option aM:=l.find? fun m=>decide (m.key=k)
theorem Cc {l:List aM} {k:az} (h:eG l) {i:Nat} {x:aM} (hi:l[i]? =some x) (hk:x.key=k):cS l k=i:=by
 have h1:¬i<cS l k:=fun q=>by
  have:=(ya h hi).2 q
  rw[hk,qm]at this;cases this
 have h2:¬cS l k<i:=fun q=>by
  have hp:cS l k<l.length:=Nat.lt_trans q (List.getElem?_eq_some_iff.1 hi).1
  have hy:l[cS l k]? =some l[cS l k]:=List.getElem?_eq_getElem hp
  have h3:¬dr l[cS l k].key k=true:=fun q'=>Nat.lt_irrefl _ ((ya h hy).1 q')
  have h4:=List.pairwise_iff_getElem.1 h (cS l k) i hp (List.getElem?_eq_some_iff.1 hi).1 q
  rw[(List.getElem?_eq_some_iff.1 hi).2,hk]at h4
  exact h3 h4
 omega
theorem PV {l:List aM} (h:eG l) {k:az} {x:aM}:dP l k=some x↔x∈l∧x.key=k:=by
 constructor
 ·intro e
  exact⟨List.mem_of_find?_eq_some e,of_decide_eq_true (List.find?_some (p:=fun m:aM=>decide (m.key=k)) e)⟩
 ·rintro⟨hm,hk⟩
  cases e:dP l k with
  |none=>
   have:=List.find?_eq_none.1 e x hm
   simp [hk]at this
  |some y=>
   have hy:=List.mem_of_find?_eq_some e
   have Ma:y.key=k:=of_decide_eq_true (List.find?_some (p:=fun m:aM=>decide (m.key=k)) e)
   obtain⟨i,hi⟩:=List.mem_iff_getElem?.1 hm
   obtain⟨j,hj⟩:=List.mem_iff_getElem?.1 hy
   have e1:=Cc h hi hk
   have e2:=Cc h hj Ma
   rw[←e1,e2,hj]at hi
   exact hi
theorem PT {l:List aM} {k:az}:dP l k=none↔gq l k=false:=by
 unfold dP gq
 rw[List.find?_eq_none,Bool.eq_false_iff,Ne,List.any_eq_true]
 constructor
 ·rintro h ⟨x,h1,h2⟩;exact h x h1 h2
 ·intro h x h1 h2;exact h ⟨x,h1,h2⟩
theorem Zp {l:List aM} (hs:eG l) {m x:aM}:x∈je l m↔x=m∨(x∈l∧x.key≠m.key):=by
 unfold je
 split
 ·rename_i hh
  obtain⟨y,hy⟩:=FQ hs hh
  have hp:=(List.getElem?_eq_some_iff.1 hy).1
  have Ma:y.key=m.key:=by
   have:=Fy (k:=m.key) hs
   rw[hh,hy]at this
   simpa using this
  constructor
  ·intro hx
   obtain⟨i,hi⟩:=List.mem_iff_getElem?.1 hx
   rw[List.getElem?_set]at hi
   split at hi
   ·try rw[if_pos hp]at hi
    injection hi with hi;exact .inl hi.symm
   ·rename_i hne
    exact .inr ⟨List.mem_of_getElem? hi,fun e=>hne (Cc hs hi e)⟩
  ·rintro(rfl|⟨hx,hk⟩)
   ·exact List.mem_of_getElem? (i:=cS l x.key) (by rw[List.getElem?_set_self hp])
   ·obtain⟨i,hi⟩:=List.mem_iff_getElem?.1 hx
    have hne:cS l m.key≠i:=fun e=>hk (by rw[←e,hy]at hi;injection hi with hi;rw[←hi,Ma])
    exact List.mem_of_getElem? (i:=i) (by rw[List.getElem?_set_ne hne,hi])
 ·rename_i hh
  have hall:∀z,z∈l↔z∈l.take (cS l m.key)∨z∈l.drop (cS l m.key):=fun z=>by
   conv=>lhs;rw[←List.take_append_drop (cS l m.key) l,List.mem_append]
  rw[List.mem_append,List.mem_append,List.mem_singleton]
  constructor
  ·rintro((h|h)|h)
   ·exact .inr ⟨(hall x).2 (.inl h),fun e=>hh (List.any_eq_true.2 ⟨x,(hall x).2 (.inl h),by simp [e]⟩)⟩
   ·exact .inl h
   ·exact .inr ⟨(hall x).2 (.inr h),fun e=>hh (List.any_eq_true.2 ⟨x,(hall x).2 (.inr h),by simp [e]⟩)⟩
  ·rintro(h|⟨h,_⟩)
   ·exact .inl (.inr h)
   ·rcases(hall x).1 h with h|h
    ·exact .inl (.inl h)
    ·exact .inr h
theorem aaD {l:List aM} (hs:eG l) (m:aM) (k:az):dP (je l m) k=if m.key=k then some m else dP l k:=by
 apply Option.ext
 intro x
 show dP (je l m) k=some x↔_=some x
 rw[PV (F2 hs m),Zp hs]
 by_cases h:m.key=k
 ·rw[if_pos h]
  constructor
  ·rintro⟨rfl|⟨_,h2⟩,h3⟩
   ·rfl
   ·exact absurd (h3.trans h.symm) h2
  ·intro e;injection e with e;subst e;exact⟨.inl rfl,h⟩
 ·rw[if_neg h,PV hs]
  constructor
  ·rintro⟨rfl|⟨h1,_⟩,h3⟩
   ·exact absurd h3 h
   ·exact⟨h1,h3⟩
  ·rintro⟨h1,h3⟩;exact⟨.inr ⟨h1,fun e=>h (e.symm.trans h3)⟩,h3⟩
section
open HP Go.Sort
theorem DB (x y:U):A.pick (.bool false) x y=some y:=rfl
theorem DC (x y:U):A.pick (.bool true) x y=some x:=rfl
section
variable {au σ : Heap} {R : HP}
end
end
section
set_option maxRecDepth 100000
noncomputable def HK (a0:bG) (a1:bE):Option Bool:=
 some (decide (a0.name=a1.profile))
theorem Vj {a0:bG} {a1:bE} {σ:Heap} {r:Bool} (h:HK a0 a1=some r):vC [(U.agg (ct a0)),(U.rp (bX a1))] σ=some ((U.bool r),σ):=by
 refine xW (f:=HI) (y0:=(U.agg (ct a0))) (y1:=(U.rp (bX a1))) (enc:=fun r:Bool=>(U.bool r)) (T:=HK a0 a1) (bU (tE (bU rfl (bU rfl (bU (gM (fun _=>rfl) _) mO)))) rfl) rfl ?_ r h
 unfold HI HK
 refine an _ rfl<|an _ rfl<|an _ rfl<|an _ rfl<|an _ (Gu _ _) ?_
 exact fu _ (cV _ _) ⟨rfl,rfl⟩
noncomputable def BB (a0:aV) (a1:(List bJ)) (a2:(List (az×bB))):Option (List bW):=
 iL a0.units (fun(zf:Nat) e9 (s3:(List bW))=>(show Option (Lr (List bW) (List bW) Unit)from
   (tq (a0.bp.length≤br) (kP (fun x=>(decide (x.name=e9.profile))) a0.bp)).bind fun fR=>
   (p6 a0.bp fR).bind fun bM=>
   iL bM.params (fun(i24:Nat) gA (fG:(List bW))=>(show Option (Lr (List bW) (List bW) Unit)from
     (show Option Int from
       if(bA (⟨e9.number,gA.name⟩:az) a2).isSome=true then
        (vG a1 (⟨e9.number,gA.name⟩:az) (((bA (⟨e9.number,gA.name⟩:az) a2).getD (⟨(⟨0,(⟨#[]⟩:ByteArray)⟩:az),(⟨0,0⟩:fN),0⟩:bB)).value)).bind fun iB=>
        some iB.1
       else
       some gA.default).bind fun vn=>
     if fG.length+([(⟨(⟨(⟨e9.number,gA.name⟩:az).unit,(⟨e9.number,gA.name⟩:az).param⟩:az),vn⟩:bW)]:(List bW)).length≤4398046511104 then
     some (.go (fG++([(⟨(⟨(⟨e9.number,gA.name⟩:az).unit,(⟨e9.number,gA.name⟩:az).param⟩:az),vn⟩:bW)]:(List bW))))
     else none)) (fun fG=>some fG) s3 (fun yO=>
    some (.go yO)) (fun yO=>
    none))) (fun s3=>some s3) ([]:List bW) (fun b4=>
  some b4) (fun b4=>
  none)
theorem Nc {a0:aV} {a1:(List bJ)} {a2:(List (az×bB))} {σ:Heap} {r:(List bW)} (h:BB a0 a1 a2=some r):vE [(U.agg (bh a0)),(sl 3 gh a1),(qE (fun x=>(U.agg (aH x))) (fun x=>(U.agg (jc x))) a2)] σ=some ((sl 3 ck r),σ):=by
 refine B3 (f:=EF) (y0:=(U.agg (bh a0))) (y1:=(sl 3 gh a1)) (y2:=(qE (fun x=>(U.agg (aH x))) (fun x=>(U.agg (jc x))) a2)) (enc:=fun r:(List bW)=>(sl 3 ck r)) (T:=BB a0 a1 a2) (bU (tE (bU (gM (fun _=>(bU rfl (bU rfl (bU (gM (fun _=>rfl) _) mO)))) _) (bU rfl mO))) (bU (gM (fun _=>rfl) _) rfl)) rfl ?_ r h
 unfold EF BB
 refine an _ rfl<|an (sl 4 bX a0.units) rfl<|an _ (dU _ _ _) ?_
 have hp1:Hp σ σ []:=F9 σ
 have hp2:Hp σ σ [(U.aB,(Ct.s 3 (List.map ck ([]:List bW))))]:=abA hp1 3
 refine lZ (B:=(List bW)) (R:=Unit) (fun(zf:Nat) (s3:(List bW)) v w5=>∃hh0,v=[(U.lbx (bh a0)),hh0,(U.int .i64 (zf:Int))]∧Hp σ w5 [(hh0,(Ct.s 3 (List.map ck s3)))]) (fun(b4:(List bW)) (q:LS)=>∃u3 T9 hh0 w6,q=((AX.exit 0),([u3,hh0,T9]:List U),w6)∧Hp σ w6 [(hh0,(Ct.s 3 (List.map ck b4)))]) (fun(b4:Unit) (q:LS)=>False) ?_ ?_ ⟨_,rfl,hp2⟩ ?_ ?_
 ·intro Lg zf e9 s3 v w5 y9 hI
  obtain⟨hh0,rfl,zb⟩:=hI
  refine an _ (iq y9)<|mg<|an _ (fW y9)<|an _ rfl ?_
  have CH:Hp σ (w5++[aO.box [aj,(U.str (⟨#[]⟩:ByteArray)),aj,aj]]) [(hh0,(Ct.s 3 (List.map ck s3))),((U.op w5.length 0),(Ct.b (bX (⟨0,(⟨#[]⟩:ByteArray),0,0⟩:bE))))]:=acm zb _
  refine an _ rfl ?_
  obtain⟨xy,LO,AO⟩:=Yc (cs':=(bX e9)) CH 1 rfl 0 (by first|rfl|exact kj _ _ rfl)
  change Hp σ xy [(hh0,(Ct.s 3 (List.map ck s3))),((U.op w5.length 0),(Ct.b (bX e9)))]at AO
  refine an xy LO<|an _ rfl<|an (sl 3 ct a0.bp) rfl ?_
  refine jA (fun fR:Int=>((U.int .i64 fR),xy)) (fun fR SS=>(oh (e:=fun r:Int=>((U.int .i64 r),xy)) (fun hs=>Hi _ a0.bp hs _ _ (fun x=>(decide (x.name=e9.profile))) xy (fun x hx=>ZX AO 1 rfl (PG _) (rz (NA _)) rfl rfl (Vj (σ:=[]) (r:=(decide (x.name=e9.profile))) rfl)))) SS) (fun fR SS=>?_)
  refine an _ rfl<|an (sl 3 ct a0.bp) rfl ?_
  refine jA (fun bM:bG=>(U.rp (ct bM))) (fun bM S2=>yu S2) (fun bM S2=>?_)
  refine an _ rfl<|an (sl 7 eA bM.params) rfl<|an _ (dU _ _ _) ?_
  refine lZ (B:=(List bW)) (R:=Unit) (fun(i24:Nat) (fG:(List bW)) v zw=>∃hh0,v=[(U.lbx (bh a0)),hh0,(U.int .i64 (i24:Int))]∧Hp σ zw [(hh0,(Ct.s 3 (List.map ck fG))),((U.op w5.length 0),(Ct.b (bX e9)))]) (fun(yO:(List bW)) (q:LS)=>∃Ua hh0 zx,q=((AX.exit 2),([(U.lbx (bh a0)),hh0,Ua]:List U),zx)∧Hp σ zx [(hh0,(Ct.s 3 (List.map ck yO))),((U.op w5.length 0),(Ct.b (bX e9)))]) (fun(yO:Unit) (q:LS)=>False) ?_ ?_ ⟨_,rfl,AO⟩ ?_ ?_
  ·intro acf i24 gA fG v zw Lb hI
   obtain⟨hh0,rfl,CI⟩:=hI
   refine an _ (iq Lb)<|mg<|an _ (fW Lb)<|an _ rfl<|an _ rfl<|an _ (qX _ _ rfl)<|an _ rfl<|an _ (by rw[abz CI 1 rfl];rfl)<|an _ rfl<|an (U.agg (aH (⟨e9.number,gA.name⟩:az))) rfl<|an (aH (⟨e9.number,gA.name⟩:az)) rfl<|an _ (yc _ _ rfl)<|an _ rfl<|an (U.agg (aH (⟨e9.number,gA.name⟩:az))) rfl<|an _ (W7 (ek:=(.s [0,2])) (eK:=(fun x=>(U.agg (aH x)))) (eV:=(fun x=>(U.agg (jc x)))) uo (⟨e9.number,gA.name⟩:az) (⟨(⟨0,(⟨#[]⟩:ByteArray)⟩:az),(⟨0,0⟩:fN),0⟩:bB) rfl)<|an (U.agg (jc ((bA (⟨e9.number,gA.name⟩:az) a2).getD (⟨(⟨0,(⟨#[]⟩:ByteArray)⟩:az),(⟨0,0⟩:fN),0⟩:bB)))) rfl<|an (U.bool (bA (⟨e9.number,gA.name⟩:az) a2).isSome) rfl<|an (jc ((bA (⟨e9.number,gA.name⟩:az) a2).getD (⟨(⟨0,(⟨#[]⟩:ByteArray)⟩:az),(⟨0,0⟩:fN),0⟩:bB))) rfl<|an _ (YG _ _ rfl) ?_
   refine S8 (ω:=Int) (fun vn a=>∃xz,a=(([(U.lbx (bh a0)),(U.lbx (aH (⟨e9.number,gA.name⟩:az))),(U.int .i64 vn)]:List U),xz)∧Hp σ xz [(hh0,(Ct.s 3 (List.map ck fG))),((U.op w5.length 0),(Ct.b (bX e9)))]) (
     by
      refine iJ (c:=(bA (⟨e9.number,gA.name⟩:az) a2).isSome) (fun jO=>?_) (fun jO=>?_)
      ·refine an (U.agg (aH (⟨e9.number,gA.name⟩:az))) rfl<|an (U.agg (qn (((bA (⟨e9.number,gA.name⟩:az) a2).getD (⟨(⟨0,(⟨#[]⟩:ByteArray)⟩:az),(⟨0,0⟩:fN),0⟩:bB)).value))) rfl ?_
       refine jA (fun iB:(Int×Int)=>((U.aA [(U.int .i64 iB.1),(U.int .i64 iB.2)]),zw)) (fun iB SY=>Nd SY) (fun iB SY=>?_)
       refine an _ rfl<|an _ rfl ?_
       exact bK ⟨_,rfl,CI⟩
      exact bK ⟨_,rfl,CI⟩
     ) (fun vn a ha=>?_)
   obtain⟨xz,rfl,ads⟩:=ha
   refine an (U.agg (aH (⟨e9.number,gA.name⟩:az))) rfl<|an (U.agg (ck (⟨(⟨(⟨e9.number,gA.name⟩:az).unit,(⟨e9.number,gA.name⟩:az).param⟩:az),vn⟩:bW))) rfl<|an (sl 3 ck ([(⟨(⟨(⟨e9.number,gA.name⟩:az).unit,(⟨e9.number,gA.name⟩:az).param⟩:az),vn⟩:bW)]:(List bW))) rfl ?_
   refine Sw (fun hm=>?_)
   obtain⟨h33,w30,wZ,AR⟩:=aai (c:=ck) (ys:=([(⟨(⟨(⟨e9.number,gA.name⟩:az).unit,(⟨e9.number,gA.name⟩:az).param⟩:az),vn⟩:bW)]:(List bW))) (most:=4398046511104) ads 0 rfl hm
   change Hp σ w30 [(h33,(Ct.s 3 (List.map ck (fG++([(⟨(⟨(⟨e9.number,gA.name⟩:az).unit,(⟨e9.number,gA.name⟩:az).param⟩:az),vn⟩:bW)]:(List bW)))))),((U.op w5.length 0),(Ct.b (bX e9)))]at AR
   refine an _ wZ<|an _ (fZ Lb acf) ?_
   exact bK (l5 ⟨_,rfl,AR⟩)
  ·intro hl fG v zw hI
   obtain⟨hh0,rfl,CI⟩:=hI
   refine an _ (ia _)<|me ?_
   exact bK ⟨by simp,⟨_,_,_,rfl,CI⟩⟩
  ·intro hl yO q hq
   obtain⟨Ua,hh0,zx,rfl,CJ⟩:=hq
   refine gL rfl<|an _ (fZ y9 Lg) ?_
   exact bK (l5 ⟨_,rfl,(aan CJ 1)⟩)
  ·intro hl yO q hq
   exact False.elim hq
 ·intro hl s3 v w5 hI
  obtain⟨hh0,rfl,zb⟩:=hI
  refine an _ (ia _)<|me ?_
  exact bK ⟨by simp,⟨_,_,_,_,rfl,zb⟩⟩
 ·intro hl b4 q hq
  obtain⟨u3,T9,hh0,w6,rfl,ve⟩:=hq
  refine gL rfl ?_
  obtain⟨ra0,fa0,fb0⟩:=aad (c:=ck) (l:=b4) ve (k:=0) rfl Wx
  exact fu _ (Cj ve fa0) ⟨(aaI fb0),rfl⟩
 ·intro hl b4 q hq
  exact False.elim hq
noncomputable def HZ (a0:bG) (a1:bE):Option Bool:=
 some (decide (a0.name=a1.profile))
theorem VK {a0:bG} {a1:bE} {σ:Heap} {r:Bool} (h:HZ a0 a1=some r):qh [(U.agg (ct a0)),(U.rp (bX a1))] σ=some ((U.bool r),σ):=by
 refine xW (f:=HV) (y0:=(U.agg (ct a0))) (y1:=(U.rp (bX a1))) (enc:=fun r:Bool=>(U.bool r)) (T:=HZ a0 a1) (bU (tE (bU rfl (bU rfl (bU (gM (fun _=>rfl) _) mO)))) rfl) rfl ?_ r h
 unfold HV HZ
 refine an _ rfl<|an _ rfl<|an _ rfl<|an _ rfl<|an _ (Gu _ _) ?_
 exact fu _ (cV _ _) ⟨rfl,rfl⟩
end
def vT (ak:List bJ) (st:az→Option bB) (k:az) (d:Int):Int:=match st k with
 |some e=>(Ao ak k e.value).1
 |none=>d
def Rv (ak:List bJ) (st:az→Option bB) (u:bE) (x:eu):bW:=⟨⟨u.number,x.name⟩,vT ak st ⟨u.number,x.name⟩ x.default⟩
def Ce (ey:List bG) (ak:List bJ) (st:az→Option bB) (u:bE):List bW:=(dD u.profile ey).1.params.map (Rv ak st u)
def vO (r:aV) (ak:List bJ) (st:az→Option bB):List bW:=r.units.flatMap (Ce r.bp ak st)
theorem Ou (ey:List bG):∀(l pre:List bE),wN ey pre l=0→∀u∈l,(dD u.profile ey).2=true
 |[],pre,h,u,hu=>by simp at hu
 |v::l,pre,h,u,hu=>by
  rw[wN]at h
  split at h
  ·simp at h
  split at h
  ·simp at h
  split at h
  ·simp at h
  rename_i h3
  split at h
  ·simp at h
  split at h
  ·simp at h
  simp only[List.mem_cons]at hu
  rcases hu with rfl|hu
  ·simpa using h3
  ·exact Ou ey l _ h u hu
theorem OQ {r:aV} (h:cN r=0):∀u∈r.units,(dD u.profile r.bp).2=true:=by
 unfold cN at h
 split at h
 ·split at h
  ·simp at h
  ·exact Ou _ _ _ h
 ·rename_i h2;exact absurd h h2
theorem NQ (size:Int):∀(l pre:List eu),wM size pre l=0→(∀x∈l,fQ x.name (pre.map (·.name))=false)∧(l.map (·.name)).Nodup
 |[],pre,h=>⟨by simp,by simp⟩
 |x::l,pre,h=>by
  rw[wM]at h
  split at h
  ·simp at h
  split at h
  ·simp at h
  rename_i h2
  split at h
  ·simp at h
  split at h
  ·simp at h
  split at h
  ·simp at h
  split at h
  case isFalse=>rename_i h6;exact absurd h h6
  obtain⟨q1,q2⟩:=NQ size l _ h
  refine⟨fun y hy=>?_,?_⟩
  ·simp only[List.mem_cons]at hy
   rcases hy with rfl|hy
   ·simpa using h2
   ·have:=q1 y hy
    cases hc:fQ y.name (pre.map (·.name))
    ·rfl
    ·rw[Af]at hc
     have h3:fQ y.name ((pre++[x]).map (·.name))=true:=Af.2 (by rw[List.map_append];exact List.mem_append.2 (.inl hc))
     rw[this]at h3;cases h3
  ·rw[List.map_cons,List.nodup_cons]
   refine⟨fun hx=>?_,q2⟩
   obtain⟨y,hy,e⟩:=List.mem_map.1 hx
   have:=q1 y hy
   have h3:fQ y.name ((pre++[x]).map (·.name))=true:=Af.2 (by rw[List.map_append];exact List.mem_append.2 (.inr (by simp [e])))
   rw[this]at h3;cases h3
theorem Jh {α β:Type} [DecidableEq β] (f:α→β):∀(l:List α),(l.map f).Nodup→∀x∈l,l.find? (fun y=>decide (f y=f x))=some x
 |[],_,x,hx=>by simp at hx
 |z::l,h,x,hx=>by
  rw[List.map_cons,List.nodup_cons]at h
  rw[List.find?_cons]
  by_cases e:f z=f x
  ·rw[decide_eq_true e]
   simp only[List.mem_cons]at hx
   rcases hx with rfl|hx
   ·rfl
   ·exact absurd (List.mem_map.2 ⟨x,hx,e.symm⟩) h.1
  ·rw[decide_eq_false e]
   simp only[List.mem_cons]at hx
   rcases hx with rfl|hx
   ·exact absurd rfl e
   ·exact Jh f l h.2 x hx
theorem WE {r:aV} (h:cN r=0) (nm:ByteArray):((dD nm r.bp).1.params.map (·.name)).Nodup:=by
 rw[sJ]
 cases hf:r.bp.find? (fun x:bG=>decide (x.name=nm))with
 |none=>exact List.nodup_nil
 |some p=>
  have:=IF (Jv h) p (List.mem_of_find?_eq_some hf)
  unfold mJ at this
  repeat' split at this
  all_goals first|(simp at this;done)|exact(NQ _ _ _ this).2
theorem IL {r:aV} (h:cN r=0) {u:bE} (hu:u∈r.units) {x:eu} (hx:x∈(dD u.profile r.bp).1.params):ko r ⟨u.number,x.name⟩=(x,true):=by
 unfold ko
 have hs:(r.units.map (·.number)).Nodup:=(xL h).imp fun q=>by omega
 have h1:r.units.find? (fun v=>decide (v.number=(⟨u.number,x.name⟩:az).unit))=some u:=Jh (·.number) r.units hs u hu
 rw[h1,Option.elim_some]
 unfold oW
 have h2:(dD u.profile r.bp).1.params.find? (fun y=>decide (y.name=(⟨u.number,x.name⟩:az).param))=some x:=Jh (·.name) _ (WE h _) x hx
 rw[h2,Option.elim_some]
theorem NF {r:aV} (h:cN r=0) (ak:List bJ) (st:az→Option bB):(ig r).map (fun k=>(⟨k,vT ak st k (ko r k).1.default⟩:bW))=vO r ak st:=by
 unfold ig vO
 rw[List.map_flatMap]
 have key:∀(l:List bE),(∀u∈l,u∈r.units)→(l.flatMap fun a=>(iU r.bp a).map fun k=>(⟨k,vT ak st k (ko r k).1.default⟩:bW))=l.flatMap (Ce r.bp ak st):=by
  intro l
  induction l with
  |nil=>intro _;rfl
  |cons u l ih=>
   intro hl
   rw[List.flatMap_cons,List.flatMap_cons,ih fun v hv=>hl v (by simp [hv])]
   congr 1
   unfold iU Ce
   rw[List.map_map]
   refine List.map_congr_left fun x hx=>?_
   show(⟨⟨u.number,x.name⟩,_⟩:bW)=_
   rw[IL h (hl u (by simp)) hx]
   rfl
 exact key r.units fun u hu=>hu
theorem foldl_push {α β:Type} (f:α→β):∀(l:List α) (s:List β),l.foldl (fun s x=>s++[f x]) s=s++l.map f
 |[],s=>by simp
 |x::l,s=>by rw[List.foldl_cons,foldl_push f l];simp
theorem NT {α β:Type} (f:α→List β):∀(l:List α) (s:List β),l.foldl (fun s x=>s++f x) s=s++l.flatMap f
 |[],s=>by simp
 |x::l,s=>by rw[List.foldl_cons,NT f l];simp
theorem PR {r:aV} (hr:gK r) (h:cN r=0) {ak:List bJ} (hp:cB nX ak) (st:List (az×bB)):BB r ak st=some (vO r ak fun k=>bA k st):=by
 unfold BB
 have hu:=xO h
 rw[zW (g:=fun s u=>s++Ce r.bp ak (fun k=>bA k st) u) (P:=fun i s=>s.length≤i*40) hr.2.1 (by simp) ?_ ?_]
 ·show some (List.foldl _ [] r.units)=_
  rw[NT];rfl
 ·intro i u s hi hs
  have:=BK h u.profile
  rw[List.length_append,Nat.succ_mul]
  unfold Ce
  rw[List.length_map];omega
 ·intro i u s hi hs
  have hil:=(List.getElem?_eq_some_iff.1 hi).1
  have yt:=OQ h u (List.mem_of_getElem? hi)
  have hpl:=BK h u.profile
  have L0:((tq (r.bp.length≤br) (kP (fun x=>decide (x.name=u.profile)) r.bp)).bind fun fR=>p6 r.bp fR)=some (dD u.profile r.bp).1:=by
   rw[oa hr.1.1,Option.bind_some]
   rw[sJ]at yt ⊢
   rcases xM (fun x:bG=>decide (x.name=u.profile)) r.bp with⟨_,_,h3⟩|⟨k,x,h1,h2,h3,h4,_⟩
   ·rw[h3]at yt;simp at yt
   ·rw[h3,h4,F3 (x:=x) (by omega) (by simpa using h1)]
  rw[←Option.bind_assoc,L0,Option.bind_some]
  have hs':i*40≤16000:=by omega
  rw[zW (g:=fun s x=>s++[Rv ak (fun k=>bA k st) u x]) (P:=fun j s=>s.length≤16000+j) (by unfold br;omega) (by omega) (fun j x s _ hq=>by rw[List.length_append,List.length_singleton];omega) ?_]
  ·rw[Option.bind_some,foldl_push];rfl
  intro j x s hj hq
  have hjl:=(List.getElem?_eq_some_iff.1 hj).1
  have e1:(if(bA (⟨u.number,x.name⟩:az) st).isSome=true then(vG ak (⟨u.number,x.name⟩:az) (((bA (⟨u.number,x.name⟩:az) st).getD (⟨(⟨0,(⟨#[]⟩:ByteArray)⟩:az),(⟨0,0⟩:fN),0⟩:bB)).value)).bind fun iB=>some iB.1 else some x.default)=some (vT ak (fun k=>bA k st) ⟨u.number,x.name⟩ x.default):=by
   unfold vT
   cases hf:bA (⟨u.number,x.name⟩:az) st with
   |none=>simp [hf]
   |some e=>simp [hf,Qn ak hp]
  show((if(bA (⟨u.number,x.name⟩:az) st).isSome=true then _ else _):Option Int).bind _=_
  rw[e1,Option.bind_some,if_pos (by simp;omega)]
  rfl
def fP (r:aV) (k:az):Int:=(ko r k).1.group
def nH (L:List bW) (k:az):Int:=match L.find? fun s=>decide (s.key=k)with
 |some s=>s.level
 |none=>0
def pL (r:aV) (ak:List bJ) (st:az→Option bB) (k:az):Int:=vT ak st k (ko r k).1.default
def ef (r:aV) (ak:List bJ) (l:List aG) (i:Nat):List bW:=vO r ak (gm (lW (l.take (i+1))))
def kL (r:aV) (u:Int):List az:=(ig r).filter fun k=>decide (k.unit=u)&&decide (fP r k=1)
def Kk (r:aV) (L:List bW) (u:Int):Bool:=!(kL r u).isEmpty&&!((kL r u).any fun k=>decide (0<nH L k))
def ij (r:aV) (c:aG) (u:Int):List aM:=c.aL.filter fun m=>decide (m.key.unit=u)&&decide (¬(fP r m.key=1))
theorem IY {f:az→Int} {k:az}:∀{ks:List az},k∈ks→nH (ks.map fun k=>⟨k,f k⟩) k=f k
 |[],h=>by simp at h
 |j::ks,h=>by
  unfold nH
  rw[List.map_cons,List.find?_cons]
  by_cases e:j=k
  ·subst e;simp
  ·rw[decide_eq_false e]
   simp only[List.mem_cons]at h
   exact IY (h.resolve_left fun q=>e q.symm)
theorem N0 {f:az→Int} {k:az}:∀{ks:List az},¬k∈ks→nH (ks.map fun k=>⟨k,f k⟩) k=0
 |[],h=>rfl
 |j::ks,h=>by
  unfold nH
  rw[List.map_cons,List.find?_cons]
  simp only[List.mem_cons,not_or]at h
  rw[decide_eq_false (fun q=>h.1 q.symm)]
  exact N0 h.2
theorem Gd {r:aV} (h:cN r=0) (ak:List bJ) (st:az→Option bB):vO r ak st=(ig r).map fun k=>⟨k,pL r ak st k⟩:=(NF h ak st).symm
theorem Jc {x a b:Int} (h:aZ x a b=true):a≤x:=by
 unfold aZ at h
 simp at h;omega
theorem FH {α:Type} {f:Nat→α→Int} {l:List α} (h:gp f l 0=0) {x:α} (hx:x∈l):∃i,l[i]? =some x∧f i x=0:=by
 obtain⟨i,hi⟩:=List.mem_iff_getElem?.1 hx
 have:=(zV l 0).1 h i x hi
 rw[Nat.zero_add]at this
 exact⟨i,hi,this⟩
theorem aa6 {r:aV} {ak:List bJ} (h:nY r ak=0) {p:bJ} (hp:p∈ak) {s:bW} (hs:s∈p.jq):0≤s.level:=by
 unfold nY at h
 by_cases h0:cN r=0
 case neg=>rw[if_pos h0]at h;exact absurd h h0
 rw[if_neg (by simp [h0])]at h
 split at h
 ·cases h
 obtain⟨i,_,hi⟩:=FH h hp
 unfold FZ at hi
 split at hi
 ·cases hi
 split at hi
 ·cases hi
 split at hi
 ·cases hi
 split at hi
 ·cases hi
 obtain⟨j,_,hj⟩:=FH hi hs
 unfold Gs at hj
 split at hj
 ·cases hj
 split at hj
 ·cases hj
 rename_i h2
 exact Jc (by simpa using h2)
theorem Xd {r:aV} {ak:List bJ} (h:nY r ak=0) (k:az) (v:fN):0≤(Ao ak k v).1:=by
 unfold Ao
 split
 ·exact Int.le_refl 0
 split
 ·exact Int.le_refl 0
 rename_i h2
 split
 ·exact Jc (by simpa using h2)
 split
 ·exact Int.le_refl 0
 rename_i p hp
 split
 ·exact Int.le_refl 0
 rename_i s hs
 exact aa6 h (List.mem_of_find?_eq_some hp) (List.mem_of_find?_eq_some hs)
theorem Pk (size:Int):∀(l pre:List eu),wM size pre l=0→∀x∈l,0≤x.default
 |[],pre,h,x,hx=>by simp at hx
 |y::l,pre,h,x,hx=>by
  rw[wM]at h
  split at h
  ·simp at h
  split at h
  ·simp at h
  split at h
  ·simp at h
  split at h
  ·simp at h
  rename_i h4
  split at h
  ·simp at h
  split at h
  case isFalse=>rename_i h6;exact absurd h h6
  simp only[List.mem_cons]at hx
  rcases hx with rfl|hx
  ·have:aZ x.default 0 65535=true:=by
    cases q:aZ x.default 0 65535
    ·exact absurd (.inr (.inr q)) h4
    ·rfl
   exact Jc this
  ·exact Pk size l _ h x hx
theorem W6 {r:aV} (h:cN r=0) (k:az):0≤(ko r k).1.default:=by
 unfold ko
 cases r.units.find? fun u=>decide (u.number=k.unit)with
 |none=>exact Int.le_refl 0
 |some u=>
  rw[Option.elim_some]
  unfold oW
  cases hf:(dD u.profile r.bp).1.params.find? fun x=>decide (x.name=k.param)with
  |none=>exact Int.le_refl 0
  |some x=>
   rw[Option.elim_some]
   have hx:=List.mem_of_find?_eq_some hf
   rw[sJ]at hx
   cases hq:r.bp.find? (fun x:bG=>decide (x.name=u.profile))with
   |none=>rw[hq]at hx;simp at hx
   |some p=>
    rw[hq]at hx
    have:=IF (Jv h) p (List.mem_of_find?_eq_some hq)
    unfold mJ at this
    repeat' split at this
    all_goals first|(simp at this;done)|exact Pk _ _ _ this x hx
theorem aau {r:aV} (h:cN r=0) {ak:List bJ} (hp:nY r ak=0) (st:az→Option bB) (k:az):0≤pL r ak st k:=by
 unfold pL vT
 split
 ·exact Xd hp _ _
 ·exact W6 h k
def l8 (dk:Nat→Bool) (tn:Nat→List aM):Nat→Nat
 |0=>0
 |j+1=>if(dk j&&(tn (j+1)).isEmpty)=true then l8 dk tn j else j+1
def jv (dk:Nat→Int→Bool) (tn:Nat→Int→List aM) (ch:Nat→az→Bool) (l:List aG) (i:Nat) (u:bE):List kr:=
 if(!dk (i-1) u.number||dk i u.number)=true then[]else if(!(tn i u.number).any fun m=>ch i m.key)=true then[]else
  [⟨u.number,((l[l8 (fun j=>dk j u.number) (fun j=>tn j u.number) (i-1)]?).map (·.number)).getD 0,((l[i]?).map (·.number)).getD 0⟩]
def qj (dk:Nat→Int→Bool) (tn:Nat→Int→List aM) (ch:Nat→az→Bool) (us:List bE) (l:List aG) (n:Nat):List kr:=(List.range n).flatMap fun i=>us.flatMap (jv dk tn ch l (i+1))
def cM (r:aV) (ak:List bJ) (l:List aG) (i:Nat) (u:Int):Bool:=Kk r (ef r ak l i) u
def dQ (r:aV) (l:List aG) (i:Nat) (u:Int):List aM:=match l[i]? with
 |some c=>ij r c u
 |none=>[]
def iA (r:aV) (ak:List bJ) (l:List aG) (i:Nat) (k:az):Bool:=decide (¬(nH (ef r ak l (i-1)) k=nH (ef r ak l i) k))
def lF (r:aV) (ak:List bJ) (l:List aG):List kr:=qj (cM r ak l) (dQ r l) (iA r ak l) r.units l (l.length-1)
section
open HP
section
variable {au σ : Heap} {R : HP}
theorem aaK {l:List aG} (hl:cB mP l) {c:aG} (hc:c∈l):aS c.number:=(hl.2 c hc).1
end
end
section
open HP Go.Sort
section
variable {au σ : Heap} {R : HP}
theorem PM {α:Type} {c:α→List U} {sz:Nat} {bL:List Sh} {r:List U→Heap→Option (U×Heap)} {uS ts:List U} {l:List α} (hc:∀x,gu (c x)) (h:A2 σ bL uS ts) (e:KS (A.wrap true bL .k r) ts c sz l):A.ku (.s sz) (A.wrap true bL .k r) uS σ=some (sl sz c l,σ):=by
 obtain⟨v,σ',e1,K⟩:=acu (B:=aY) (fun _ _=>trivial) h e (Ax σ)
 obtain⟨v',e2,e3⟩:=Qy hc K
 unfold A.ku
 rw[e1,Option.bind_some]
 simp only
 rw[e2,Option.map_some]
 simp only
 rw[e3]
end
end
section
open HP
def rA (r:aV) (ak:List bJ) (l:List aG) (n:Int):List bW×Int:=
 if ¬(gJ r ak l=0)then([],gJ r ak l)else if lM l n=false then([],8)else(vO r ak (gm (lW (l.take (dN l n+1)))),0)
theorem kJ {r:aV} {ak:List bJ} {l:List aG} (h:gJ r ak l=0):cN r=0∧l7 l=0:=by
 unfold gJ at h
 by_cases h0:nY r ak=0
 case neg=>rw[if_pos h0]at h;exact absurd h h0
 rw[if_neg (by simp [h0])]at h
 by_cases h1:l7 l=0
 case neg=>rw[if_pos h1]at h;exact absurd h h1
 exact⟨Ng h0,h1⟩
theorem Kc (r:aV) (ak:List bJ) (l:List aG) (bV:List U):A.bI [(.a [(.e 3 jL),(.s 4)]),tj,(.e 11 iy)] (.agg (bh r)::sl 3 gh ak::sl 11 aQ l::bV)=.agg (bh r)::sl 3 gh ak::sl 11 aQ l::bV:=
 bU (tE (bU (gM (fun _=>(bU rfl (bU rfl (bU (gM (fun _=>rfl) _) mO)))) _) (bU rfl mO))) (bU (gM (fun _=>rfl) _) (bU (gM (fun _=>rfl) _) rfl))
theorem aaJ (l:List bW) (e:Int):A.nn (.t [(.s 3),.k]) (.aA [sl 3 ck l,.int .i64 e])=.aA [sl 3 ck l,.int .i64 e]:=by
 show U.aA (A.bI [.s 3,.k] [sl 3 ck l,.int .i64 e])=_
 rw[bU (show A.nn (.s 3) (sl 3 ck l)=sl 3 ck l by unfold sl;simp [A.nn]) (bU (jx _) mO)]
theorem PW (e:Int):A.nn (.t [(.s 3),.k]) (.aA [.aB,.int .i64 e])=.aA [sl 3 ck [],.int .i64 e]:=rfl
theorem Pb {r:aV} {ak:List bJ} {l:List aG} (hr:gK r) (hp:cB nX ak) (hl:cB mP l) {n:Int} (hn:aS n) (σ:Heap):Ez [.agg (bh r),sl 3 gh ak,sl 11 aQ l,.int .i64 n] σ=some (.aA [sl 3 ck (rA r ak l n).1,.int .i64 (rA r ak l n).2],σ):=by
 have run:∃b,Ie (.agg (bh r)) (sl 3 gh ak) (sl 11 aQ l) (.int .i64 n) σ=some (b,σ)∧A.nn (.t [(.s 3),.k]) b=.aA [sl 3 ck (rA r ak l n).1,.int .i64 (rA r ak l n).2]:=by
  unfold Ie rA
  rw[show A.cells 2 (.agg (bh r))=some (bh r)from rfl,Option.bind_some,show A.aD 0 2 (bh r)=some (.agg (bh r))from rfl,Option.bind_some,MT (Nr r ak l hr hp hl),Option.bind_some,KK,Option.bind_some]
  by_cases hf:gJ r ak l=0
  case neg=>
   rw[decide_eq_true hf,iG,if_pos hf]
   exact⟨_,cV _ _,PW _⟩
  obtain⟨cR,hform⟩:=kJ hf
  have Dk:¬¬(gJ r ak l=0):=by simp [hf]
  have hg:=rq hform
  have hlen:=hg.len
  rw[decide_eq_false Dk,ga,if_neg Dk]
  obtain⟨p,e1,e2,e3⟩:=aaR hg hn σ
  rw[e1,Option.bind_some,CD,Option.bind_some,ext1,Option.bind_some,show A.not (.bool (lM l n))=some (.bool (!lM l n))from rfl,Option.bind_some]
  cases hh:lM l n
  ·rw[show(!false)=true from rfl,iG,if_pos rfl]
   exact⟨_,cV _ _,PW _⟩
  rw[show(!true)=false from rfl,ga,if_neg (by decide)]
  have e4:=e3 (.inr hh)
  subst e4
  obtain⟨x,hx,hxn⟩:=aah hg hh
  generalize dN l n=a at hx ⊢
  have TF:=(List.getElem?_eq_some_iff.1 hx).1
  have hcs:vH [sl 11 aQ (l.take (a+1))] σ=some (GN (rF (l.take (a+1))),σ):=
   NB (Q9 (by simp;unfold br;omega) (fun c hc=>by have:=(hg.mv c (List.mem_of_mem_take hc)).1;unfold br;omega))
  have hlv:vE [.agg (bh r),sl 3 gh ak,GN (rF (l.take (a+1)))] σ=some (sl 3 ck (vO r ak (gm (lW (l.take (a+1))))),σ):=by
   have:=Nc (σ:=σ) (PR hr cR hp (rF (l.take (a+1))))
   rw[show(fun k=>bA k (rF (l.take (a+1))))=gm (lW (l.take (a+1)))from funext fun k=>(IT _).2.2 k]at this
   exact this
  simp only
  rw[AH (by omega)]
  simp only[Option.bind_some]
  rw[show A.bN 11 (sl 11 aQ l) none (some (.int .i64 ((a+1:Nat):Int))) σ=some (sl 11 aQ (l.take (a+1)))from NL 11 aQ l (by omega),Option.bind_some,quiet_of hcs,Option.bind_some,quiet_of hlv,Option.bind_some]
  exact⟨_,cV _ _,aaJ _ _⟩
 obtain⟨b,h1,h2⟩:=run
 refine wrap_eq rfl ?_ h2
 rw[Kc]
 exact h1
theorem WA {r:aV} (h:cN r=0) (ak:List bJ) (st:az→Option bB):(vO r ak st).length≤16000:=by
 rw[←NF h,List.length_map];exact Fu h
end
section
open HP
theorem aaw {f:List U→Heap→Option LS} {Q:LS→Prop} (I:Nat→List U→Heap→Prop) (hstep:∀n v σ,I n v σ→(∃m v' σ',m<n∧f v σ=some (.normal,v',σ')∧I m v' σ')∨∃q,f v σ=some q∧q.1≠.normal∧Q q) {n:Nat} {v0:List U} {σ:Heap} (h0:I n v0 σ):∃q,A.loop f v0 σ=some q∧Q q:=by
 have key:∀(k n:Nat) v σ,n≤k→I n v σ→∃q,(∃m,A.iter f m v σ=some q)∧Q q:=by
  intro k
  induction k with
  |zero=>
   intro n v σ hn hI
   rcases hstep n v σ hI with⟨m,_,_,hm,_⟩|⟨q,h1,h2,h3⟩
   ·omega
   ·exact⟨q,oO h1 h2,h3⟩
  |succ k ih=>
   intro n v σ hn hI
   rcases hstep n v σ hI with⟨m,v',σ',hm,h1,h2⟩|⟨q,h1,h2,h3⟩
   ·obtain⟨q,hq,hQ⟩:=ih m v' σ' (by omega) h2
    exact⟨q,vJ h1 hq,hQ⟩
   ·exact⟨q,oO h1 h2,h3⟩
 obtain⟨q,⟨m,hm⟩,hQ⟩:=key n n v0 σ (Nat.le_refl _) h0
 exact⟨q,xC hm,hQ⟩
end
section
open HP
theorem gT (X d:Option U):A.guard (.bool true) true X d=X:=by have h:A.guard (.bool true) true X d=X:=rfl;exact h.trans (Eq.refl X)
theorem gF (X d:Option U):A.guard (.bool false) false X d=X:=by have h:A.guard (.bool false) false X d=X:=rfl;exact h.trans (Eq.refl X)
theorem GO (X d:Option U):A.guard (.bool false) true X d=d:=by have h:A.guard (.bool false) true X d=d:=rfl;exact h.trans (Eq.refl d)
theorem gFx (X d:Option U):A.guard (.bool true) false X d=d:=by have h:A.guard (.bool true) false X d=d:=rfl;exact h.trans (Eq.refl d)
theorem bS {α β:Type} (a:α) (f:α→Option β):(some a).bind f=f a:=by have h:(some a).bind f=f a:=rfl;exact h.trans (Eq.refl (f a))
theorem gb (cs:List U) (σ:Heap):A.deref (.rp cs) σ=some cs:=by have h:A.deref (.rp cs) σ=some cs:=rfl;exact h.trans (Eq.refl _)
section
variable {r : aV} {ak : List bJ} {l : List aG} (hr : gK r) (hp : cB nX ak) (hl : cB mP l) (hz : gJ r ak l = 0)
theorem M6 (h:gJ r ak l=0):nY r ak=0:=by
 unfold gJ at h
 by_cases h0:nY r ak=0
 ·exact h0
 ·rw[if_pos h0]at h;exact absurd h h0
theorem PO (h:cN r=0) (i:Nat):(ef r ak l i).length≤16000:=WA h ak _
include hr hz
omit hr hz
include hr hz
end
end
section
open HP
theorem ZC (a b c:Int):((((A.cell (.int .i64 a)).bind fun v=>some [v]).bind fun acO=>(A.splice 0 acO [aj,aj,aj]).bind fun acP=>((A.cell (.int .i64 b)).bind fun v=>some [v]).bind fun acQ=>(A.splice 1 acQ acP).bind fun acR=>((A.cell (.int .i64 c)).bind fun v=>some [v]).bind fun acS=>(A.splice 2 acS acR).bind fun acT=>some acT).bind fun cs=>some (U.agg cs))=some (.agg (fA ⟨a,b,c⟩)):=rfl
theorem Yv (m:kr):(((A.cells 3 (.agg (fA m))).bind fun acU=>(A.splice 0 acU [aj,aj,aj]).bind fun acV=>some acV).bind fun cs=>some (U.sl 3 (chunks 3 1 cs)))=some (.sl 3 [fA m]):=rfl
theorem abY {au σ:Heap} {R:HP} {v:U} {l:List kr} (k:kr) (hl:l.length<1000000) (H:Hs aY au σ (Sl (fl fA) 3 v l*R)):∃v' σ',A.append 3 (140737488355328 / 24) v (.sl 3 [fA k]) σ=some (v',σ')∧Hs aY au σ' (Sl (fl fA) 3 v' (l++[k])*R):=
 AE (ys:=[fA k]) (xs:=[k]) (hs_eq (show pr (fA k=fA k)*(Sl (fl fA) 3 v l*R)=_ by
  rw[show els (fl fA) [fA k] [k]=pr (fA k=fA k)*emp from rfl,lV,uh];ac_rfl) (gI.2 ⟨rfl,H⟩)) (by simp;omega) (fun _ _ _ _=>trivial)
section
variable {r : aV} {ak : List bJ} {l : List aG}
theorem Zq (dk:Nat→Int→Bool) (tn:Nat→Int→List aM) (ch:Nat→az→Bool) (i:Nat) (u:bE):(jv dk tn ch l i u).length≤1:=by
 unfold jv
 split
 ·exact Nat.zero_le _
 split
 ·exact Nat.zero_le _
 ·exact Nat.le_refl _
theorem I1 (dk:Nat→Int→Bool) (tn:Nat→Int→List aM) (ch:Nat→az→Bool) (i:Nat):∀us:List bE,(us.flatMap (jv dk tn ch l i)).length≤us.length
 |[]=>Nat.zero_le _
 |u::us=>by
  have h1:=Zq (l:=l) dk tn ch i u
  have h2:=I1 dk tn ch i us
  rw[List.flatMap_cons,List.length_append,List.length_cons];omega
theorem HT (dk:Nat→Int→Bool) (tn:Nat→Int→List aM) (ch:Nat→az→Bool) (us:List bE):∀n,(qj dk tn ch us l n).length≤n*us.length
 |0=>by simp [qj]
 |n+1=>by
  have h1:=HT dk tn ch us n
  have h2:=I1 (l:=l) dk tn ch (n+1) us
  unfold qj at h1 ⊢
  rw[List.range_succ,List.flatMap_append,List.length_append,Nat.succ_mul,List.flatMap_cons,List.flatMap_nil,List.append_nil]
  omega
theorem MX (dk:Nat→Int→Bool) (tn:Nat→Int→List aM) (ch:Nat→az→Bool) (us:List bE) (n:Nat):qj dk tn ch us l (n+1)=qj dk tn ch us l n++us.flatMap (jv dk tn ch l (n+1)):=by
 unfold qj
 rw[List.range_succ,List.flatMap_append,List.flatMap_cons,List.flatMap_nil,List.append_nil]
theorem Dz {X:Option LS} {P:List U→Heap→Prop} (h:∃b,X=some b∧∃v s,b=(AX.normal,v,s)∧P v s):∃v s,X=some (.normal,v,s)∧P v s:=by
 obtain⟨b,h1,v,s,rfl,h2⟩:=h
 exact⟨v,s,h1,h2⟩
theorem u9 (n:Nat) {α:Type} {X Y:α}:(bif (AX.exit n==AX.exit n)then X else Y)=X:=by rw[show(AX.exit n==AX.exit n)=true from beq_self_eq_true _];rfl
theorem X4 {α β:Type} {f:α→List β} {l:List α} {j:Nat} {x:α} (hx:l[j]? =some x):(l.take (j+1)).flatMap f=(l.take j).flatMap f++f x:=by
 rw[List.take_add_one,hx,Option.toList_some,List.flatMap_append,List.flatMap_cons,List.flatMap_nil,List.append_nil]
theorem Fq (dk:Nat→Bool) (tn:Nat→List aM):∀n,l8 dk tn n≤n
 |0=>Nat.le_refl 0
 |n+1=>by
  rw[l8]
  split
  ·exact Nat.le_succ_of_le (Fq dk tn n)
  ·exact Nat.le_refl _
end
end
section
open HP
section
variable {B : aO → Prop} {au σ : Heap} {R : HP} {id : Nat}
theorem sU {cs:List U} (H:Hs B au σ (blk id (.box cs)*R)) (o:Nat):A.deref (.op id o) σ=some (cs.drop o):=by
 simp only[A.deref,(iF H).2]
theorem Cg {cs cs' new:List U} {o:Nat} (H:Hs aY au σ (blk id (.box cs)*R)) (h:A.splice o new cs=some cs'):∃σ',A.storeAt (.op id o) new σ=some σ'∧Hs aY au σ' (blk id (.box cs')*R):=by
 refine⟨σ.set id (.box cs'),?_,Ay H trivial⟩
 simp only[A.storeAt,(iF H).2,h,Option.map_some]
variable {κ ν : Type} [DecidableEq κ] {ek : A.EK} {eK : κ → U} {eV : ν → U} {l : List (κ × ν)}
theorem Kb (hq:∀a b,A.dG ek (eK a) (eK b)=some (decide (a=b))) {x:κ} (hok:A.gj ek (eK x)=true) (v:ν) (H:Hs aY au σ (blk id (.map (l.map fun p=>(eK p.1,eV p.2)))*R)):∃σ',A.eU ek (.om id) (eK x) (eV v) σ=some σ'∧Hs aY au σ' (blk id (.map ((eo x v l).map fun p=>(eK p.1,eV p.2)))*R):=by
 refine⟨σ.set id (.map ((eo x v l).map fun p=>(eK p.1,eV p.2))),?_,Ay H trivial⟩
 simp only[A.eU,hok,cond_true,(iF H).2,KF hq,Option.map_some]
theorem aaA (hq:∀a b,A.dG ek (eK a) (eK b)=some (decide (a=b))) {x:κ} (hok:A.gj ek (eK x)=true) (z:U) (H:Hs B au σ (blk id (.map (l.map fun p=>(eK p.1,eV p.2)))*R)):A.look ek (.om id) (eK x) z σ=some (((bA x l).map eV).getD z):=by
 simp only[A.look,hok,cond_true,A.entries,(iF H).2,Option.bind_some,Aw hq,Option.map_some]
theorem abq {cs:List U} (H:Hs B au σ (blk id (.box cs)*R)) (hz:gu cs) {bL:List Sh} {cC:Sh} {r:List U→Heap→Option (U×Heap)} {x v:U} (hx:Fz x) (Dw:A.own x=false) (hs:A.tF v=true) (e:A.wrap true bL cC r [x,.rp cs] []=some (v,[])):A.wrap true bL cC r [x,.op id 0] σ=some (v,σ):=by
 have h3:=(iF H).2
 refine B4 (args':=[x,.rp cs]) (by simp [A.own,A.rS]) ?_ (by rw[List.any_cons,Dw];rfl) e hs
 have q:A.oc σ 0 7 cs=some cs:=by rw[Am];exact hz σ 0 7
 simp [A.dm,hx σ 0 8,A.bn,h3,q]
end
def eK:az→U:=fun k=>.agg (aH k)
def eN:Int→U:=fun n=>.int .i64 n
def fC (g:List (az×Int)):List (U×U):=g.map fun p=>(eK p.1,eN p.2)
def jJ (es:List (Int×U)):List (U×U):=es.map fun p=>(eN p.1,(fun v:U=>v) p.2)
def pK (u:bE) (x:eu):az:=⟨u.number,x.name⟩
def kO (u:bE) (ps:List eu) (g:List (az×Int)):List (az×Int):=ps.foldl (fun g x=>eo (pK u x) x.group g) g
def dW (u:bE) (ps:List eu):List az:=(ps.filter fun x=>decide (x.group=1)).map (pK u)
def rN (u:bE) (ps:List eu) (S:List (Int×List az)):List (Int×List az):=if dW u ps=[]then S else S++[(u.number,dW u ps)]
def iX (L:List bW):List (az×Int):=L.foldl (fun m s=>eo s.key s.level m) []
def lY (r:aV) (u:bE):List eu:=(dD u.profile r.bp).1.params
def oo (r:aV) (us:List bE):List (az×Int):=us.foldl (fun g u=>kO u (lY r u) g) []
def kH (r:aV) (us:List bE):List (Int×List az):=us.foldl (fun S u=>rN u (lY r u) S) []
def gy:List (Int×U)→List (Int×List az)→HP
 |[],[]=>emp
 |p::es,x::l=>pr (p.1=x.1∧x.2≠[])*Sl (fl aH) 2 p.2 x.2*gy es l
 |_,_=>pr False
theorem Q6:∀{es:List (Int×U)} {S:List (Int×List az)} {p:Int×U} {x:Int×List az} {au σ:Heap} {R:HP},p.1=x.1→x.2≠[]→Hs aY au σ (gy es S*(Sl (fl aH) 2 p.2 x.2*R))→Hs aY au σ (gy (es++[p]) (S++[x])*R)
 |[],[],p,x,au,σ,R,h1,h2,H=>by
  rw[gy,uh]at H
  have K:=gI.2 ⟨(⟨h1,h2⟩:p.1=x.1∧x.2≠[]),H⟩
  exact hs_eq (by show _=pr (p.1=x.1∧x.2≠[])*Sl (fl aH) 2 p.2 x.2*emp*R;rw[Jz,lV]) K
 |[],_::_,p,x,au,σ,R,h1,h2,H=>(gI.1 (show Hs aY au σ (pr False*_)from H)).1.elim
 |_::_,[],p,x,au,σ,R,h1,h2,H=>(gI.1 (show Hs aY au σ (pr False*_)from H)).1.elim
 |q::es,y::S,p,x,au,σ,R,h1,h2,H=>by
  rw[gy]at H
  have K:=Q6 (es:=es) (S:=S) (p:=p) (x:=x) (R:=pr (q.1=y.1∧y.2≠[])*Sl (fl aH) 2 q.2 y.2*R) h1 h2 (hs_eq (by ac_rfl) H)
  rw[List.cons_append,List.cons_append,gy]
  exact hs_eq (by ac_rfl) K
theorem Qb:∀{es:List (Int×U)} {S:List (Int×List az)} {au σ:Heap} {R:HP},Hs aY au σ (gy es S*R)→es.map (·.1)=S.map (·.1)
 |[],[],_,_,_,_=>rfl
 |[],_::_,au,σ,R,H=>(gI.1 (show Hs aY au σ (pr False*R)from H)).1.elim
 |_::_,[],au,σ,R,H=>(gI.1 (show Hs aY au σ (pr False*R)from H)).1.elim
 |q::es,y::S,au,σ,R,H=>by
  rw[gy]at H
  have h1:=(gI.1 (hs_eq (show _=pr (q.1=y.1∧y.2≠[])*(Sl (fl aH) 2 q.2 y.2*gy es S*R) by ac_rfl) H)).1.1
  have h2:=Qb (es:=es) (S:=S) (R:=pr (q.1=y.1∧y.2≠[])*Sl (fl aH) 2 q.2 y.2*R) (hs_eq (by ac_rfl) H)
  rw[List.map_cons,List.map_cons,h1,h2]
theorem Ol {κ ν:Type} [DecidableEq κ] {k:κ}:∀{l:List (κ×ν)},(∀p∈l,p.1≠k)→bA k l=none
 |[],_=>rfl
 |p::l,h=>by
  obtain⟨a,b⟩:=p
  rw[bA,if_neg (fun q=>h (a,b) (by simp) q.symm)]
  exact Ol fun p hp=>h p (by simp [hp])
theorem Oj {κ ν:Type} [DecidableEq κ] {k:κ} {v:ν}:∀{l:List (κ×ν)},(∀p∈l,p.1≠k)→bA k (l++[(k,v)])=some v
 |[],_=>by simp [bA]
 |p::l,h=>by
  obtain⟨a,b⟩:=p
  rw[List.cons_append,bA,if_neg (fun q=>h (a,b) (by simp) q.symm)]
  exact Oj fun p hp=>h p (by simp [hp])
theorem O8 {κ ν:Type} [DecidableEq κ] {k:κ} {v:ν}:∀{l:List (κ×ν)},(∀p∈l,p.1≠k)→eo k v l=l++[(k,v)]
 |[],_=>rfl
 |p::l,h=>by
  obtain⟨a,b⟩:=p
  rw[eo,if_neg (fun q=>h (a,b) (by simp) q.symm),O8 fun p hp=>h p (by simp [hp])]
  rfl
theorem O7 {κ ν:Type} [DecidableEq κ] {k:κ} {v w:ν}:∀{l:List (κ×ν)},(∀p∈l,p.1≠k)→eo k v (l++[(k,w)])=l++[(k,v)]
 |[],_=>by simp [eo]
 |p::l,h=>by
  obtain⟨a,b⟩:=p
  rw[List.cons_append,eo,if_neg (fun q=>h (a,b) (by simp) q.symm),O7 fun p hp=>h p (by simp [hp])]
  rfl
theorem abM (u:bE) (x:eu):((((A.cell (.int .i64 u.number)).bind fun v=>some [v]).bind fun oC=>(A.splice 0 oC [aj,bw]).bind fun rV=>((A.cell (.str x.name)).bind fun v=>some [v]).bind fun nQ=>(A.splice 1 nQ rV).bind fun rW=>some rW).bind fun cs=>some (U.agg cs))=some (.agg (aH (pK u x))):=rfl
theorem uZ (a b:Int):A.dG .i (eN a) (eN b)=some (decide (a=b)):=Z4 _ a b
theorem Gk (a b:az):A.dG (.s [0,2]) (eK a) (eK b)=some (decide (a=b)):=uo a b
section
variable {r : aV} {au s : Heap} {ib gid cH ub : Nat}
def mj (u:bE) (h:U) (ks:List az):List (Int×U):=if ks=[]then[]else[(u.number,h)]
theorem aa4 {u:bE} {ps:List eu} (hps:ps.length≤40) {g0:List (az×Int)} {pre:List (Int×U)} {S:List (Int×List az)} (hpre:∀p∈pre,p.1≠u.number)
  (K:Hs aY au s (blk ib (.box [.om gid,.aB,.om cH])*(blk ub (.box (bX u))*(blk gid (.map (fC g0))*(blk cH (.map (jJ pre))*(gy pre S*emp)))))):
  ∃q,A.loop (fun v31 jQ=>
      (A.lss (v31.getD 1 U.undef) (U.int .i64 (ps.length:Int))).bind fun x34=>
      A.cond x34 (
       (A.aU 7 (sl 7 eA ps) (v31.getD 1 U.undef)).bind fun gR=>
       ((A.deref gR jQ).bind fun kU=>A.aD 0 7 kU).bind fun dA=>
       (A.cells 7 dA).bind fun uU=>
       (A.splice 0 uU [bw,aj,aj,aj,aj,aP,U.aB]).bind fun kV=>
       (A.bD 0 (U.op ub 0)).bind fun eZ=>
       ((A.deref eZ jQ).bind fun mu=>A.aq 0 mu).bind fun gZ=>
       (A.aq 0 kV).bind fun iD=>
       ((((A.cell gZ).bind fun v=>some [v]).bind fun oC=>(A.splice 0 oC [aj,bw]).bind fun rV=>((A.cell iD).bind fun v=>some [v]).bind fun nQ=>(A.splice 1 nQ rV).bind fun rW=>some rW).bind fun cs=>some (U.agg cs)).bind fun iE=>
       (A.cells 2 iE).bind fun yS=>
       (A.splice 0 yS [aj,bw]).bind fun ng=>
       (A.eT (U.op ib 0)).bind fun eW=>
       (A.bD 0 eW).bind fun fM=>
       ((A.deref fM jQ).bind fun rX=>A.aq 0 rX).bind fun gC=>
       (A.aD 0 2 ng).bind fun jj=>
       (A.aq 1 kV).bind fun gD=>
       (A.eU (.s [0,2]) gC jj gD jQ).bind fun jg=>
       (A.aq 1 kV).bind fun eF=>
       (A.eql .i eF aR).bind fun iO=>
       (A.cond iO (
        (A.eT (U.op ib 0)).bind fun gE=>
        (A.bD 2 gE).bind fun gG=>
        ((A.deref gG jg).bind fun uV=>A.aq 0 uV).bind fun iP=>
        (A.bD 0 (U.op ub 0)).bind fun dS=>
        ((A.deref dS jg).bind fun mw=>A.aq 0 mw).bind fun gH=>
        (A.eT (U.op ib 0)).bind fun jl=>
        (A.bD 2 jl).bind fun fV=>
        ((A.deref fV jg).bind fun yU=>A.aq 0 yU).bind fun sD=>
        (A.bD 0 (U.op ub 0)).bind fun jm=>
        ((A.deref jm jg).bind fun C6=>A.aq 0 C6).bind fun jo=>
        (A.look .i sD jo U.aB jg).bind fun iR=>
        (A.aD 0 2 ng).bind fun jS=>
        (((A.cells 2 jS).bind fun C7=>(A.splice 0 C7 [aj,bw]).bind fun yV=>some yV).bind fun cs=>some (U.sl 2 (chunks 2 1 cs))).bind fun sE=>
        (A.append 2 (140737488355328 / 24) iR sE jg).bind fun kG=>
        (A.eU .i iP gH kG.1 kG.2).bind fun Db=>
        some ([(v31.getD 0 U.undef)],Db)) (
        some ([(v31.getD 0 U.undef)],jg))).bind fun qM=>
       (A.add (v31.getD 1 U.undef) aR).bind fun zA=>
       some (AX.normal,[(qM.1.getD 0 U.undef),zA],qM.2)) (
       some (AX.exit 2,[(v31.getD 0 U.undef),(v31.getD 1 U.undef)],jQ))) [.lbx (bh r),.int .i64 0] s=some q∧
   ∃w s' pre',q=(.exit 2,[.lbx (bh r),w],s')∧Hs aY au s' (blk ib (.box [.om gid,.aB,.om cH])*(blk gid (.map (fC (kO u ps g0)))*(blk cH (.map (jJ pre'))*(gy pre' (rN u ps S)*emp)))):=by
 refine sQ ps (fun j v s=>∃h,v=[.lbx (bh r),.int .i64 (j:Int)]∧(dW u (ps.take j)=[]→h=.aB)∧Hs aY au s (blk ib (.box [.om gid,.aB,.om cH])*(blk ub (.box (bX u))*(blk gid (.map (fC (kO u (ps.take j) g0)))*(blk cH (.map (jJ (pre++mj u h (dW u (ps.take j)))))*(Sl (fl aH) 2 h (dW u (ps.take j))*(gy pre S*emp))))))) ?_ ?_ ⟨.aB,rfl,fun _=>rfl,?_⟩
 ·rintro j x v s hx ⟨h,rfl,hh,K⟩
  have hj:=(List.getElem?_eq_some_iff.1 hx).1
  have hg:kO u (ps.take (j+1)) g0=eo (pK u x) x.group (kO u (ps.take j) g0):=by
   unfold kO;rw[List.take_add_one,hx,Option.toList_some,List.foldl_append];rfl
  have hk:dW u (ps.take (j+1))=dW u (ps.take j)++(if x.group=1 then[pK u x]else[]):=by
   unfold dW;rw[List.take_add_one,hx,Option.toList_some,List.filter_append,List.map_append]
   by_cases e:x.group=1<;>simp [e]
  simp only[List.getD_cons_zero,List.getD_cons_succ]
  rw[iq hx,bS,iG,fW hx,bS,gb,bS,vK,bS,vI,bS,qX x _ rfl,bS,show A.bD 0 (.op ub 0)=some (.op ub 0)from rfl,bS]
  rw[sU (hs_eq (show _=blk ub (.box (bX u))*(blk ib (.box [.om gid,.aB,.om cH])*(blk gid (.map (fC (kO u (ps.take j) g0)))*(blk cH (.map (jJ (pre++mj u h (dW u (ps.take j)))))*(Sl (fl aH) 2 h (dW u (ps.take j))*(gy pre S*emp))))) by ac_rfl) K) 0,bS,show A.aq 0 (List.drop 0 (bX u))=some (.int .i64 u.number)from rfl,bS,show A.aq 0 (eA x)=some (.str x.name)from rfl,bS,abM,bS,show A.cells 2 (.agg (aH (pK u x)))=some (aH (pK u x))from rfl,bS,yc _ _ rfl,bS,show A.eT (.op ib 0)=some (.op ib 0)from rfl,bS,show A.bD 0 (.op ib 0)=some (.op ib 0)from rfl,bS,sU K 0,bS,show A.aq 0 (List.drop 0 [.om gid,.aB,.om cH])=some (.om gid)from rfl,bS,FV,bS,show A.aq 1 (eA x)=some (.int .i64 x.group)from rfl,bS]
  obtain⟨s1,e1,K1⟩:=Kb (eK:=eK) (eV:=eN) (x:=pK u x) Gk rfl x.group (hs_eq (show _=blk gid (.map (fC (kO u (ps.take j) g0)))*(blk ib (.box [.om gid,.aB,.om cH])*(blk ub (.box (bX u))*(blk cH (.map (jJ (pre++mj u h (dW u (ps.take j)))))*(Sl (fl aH) 2 h (dW u (ps.take j))*(gy pre S*emp))))) by ac_rfl) K)
  rw[show A.eU (.s [0,2]) (.om gid) (.agg (aH (pK u x))) (.int .i64 x.group) s=some s1 from e1,bS,bS,oB,bS]
  have hsh:Hs aY au s1 (blk gid (.map (fC (kO u (ps.take (j+1)) g0)))*(blk ib (.box [.om gid,.aB,.om cH])*(blk ub (.box (bX u))*(blk cH (.map (jJ (pre++mj u h (dW u (ps.take j)))))*(Sl (fl aH) 2 h (dW u (ps.take j))*(gy pre S*emp)))))):=by rw[hg];exact K1
  by_cases hx1:x.group=1
  case neg=>
   rw[if_neg hx1,List.append_nil]at hk
   rw[decide_eq_false hx1,ga,bS]
   simp only[List.getD_cons_zero,List.getD_cons_succ]
   rw[fZ hx (by unfold br;omega),bS]
   refine⟨_,_,rfl,h,rfl,by rw[hk];exact hh,?_⟩
   rw[hk]
   exact hs_eq (by ac_rfl) hsh
  rw[if_pos hx1]at hk
  have d2:A.deref (.op ib 2) s1=some [.om cH]:=sU (hs_eq (show _=blk ib (.box [.om gid,.aB,.om cH])*(blk gid (.map (fC (kO u (ps.take (j+1)) g0)))*(blk ub (.box (bX u))*(blk cH (.map (jJ (pre++mj u h (dW u (ps.take j)))))*(Sl (fl aH) 2 h (dW u (ps.take j))*(gy pre S*emp))))) by ac_rfl) hsh) 2
  have du:A.deref (.op ub 0) s1=some (bX u):=sU (hs_eq (show _=blk ub (.box (bX u))*(blk gid (.map (fC (kO u (ps.take (j+1)) g0)))*(blk ib (.box [.om gid,.aB,.om cH])*(blk cH (.map (jJ (pre++mj u h (dW u (ps.take j)))))*(Sl (fl aH) 2 h (dW u (ps.take j))*(gy pre S*emp))))) by ac_rfl) hsh) 0
  have hsd:=hs_eq (show _=blk cH (.map (jJ (pre++mj u h (dW u (ps.take j)))))*(blk gid (.map (fC (kO u (ps.take (j+1)) g0)))*(blk ib (.box [.om gid,.aB,.om cH])*(blk ub (.box (bX u))*(Sl (fl aH) 2 h (dW u (ps.take j))*(gy pre S*emp))))) by ac_rfl) hsh
  have hl:A.look .i (.om cH) (.int .i64 u.number) .aB s1=some h:=by
   have:=aaA (eK:=eN) (eV:=fun v:U=>v) (l:=pre++mj u h (dW u (ps.take j))) (x:=u.number) uZ rfl .aB hsd
   rw[show eN u.number=.int .i64 u.number from rfl]at this
   rw[this]
   unfold mj
   by_cases e:dW u (ps.take j)=[]
   ·rw[if_pos e,List.append_nil,Ol hpre,hh e];rfl
   ·rw[if_neg e,Oj hpre];rfl
  rw[decide_eq_true hx1,iG]
  simp only[bS,show A.eT (.op ib 0)=some (.op ib 0)from rfl,show A.bD 2 (.op ib 0)=some (.op ib 2)from rfl,d2,du,show A.aq 0 [.om cH]=some (.om cH)from rfl,show A.aq 0 (bX u)=some (.int .i64 u.number)from rfl,show A.bD 0 (.op ub 0)=some (.op ub 0)from rfl,hl]
  rw[aa1,bS]
  have nS:(dW u (ps.take j)).length≤40:=by
   unfold dW
   have:=List.length_filter_le (fun x:eu=>decide (x.group=1)) (ps.take j)
   rw[List.length_map];rw[List.length_take]at this;omega
  obtain⟨h',s2,e3,K3⟩:=acE (B:=aY) (pK u x) (by omega) (fun _ _ _ _=>trivial) (hs_eq (show _=Sl (fl aH) 2 h (dW u (ps.take j))*(blk gid (.map (fC (kO u (ps.take (j+1)) g0)))*(blk ib (.box [.om gid,.aB,.om cH])*(blk ub (.box (bX u))*(blk cH (.map (jJ (pre++mj u h (dW u (ps.take j)))))*(gy pre S*emp))))) by ac_rfl) hsh)
  obtain⟨s3,e4,K4⟩:=Kb (eK:=eN) (eV:=fun v:U=>v) (x:=u.number) uZ rfl h' (hs_eq (show _=blk cH (.map (jJ (pre++mj u h (dW u (ps.take j)))))*(blk gid (.map (fC (kO u (ps.take (j+1)) g0)))*(blk ib (.box [.om gid,.aB,.om cH])*(blk ub (.box (bX u))*(Sl (fl aH) 2 h' (dW u (ps.take j)++[pK u x])*(gy pre S*emp))))) by ac_rfl) K3)
  have L8:eo u.number h' (pre++mj u h (dW u (ps.take j)))=pre++mj u h' (dW u (ps.take (j+1))):=by
   have hne:¬(dW u (ps.take j)++[pK u x]=[]):=by simp
   rw[hk]
   unfold mj
   rw[if_neg hne]
   by_cases e:dW u (ps.take j)=[]
   ·rw[if_pos e,List.append_nil,O8 hpre]
   ·rw[if_neg e,O7 hpre]
  rw[e3,bS,show A.eU .i (.om cH) (.int .i64 u.number) h' s2=some s3 from e4,bS,bS]
  simp only[List.getD_cons_zero,List.getD_cons_succ]
  rw[fZ hx (by unfold br;omega),bS]
  rw[L8]at K4
  refine⟨_,_,rfl,h',rfl,fun q=>by rw[hk]at q;simp at q,?_⟩
  rw[hk]at K4 ⊢
  exact hs_eq (by unfold jJ;ac_rfl) K4
 ·rintro v s ⟨h,rfl,hh,K⟩
  simp only[List.getD_cons_zero,List.getD_cons_succ]
  rw[ia,bS,ga]
  rw[List.take_length]at K hh
  refine⟨_,rfl,by simp,_,_,pre++mj u h (dW u ps),rfl,?_⟩
  unfold rN
  unfold mj at K ⊢
  by_cases e:dW u ps=[]
  ·rw[if_pos e]at K ⊢
   rw[if_pos e]
   rw[List.append_nil]at K ⊢
   have K2:=iV (hs_eq (show _=(blk ub (.box (bX u))*Sl (fl aH) 2 h (dW u ps))*(blk ib (.box [.om gid,.aB,.om cH])*(blk gid (.map (fC (kO u ps g0)))*(blk cH (.map (jJ pre))*(gy pre S*emp)))) by ac_rfl) K)
   exact K2
  ·rw[if_neg e]at K ⊢
   rw[if_neg e]
   have K2:=iV (hs_eq (show _=blk ub (.box (bX u))*(gy pre S*(Sl (fl aH) 2 h (dW u ps)*(blk ib (.box [.om gid,.aB,.om cH])*(blk gid (.map (fC (kO u ps g0)))*(blk cH (.map (jJ (pre++[(u.number,h)])))*emp))))) by ac_rfl) K)
   have K3:=Q6 (p:=(u.number,h)) (x:=(u.number,dW u ps)) rfl e K2
   exact hs_eq (by ac_rfl) K3
 ·have e:mj u .aB (dW u (ps.take 0))=[]:=rfl
  rw[e,List.append_nil]
  exact hs_eq (by ac_rfl) (qP (E:=fl aH) (sz:=2) (v:=.aB) K (.inl rfl))
end
end
section
open HP
theorem Qc (r:aV):∀(us:List bE) (S:List (Int×List az)),∀p∈us.foldl (fun S u=>rN u (lY r u) S) S,p∈S∨∃v∈us,p.1=v.number
 |[],S,p,h=>.inl h
 |u::us,S,p,h=>by
  rw[List.foldl_cons]at h
  rcases Qc r us _ p h with h|⟨v,hv,e⟩
  ·unfold rN at h
   split at h
   ·exact .inl h
   ·rcases List.mem_append.1 h with h|h
    ·exact .inl h
    ·simp at h;subst h;exact .inr ⟨u,by simp,rfl⟩
  ·exact .inr ⟨v,by simp [hv],e⟩
theorem aaU {r:aV} (hr:gK r) (h:cN r=0) {u:bE} (hu:u∈r.units):∃p:bG,p6 r.bp (kP (fun x:bG=>decide (x.name=u.profile)) r.bp)=some p∧p.params=lY r u:=by
 have yt:=OQ h u hu
 unfold lY
 rw[sJ]at yt ⊢
 rcases xM (fun x:bG=>decide (x.name=u.profile)) r.bp with⟨_,_,h3⟩|⟨k,x,h1,h2,h3,h4,_⟩
 ·rw[h3]at yt;simp at yt
 ·exact⟨x,by rw[h3];exact F3 (x:=x) (by omega) (by simpa using h1),by rw[h4]⟩
section
variable {r : aV} {ak : List bJ} {l : List aG} {au s : Heap} {ib gid cH mid : Nat}
theorem YB (hr:gK r) (cR:cN r=0) (K:Hs aY au s (blk ib (.box [.om gid,.aB,.om cH])*(blk gid (.map (fC []))*(blk cH (.map (jJ []))*(gy [] []*emp))))):
  ∃q,A.loop (fun v10 fS=>
   (A.lss (v10.getD 1 U.undef) (U.int .i64 (r.units.length:Int))).bind fun cm=>
   A.cond cm (
    (A.aU 4 (sl 4 bX r.units) (v10.getD 1 U.undef)).bind fun cA=>
    ((A.deref cA fS).bind fun iz=>A.aD 0 4 iz).bind fun bM=>
    (A.cells 4 bM).bind fun kS=>
    (A.storeAt (U.op fS.length 0) kS (fS++[aO.box [aj,bw,aj,aj]])).bind fun eP=>
    ((A.lb (v10.getD 0 U.undef)).bind fun _=>some (0)).bind fun DA=>
    ((A.lb (v10.getD 0 U.undef)).bind fun iN=>A.aq DA iN).bind fun bC=>
    (tY (A.tab (fun _ _=>none) [(225,qh),(225,qh)]) [bC,(U.fn 225 [(U.op fS.length 0)])] eP).bind fun nT=>
    ((A.lb (v10.getD 0 U.undef)).bind fun _=>some (0)).bind fun Mj=>
    ((A.lb (v10.getD 0 U.undef)).bind fun eB=>A.aq Mj eB).bind fun x25=>
    (A.aU 3 x25 nT.1).bind fun dY=>
    (A.bD 2 dY).bind fun dK=>
    ((A.deref dK nT.2).bind fun nP=>A.aq 0 nP).bind fun x29=>
    (A.bf x29).bind fun eM=>
    (A.loop (fun v31 jQ=>
      (A.lss (v31.getD 1 U.undef) eM).bind fun x34=>
      A.cond x34 (
       (A.aU 7 x29 (v31.getD 1 U.undef)).bind fun gR=>
       ((A.deref gR jQ).bind fun kU=>A.aD 0 7 kU).bind fun dA=>
       (A.cells 7 dA).bind fun uU=>
       (A.splice 0 uU [bw,aj,aj,aj,aj,aP,U.aB]).bind fun kV=>
       (A.bD 0 (U.op fS.length 0)).bind fun eZ=>
       ((A.deref eZ jQ).bind fun mu=>A.aq 0 mu).bind fun gZ=>
       (A.aq 0 kV).bind fun iD=>
       ((((A.cell gZ).bind fun v=>some [v]).bind fun oC=>(A.splice 0 oC [aj,bw]).bind fun rV=>((A.cell iD).bind fun v=>some [v]).bind fun nQ=>(A.splice 1 nQ rV).bind fun rW=>some rW).bind fun cs=>some (U.agg cs)).bind fun iE=>
       (A.cells 2 iE).bind fun yS=>
       (A.splice 0 yS [aj,bw]).bind fun ng=>
       (A.eT (U.op ib 0)).bind fun eW=>
       (A.bD 0 eW).bind fun fM=>
       ((A.deref fM jQ).bind fun rX=>A.aq 0 rX).bind fun gC=>
       (A.aD 0 2 ng).bind fun jj=>
       (A.aq 1 kV).bind fun gD=>
       (A.eU (.s [0,2]) gC jj gD jQ).bind fun jg=>
       (A.aq 1 kV).bind fun eF=>
       (A.eql .i eF aR).bind fun iO=>
       (A.cond iO (
        (A.eT (U.op ib 0)).bind fun gE=>
        (A.bD 2 gE).bind fun gG=>
        ((A.deref gG jg).bind fun uV=>A.aq 0 uV).bind fun iP=>
        (A.bD 0 (U.op fS.length 0)).bind fun dS=>
        ((A.deref dS jg).bind fun mw=>A.aq 0 mw).bind fun gH=>
        (A.eT (U.op ib 0)).bind fun jl=>
        (A.bD 2 jl).bind fun fV=>
        ((A.deref fV jg).bind fun yU=>A.aq 0 yU).bind fun sD=>
        (A.bD 0 (U.op fS.length 0)).bind fun jm=>
        ((A.deref jm jg).bind fun C6=>A.aq 0 C6).bind fun jo=>
        (A.look .i sD jo U.aB jg).bind fun iR=>
        (A.aD 0 2 ng).bind fun jS=>
        (((A.cells 2 jS).bind fun C7=>(A.splice 0 C7 [aj,bw]).bind fun yV=>some yV).bind fun cs=>some (U.sl 2 (chunks 2 1 cs))).bind fun sE=>
        (A.append 2 (140737488355328 / 24) iR sE jg).bind fun kG=>
        (A.eU .i iP gH kG.1 kG.2).bind fun Db=>
        some ([(v31.getD 0 U.undef)],Db)) (
        some ([(v31.getD 0 U.undef)],jg))).bind fun qM=>
       (A.add (v31.getD 1 U.undef) aR).bind fun zA=>
       some (AX.normal,[(qM.1.getD 0 U.undef),zA],qM.2)) (
       some (AX.exit 2,[(v31.getD 0 U.undef),(v31.getD 1 U.undef)],jQ))) [(v10.getD 0 U.undef),aj] nT.2).bind fun pZ=>
    bif pZ.1==AX.exit 2 then(
     (A.add (v10.getD 1 U.undef) aR).bind fun My=>
     some (AX.normal,[(pZ.2.1.getD 0 U.undef),My],pZ.2.2))else
    none) (
    some (AX.exit 0,[(v10.getD 0 U.undef),(v10.getD 1 U.undef)],fS))) [.lbx (bh r),.int .i64 0] s=some q∧
   ∃w s' es,q=(.exit 0,[.lbx (bh r),w],s')∧Hs aY au s' (blk ib (.box [.om gid,.aB,.om cH])*(blk gid (.map (fC (oo r r.units)))*(blk cH (.map (jJ es))*(gy es (kH r r.units)*emp)))):=by
 have L7:=xO cR
 refine sQ r.units (fun j v s=>∃es,v=[.lbx (bh r),.int .i64 (j:Int)]∧Hs aY au s (blk ib (.box [.om gid,.aB,.om cH])*(blk gid (.map (fC (oo r (r.units.take j))))*(blk cH (.map (jJ es))*(gy es (kH r (r.units.take j))*emp))))) ?_ ?_ ⟨[],rfl,K⟩
 ·rintro j u v s hx ⟨es,rfl,K⟩
  have hu:=List.mem_of_getElem? hx
  have hj:=(List.getElem?_eq_some_iff.1 hx).1
  have hps:=BK cR u.profile
  obtain⟨p,hp1,hp2⟩:=aaU hr cR hu
  have hpre:∀p∈es,p.1≠u.number:=by
   intro p hp e
   have hk:=Qb (hs_eq (show _=gy es (kH r (r.units.take j))*(blk ib (.box [.om gid,.aB,.om cH])*(blk gid (.map (fC (oo r (r.units.take j))))*(blk cH (.map (jJ es))*emp))) by ac_rfl) K)
   have:p.1∈(kH r (r.units.take j)).map (·.1):=by rw[←hk];exact List.mem_map.2 ⟨p,hp,rfl⟩
   obtain⟨x,hx1,hx2⟩:=List.mem_map.1 this
   rcases Qc r (r.units.take j) [] x hx1 with h|⟨v,hv,e2⟩
   ·simp at h
   ·obtain⟨k,hk⟩:=List.mem_iff_getElem?.1 hv
    have nS:=(List.getElem?_eq_some_iff.1 hk).1
    rw[List.length_take]at nS
    rw[List.getElem?_take_of_lt (by omega)]at hk
    have hs:=xL cR
    rw[List.pairwise_map]at hs
    have:=List.pairwise_iff_getElem.1 hs k j (by omega) hj (by omega)
    rw[(List.getElem?_eq_some_iff.1 hk).2,(List.getElem?_eq_some_iff.1 hx).2]at this
    omega
  have K1:=uv (b:=aO.box [aj,bw,aj,aj]) K trivial
  obtain⟨s2,e2,K2⟩:=Cg (o:=0) (new:=bX u) (cs':=bX u) K1 rfl
  have L0:=Hi (A.tab (fun _ _=>none) [(225,qh),(225,qh)]) r.bp hr.1.1 225 [.op s.length 0] (fun x=>decide (x.name=u.profile)) s2
   (fun x hx=>abq K2 (PG _) (rz (NA _)) rfl rfl (VK (σ:=[]) (r:=decide (x.name=u.profile)) rfl))
  simp only[List.getD_cons_zero,List.getD_cons_succ]
  rw[iq hx,bS,iG,fW hx,bS,gb,bS,kg,bS,kf,bS,e2,bS,show((A.lb (.lbx (bh r))).bind fun _=>some 0)=some 0 from rfl,bS,show((A.lb (.lbx (bh r))).bind fun iN=>A.aq 0 iN)=some (sl 3 ct r.bp)from rfl,bS,L0,bS,bS,show((A.lb (.lbx (bh r))).bind fun iN=>A.aq 0 iN)=some (sl 3 ct r.bp)from rfl,bS]
  simp only
  rw[yu hp1,bS,show A.bD 2 (.rp (ct p))=some (.rp (List.drop 2 (ct p)))from rfl,bS,gb,bS,show A.aq 0 (List.drop 2 (ct p))=some (sl 7 eA p.params)from rfl,bS,hp2,dU,bS]
  refine Dz (rB (aa4 (u:=u) hps hpre (hs_eq (by ac_rfl) K2)) ?_)
  rintro q ⟨w,s',es',rfl,K3⟩
  simp only[u9,List.getD_cons_zero,List.getD_cons_succ]
  rw[fZ hx (by unfold br;omega),bS]
  refine⟨_,rfl,_,_,rfl,es',rfl,?_⟩
  have eg:oo r (r.units.take (j+1))=kO u (lY r u) (oo r (r.units.take j)):=by
   unfold oo;rw[List.take_add_one,hx,Option.toList_some,List.foldl_append];rfl
  have es:kH r (r.units.take (j+1))=rN u (lY r u) (kH r (r.units.take j)):=by
   unfold kH;rw[List.take_add_one,hx,Option.toList_some,List.foldl_append];rfl
  rw[eg,es]
  exact K3
 ·rintro v s ⟨es,rfl,K⟩
  simp only[List.getD_cons_zero,List.getD_cons_succ]
  rw[ia,bS,ga]
  rw[List.take_length]at K
  exact⟨_,rfl,by simp,_,_,es,rfl,K⟩
theorem aa5 {R:HP} {L:List bW} (hL:L.length≤16000) (K:Hs aY au s (blk mid (.map (fC []))*R)):
  ∃ q, A.loop (fun kI sB =>
       (A.lss (kI.getD 1 U.undef) (U.int .i64 (L.length:Int))).bind fun x101=>
       A.cond x101 (
        (A.aU 3 (sl 3 ck L) (kI.getD 1 U.undef)).bind fun x102=>
        ((A.deref x102 sB).bind fun yy=>A.aD 0 3 yy).bind fun x104=>
        (A.cells 3 x104).bind fun yz=>
        (A.splice 0 yz [aj,bw,aj]).bind fun rO=>
        (A.aD 0 2 rO).bind fun CT=>
        (A.aq 2 rO).bind fun yJ=>
        (A.eU (.s [0,2]) (U.om mid) CT yJ sB).bind fun CE=>
        (A.add (kI.getD 1 U.undef) aR).bind fun CU=>
        some (AX.normal,[(kI.getD 0 U.undef),CU],CE)) (
        some (AX.exit 6,[(kI.getD 0 U.undef),(kI.getD 1 U.undef)],sB))) [.lbx (bh r),.int .i64 0] s=some q∧∃w s',q=(.exit 6,[.lbx (bh r),w],s')∧Hs aY au s' (blk mid (.map (fC (iX L)))*R):=by
 refine sQ L (fun j v s=>v=[.lbx (bh r),.int .i64 (j:Int)]∧Hs aY au s (blk mid (.map (fC (iX (L.take j))))*R)) ?_ ?_ ⟨rfl,K⟩
 ·rintro j x v s hx ⟨rfl,K⟩
  simp only[List.getD_cons_zero,List.getD_cons_succ]
  obtain⟨s1,e1,K1⟩:=Kb (eK:=eK) (eV:=eN) (x:=x.key) Gk rfl x.level K
  rw[iq hx,bS,iG,fW hx,bS,gb,bS,show A.aD 0 3 (ck x)=some (.agg (ck x))from rfl,bS,show A.cells 3 (.agg (ck x))=some (ck x)from rfl,bS,BG x _ rfl,bS,show A.aD 0 2 (ck x)=some (.agg (aH x.key))from rfl,bS,show A.aq 2 (ck x)=some (.int .i64 x.level)from rfl,bS,show A.eU (.s [0,2]) (.om mid) (.agg (aH x.key)) (.int .i64 x.level) s=some s1 from e1,bS,fZ hx (by unfold br;omega),bS]
  refine⟨_,_,rfl,rfl,?_⟩
  have:iX (L.take (j+1))=eo x.key x.level (iX (L.take j)):=by
   unfold iX;rw[List.take_add_one,hx,Option.toList_some,List.foldl_append];rfl
  rw[this];exact K1
 ·rintro v s ⟨rfl,K⟩
  simp only[List.getD_cons_zero,List.getD_cons_succ]
  rw[ia,bS,ga]
  rw[List.take_length]at K
  exact⟨_,rfl,by simp,_,_,rfl,K⟩
def nN (e:List U) (m:List (az×Int)):HP:=ex fun id=>pr (e=[.om id])*blk id (.map (fC m))
theorem Qd {α:Type} {E:List U→α→HP} {sz:Nat} {v:U} {L:List α} {R:HP} (H:Hs aY au s (Sl E sz v L*R)):A.cell v=some v:=by
 rcases oR H with⟨_,rfl|rfl,_⟩|⟨id,g,seg,rfl,_,_⟩<;>rfl
def iW (r:aV) (ak:List bJ) (l:List aG) (n:Nat):List (List (az×Int)):=(List.range n).map fun i=>iX (ef r ak l i)
theorem ZH (hr:gK r) (hp:cB nX ak) (hz:gJ r ak l=0) {R:HP} (K:Hs aY au s (blk ib (.box [.om gid,.aB,.om cH])*R)):
  ∃ q, A.loop (fun v87 kY =>
    (A.lss (v87.getD 1 U.undef) (U.int .i64 (l.length:Int))).bind fun x90=>
    A.cond x90 (
     ((A.lb (v87.getD 0 U.undef)).bind fun uW=>A.aD 0 2 uW).bind fun MC=>
     (A.add (v87.getD 1 U.undef) aR).bind fun x93=>
     (A.bN 11 (sl 11 aQ l) none (some x93) (kY++[aO.map []])).bind fun MD=>
     (A.quiet (vH [MD] (kY++[aO.map []])) (kY++[aO.map []])).bind fun x95=>
     (A.quiet (vE [MC,(sl 3 gh ak),x95] (kY++[aO.map []])) (kY++[aO.map []])).bind fun x96=>
     (A.bf x96).bind fun ME=>
     (A.loop (fun kI sB=>
       (A.lss (kI.getD 1 U.undef) ME).bind fun x101=>
       A.cond x101 (
        (A.aU 3 x96 (kI.getD 1 U.undef)).bind fun x102=>
        ((A.deref x102 sB).bind fun yy=>A.aD 0 3 yy).bind fun x104=>
        (A.cells 3 x104).bind fun yz=>
        (A.splice 0 yz [aj,bw,aj]).bind fun rO=>
        (A.aD 0 2 rO).bind fun CT=>
        (A.aq 2 rO).bind fun yJ=>
        (A.eU (.s [0,2]) (U.om kY.length) CT yJ sB).bind fun CE=>
        (A.add (kI.getD 1 U.undef) aR).bind fun CU=>
        some (AX.normal,[(kI.getD 0 U.undef),CU],CE)) (
        some (AX.exit 6,[(kI.getD 0 U.undef),(kI.getD 1 U.undef)],sB))) [(v87.getD 0 U.undef),aj] (kY++[aO.map []])).bind fun uM=>
     bif uM.1==AX.exit 6 then(
      (A.eT (U.op ib 0)).bind fun x112=>
      (A.bD 1 x112).bind fun x113=>
      ((A.deref x113 uM.2.2).bind fun KQ=>A.aq 0 KQ).bind fun x115=>
      ((((A.cell (U.om kY.length)).bind fun v=>some [v]).bind fun Cy=>(A.splice 0 Cy [U.nm]).bind fun Cz=>some Cz).bind fun cs=>some (U.sl 1 (chunks 1 1 cs))).bind fun Lq=>
      (A.append 1 (140737488355328 / 8) x115 Lq uM.2.2).bind fun CS=>
      (A.eT (U.op ib 0)).bind fun Ls=>
      (A.bD 1 Ls).bind fun Lu=>
      ((A.cell CS.1).bind fun v=>some [v]).bind fun KR=>
      (A.storeAt Lu KR CS.2).bind fun KT=>
      (A.add (v87.getD 1 U.undef) aR).bind fun Lv=>
      some (AX.normal,[(uM.2.1.getD 0 U.undef),Lv],KT))else
     none) (
     some (AX.exit 4,[(v87.getD 0 U.undef),(v87.getD 1 U.undef)],kY))) [.lbx (bh r),.int .i64 0] s=some q∧
   ∃w s' hL,q=(.exit 4,[.lbx (bh r),w],s')∧Hs aY au s' (blk ib (.box [.om gid,hL,.om cH])*(Sl nN 1 hL (iW r ak l l.length)*R)):=by
 have cR:=(kJ hz).1
 have hg:=rq (kJ hz).2
 have hlen:=hg.len
 refine sQ l (fun i v s=>∃hL,v=[.lbx (bh r),.int .i64 (i:Int)]∧Hs aY au s (blk ib (.box [.om gid,hL,.om cH])*(Sl nN 1 hL (iW r ak l i)*R))) ?_ ?_ ⟨.aB,rfl,?_⟩
 ·rintro i c v s hx ⟨hL,rfl,K⟩
  have hi:=(List.getElem?_eq_some_iff.1 hx).1
  have K1:=uv (b:=aO.map []) K trivial
  have hcs:vH [sl 11 aQ (l.take (i+1))] (s++[aO.map []])=some (GN (rF (l.take (i+1))),s++[aO.map []]):=
   NB (Q9 (by simp;unfold br;omega) (fun c hc=>by have:=(hg.mv c (List.mem_of_mem_take hc)).1;unfold br;omega))
  have hlv:vE [.agg (bh r),sl 3 gh ak,GN (rF (l.take (i+1)))] (s++[aO.map []])=some (sl 3 ck (ef r ak l i),s++[aO.map []]):=by
   have:=Nc (σ:=s++[aO.map []]) (PR hr cR hp (rF (l.take (i+1))))
   rw[show(fun k=>bA k (rF (l.take (i+1))))=gm (lW (l.take (i+1)))from funext fun k=>(IT _).2.2 k]at this
   exact this
  have hlc:=PO (ak:=ak) (l:=l) cR i
  simp only[List.getD_cons_zero,List.getD_cons_succ]
  rw[iq hx,bS,iG,show((A.lb (.lbx (bh r))).bind fun uW=>A.aD 0 2 uW)=some (.agg (bh r))from rfl,bS,fZ hx (by unfold br;omega),bS,show A.bN 11 (sl 11 aQ l) none (some (.int .i64 ((i+1:Nat):Int))) (s++[aO.map []])=some (sl 11 aQ (l.take (i+1)))from NL 11 aQ l (by omega),bS,quiet_of hcs,bS,quiet_of hlv,bS,dU,bS]
  refine Dz (rB (aa5 (L:=ef r ak l i) (by omega) K1) ?_)
  rintro q ⟨w,s',rfl,K2⟩
  have hc:=Qd (hs_eq (show _=Sl nN 1 hL (iW r ak l i)*(blk s.length (.map (fC (iX (ef r ak l i))))*(blk ib (.box [.om gid,hL,.om cH])*R)) by ac_rfl) K2)
  have d1:A.deref (.op ib 1) s'=some [hL,.om cH]:=sU (hs_eq (show _=blk ib (.box [.om gid,hL,.om cH])*(blk s.length (.map (fC (iX (ef r ak l i))))*(Sl nN 1 hL (iW r ak l i)*R)) by ac_rfl) K2) 1
  have hp1:A.aq 0 [hL,.om cH]=some hL:=hc
  have KB:Hs aY au s' (nN [.om s.length] (iX (ef r ak l i))*(Sl nN 1 hL (iW r ak l i)*(blk ib (.box [.om gid,hL,.om cH])*R))):=by
   refine AF.2 ⟨s.length,?_⟩
   rw[lV]
   exact gI.2 ⟨rfl,hs_eq (by ac_rfl) K2⟩
  have KA:Hs aY au s' (Sl nN 1 hL (iW r ak l i)*(els nN [[.om s.length]] [iX (ef r ak l i)]*(blk ib (.box [.om gid,hL,.om cH])*R))):=by
   rw[FN]
   exact hs_eq (by ac_rfl) KB
  obtain⟨hL',s2,e3,K3⟩:=AE (most:=140737488355328 / 8) KA (by unfold iW;simp;omega) (fun _ _ _ _=>trivial)
  obtain⟨s3,e4,K4⟩:=Cg (o:=1) (new:=[hL']) (cs':=[.om gid,hL',.om cH]) (hs_eq (show _=blk ib (.box [.om gid,hL,.om cH])*(Sl nN 1 hL' (iW r ak l i++[iX (ef r ak l i)])*R) by ac_rfl) K3) rfl
  have lQ:=Qd K3
  simp only[u9,List.getD_cons_zero,List.getD_cons_succ]
  rw[show A.eT (.op ib 0)=some (.op ib 0)from rfl,bS,show A.bD 1 (.op ib 0)=some (.op ib 1)from rfl,bS,d1,bS,hp1,bS,show((((A.cell (U.om s.length)).bind fun v=>some [v]).bind fun Cy=>(A.splice 0 Cy [U.nm]).bind fun Cz=>some Cz).bind fun cs=>some (U.sl 1 (chunks 1 1 cs)))=some (.sl 1 [[.om s.length]])from rfl,bS,e3,bS,bS,show A.bD 1 (.op ib 0)=some (.op ib 1)from rfl,bS]
  simp only
  rw[lQ,bS,bS,e4,bS,bS]
  refine⟨_,rfl,_,_,rfl,hL',rfl,?_⟩
  rw[show iW r ak l (i+1)=iW r ak l i++[iX (ef r ak l i)] by unfold iW;rw[List.range_succ,List.map_append];rfl]
  exact K4
 ·rintro v s ⟨hL,rfl,K⟩
  simp only[List.getD_cons_zero,List.getD_cons_succ]
  rw[ia,bS,ga]
  exact⟨_,rfl,by simp,_,_,hL,rfl,K⟩
 ·exact hs_eq (by show _=blk ib (.box [.om gid,.aB,.om cH])*(Sl nN 1 .aB []*R);ac_rfl) (qP (E:=nN) (sz:=1) (v:=.aB) K (.inl rfl))
def nh (m:List (az×Int)):List U:=[.fm (fC m)]
def rG (S:List (Int×List az)):List (U×U):=S.map fun p=>(eN p.1,sl 2 aH p.2)
def sY (r:aV) (ak:List bJ) (l:List aG) (lv:U):U:=.rp [.fm (fC (oo r r.units)),lv,.fm (rG (kH r r.units))]
theorem PF (σ:Heap) (n d:Nat) (g:List (az×Int)):A.pq σ n d (fC g)=some (fC g):=FO d fun p hp=>by
 obtain⟨q,_,rfl⟩:=List.mem_map.1 hp
 exact⟨rz (uq _),dZ _ _⟩
theorem Pt {n:Nat} (hn:n≤au.length) (d:Nat):∀{seg:List (List U)} {MS:List (List (az×Int))} {R:HP},Hs aY au s (els nN seg MS*R)→A.iI s n (d+1) seg=some (MS.map nh)
 |[],[],_,_=>by simp [A.iI]
 |[],_::_,R,H=>(gI.1 (show Hs aY au s (pr False*R)from H)).1.elim
 |_::_,[],R,H=>(gI.1 (show Hs aY au s (pr False*R)from H)).1.elim
 |e::seg,m::MS,R,H=>by
  have H1:Hs aY au s (nN e m*(els nN seg MS*R)):=hs_eq (lV _ _ _) H
  obtain⟨id,H2⟩:=AF.1 H1
  rw[lV]at H2
  obtain⟨he,H3⟩:=gI.1 H2
  subst he
  obtain⟨g1,g2⟩:=iF H3
  have ih:=Pt hn d (iV H3)
  simp only[A.iI,A.dm,A.bn,if_neg (show ¬id<n by omega),g2,PF,Option.map_some,Option.bind_some,ih,List.map_cons]
  rfl
theorem abD {n:Nat} (hn:n≤au.length) (d:Nat) {hL:U} {MS:List (List (az×Int))} {R:HP} (H:Hs aY au s (Sl nN 1 hL MS*R)):∃lv,A.bn s n (d+2) hL=some lv∧(MS≠[]→lv=sl 1 nh MS):=by
 rcases oR H with⟨rfl,rfl|rfl,_⟩|⟨id,g,seg,rfl,hl,K⟩
 ·exact⟨.aB,by simp [A.bn],fun h=>absurd rfl h⟩
 ·exact⟨.ez,by simp [A.bn],fun h=>absurd rfl h⟩
 ·obtain⟨g1,g2⟩:=iF K
  have hf:=Pt hn d (iV K)
  refine⟨.sl 1 (MS.map nh),?_,fun _=>rfl⟩
  simp only[A.bn,if_neg (show ¬id<n by omega),g2]
  rw[if_pos (by simp;omega),List.drop_zero,List.take_of_length_le (by omega),xU,hf]
  rfl
theorem Sz {n:Nat} (hn:n≤au.length) (d:Nat):∀{es:List (Int×U)} {S:List (Int×List az)} {R:HP},Hs aY au s (gy es S*R)→A.pq s n (d+1) (jJ es)=some (rG S)
 |[],[],_,_=>by simp [jJ,rG,A.pq]
 |[],_::_,R,H=>(gI.1 (show Hs aY au s (pr False*R)from H)).1.elim
 |_::_,[],R,H=>(gI.1 (show Hs aY au s (pr False*R)from H)).1.elim
 |q::es,y::S,R,H=>by
  rw[gy]at H
  obtain⟨⟨h1,h2⟩,H1⟩:=gI.1 (hs_eq (show _=pr (q.1=y.1∧y.2≠[])*(Sl (fl aH) 2 q.2 y.2*(gy es S*R)) by ac_rfl) H)
  have ih:=Sz hn d (iV H1)
  obtain⟨a,b⟩:=q
  have hb:A.bn s n (d+1) b=some (sl 2 aH y.2):=by
   rcases ug H1 with⟨e0,_,_⟩|⟨id,g,e,K⟩
   ·exact absurd e0 h2
   ·simp only at e;subst e
    obtain⟨g1,g2⟩:=iF K
    exact Rn uq g2 (by omega) d
  show A.pq s n (d+1) ((eN a,b)::jJ es)=_
  have ha:A.bn s n (d+1) (eN a)=some (eN a):=dZ _ _ s n (d+1)
  simp only[A.pq,ha,hb,Option.bind_some,ih,Option.map_some]
  simp only at h1
  subst h1
  rfl
theorem acy (hr:gK r) (hp:cB nX ak) (hz:gJ r ak l=0) (σ:Heap):∃lv,E5 [.agg (bh r),sl 3 gh ak,sl 11 aQ l] σ=some (sY r ak l lv,σ)∧(l≠[]→lv=sl 1 nh (iW r ak l l.length)):=by
 have cR:=(kJ hz).1
 have run:∃b,Fa (.agg (bh r)) (sl 3 gh ak) (sl 11 aQ l) σ=some b∧∃lv,b=(sY r ak l lv,σ)∧(l≠[]→lv=sl 1 nh (iW r ak l l.length)):=by
  unfold Fa
  have K1:=uv (b:=aO.map []) (Ax (B:=aY) σ) trivial
  have K2:=uv (b:=aO.map []) K1 trivial
  have K3:=uv (b:=aO.box [.om σ.length,.aB,.om (σ++[aO.map []]).length]) K2 trivial
  rw[show A.cells 2 (.agg (bh r))=some (bh r)from rfl,bS,show((((A.cell (U.om σ.length)).bind fun v=>some [v]).bind fun c2=>(A.splice 0 c2 [U.nm,U.aB,U.nm]).bind fun c3=>((A.cell (U.om (σ++[aO.map []]).length)).bind fun v=>some [v]).bind fun c4=>(A.splice 2 c4 c3).bind fun c5=>some c5).bind fun cs=>some (U.agg cs))=some (.agg [.om σ.length,.aB,.om (σ++[aO.map []]).length])from rfl,bS,show A.cells 3 (.agg [.om σ.length,.aB,.om (σ++[aO.map []]).length])=some [.om σ.length,.aB,.om (σ++[aO.map []]).length]from rfl,bS,show A.aq 1 (bh r)=some (sl 4 bX r.units)from rfl,bS,dU,bS]
  refine rB (YB (gid:=σ.length) (cH:=(σ++[aO.map []]).length) hr cR (hs_eq (by show _=blk ((σ++[aO.map []])++[aO.map []]).length _*(blk σ.length (.map [])*(blk (σ++[aO.map []]).length (.map [])*(emp*emp)));simp only[Jz];ac_rfl) K3)) ?_
  rintro q ⟨w,s',es,rfl,K4⟩
  simp only[u9,List.getD_cons_zero,List.getD_cons_succ]
  rw[dU,bS]
  refine rB (ZH hr hp hz K4) ?_
  rintro q ⟨w,s',hL,rfl,K5⟩
  simp only[u9]
  obtain⟨gb1,Tp⟩:=iF K5
  have K6:=iV K5
  obtain⟨lv,f1,f2⟩:=abD (n:=σ.length) (Nat.le_refl _) 5 K6
  obtain⟨gg1,gg2⟩:=iF (iV K6)
  obtain⟨gs1,gs2⟩:=iF (iV (iV K6))
  have f3:=Sz (n:=σ.length) (Nat.le_refl _) 5 (iV (iV (iV K6)))
  refine⟨_,?_,lv,rfl,fun hne=>f2 (fun q=>?_)⟩
  ·refine F8 K5 ?_ (fun e=>?_)
   ·simp only[A.bn,if_neg (show ¬((σ++[aO.map []])++[aO.map []]).length<σ.length by simp),Tp,List.drop_zero,A.oc,if_neg (show ¬σ.length<σ.length by omega),gg2,PF,Option.map_some,Option.bind_some,f1,if_neg (show ¬(σ++[aO.map []]).length<σ.length by simp),gs2,f3]
    rfl
   ·subst e
    have:=(List.getElem?_eq_some_iff.1 Tp).1
    simp at this;omega
  ·have:(iW r ak l l.length).length=0:=by rw[q];rfl
   unfold iW at this
   simp at this
   exact hne this
 obtain⟨b,h1,lv,rfl,h2⟩:=run
 refine⟨lv,wrap_eq rfl ?_ (jx _),h2⟩
 rw[Kc]
 exact h1
end
end
section
open HP
theorem I9 {f:az→Int} {k:az}:∀(ks:List az) (m:List (az×Int)),bA k (ks.foldl (fun m j=>eo j (f j) m) m)=if k∈ks then some (f k)else bA k m
 |[],m=>by simp
 |j::ks,m=>by
  rw[List.foldl_cons,I9 ks,Jb]
  by_cases h1:k∈ks
  ·simp [h1]
  ·by_cases h2:k=j
   ·subst h2;simp [h1]
   ·simp [h1,h2]
theorem Zi {r:aV} (h:cN r=0) (ak:List bJ) (l:List aG) (i:Nat) (k:az):(bA k (iX (ef r ak l i))).getD 0=nH (ef r ak l i) k:=by
 unfold ef iX
 rw[Gd h,List.foldl_map,I9]
 by_cases hk:k∈ig r
 ·rw[if_pos hk,IY hk];rfl
 ·rw[if_neg hk,N0 hk];rfl
theorem PI {r:aV} (h:cN r=0):∀(us:List bE) (g:List (az×Int)),(∀u∈us,u∈r.units)→us.foldl (fun g u=>kO u (lY r u) g) g=(us.flatMap (iU r.bp)).foldl (fun m j=>eo j (fP r j) m) g
 |[],g,_=>rfl
 |u::us,g,hu=>by
  rw[List.foldl_cons,List.flatMap_cons,List.foldl_append,PI h us _ fun v hv=>hu v (by simp [hv])]
  congr 1
  unfold kO iU
  rw[List.foldl_map]
  have key:∀(ps:List eu) (g:List (az×Int)),(∀x∈ps,x∈(dD u.profile r.bp).1.params)→ps.foldl (fun g x=>eo (pK u x) x.group g) g=ps.foldl (fun g x=>eo (⟨u.number,x.name⟩:az) (fP r ⟨u.number,x.name⟩) g) g:=by
   intro ps
   induction ps with
   |nil=>intro g _;rfl
   |cons x ps ih=>
    intro g hx
    rw[List.foldl_cons,List.foldl_cons,ih _ fun y hy=>hx y (by simp [hy])]
    congr 1
    unfold fP
    rw[IL h (hu u (by simp)) (hx x (by simp))]
    rfl
  exact key _ g fun x hx=>hx
theorem Zb {r:aV} {k:az} (h:(ko r k).2=false):fP r k=0:=by
 unfold fP
 unfold ko at h ⊢
 cases hf:r.units.find? fun u=>decide (u.number=k.unit)with
 |none=>rfl
 |some u=>
  rw[hf,Option.elim_some]at h
  rw[Option.elim_some]
  unfold oW at h ⊢
  cases hq:(dD u.profile r.bp).1.params.find? fun x=>decide (x.name=k.param)with
  |none=>rfl
  |some x=>rw[hq]at h;simp at h
theorem Za {r:aV} (h:cN r=0) (k:az):(bA k (oo r r.units)).getD 0=fP r k:=by
 unfold oo
 rw[PI h r.units [] fun u hu=>hu,show r.units.flatMap (iU r.bp)=ig r from rfl,I9]
 by_cases hk:k∈ig r
 ·rw[if_pos hk];rfl
 ·rw[if_neg hk]
  have:=Jm h k
  rw[decide_eq_false hk]at this
  rw[Zb this];rfl
theorem Fe {κ ν:Type} [DecidableEq κ] {k:κ}:∀(a b:List (κ×ν)),bA k (a++b)=(bA k a).or (bA k b)
 |[],b=>by simp [bA]
 |(x,v)::a,b=>by
  rw[List.cons_append,bA,bA]
  by_cases e:k=x
  ·rw[if_pos e,if_pos e];rfl
  ·rw[if_neg e,if_neg e,Fe a b]
theorem Q7 (r:aV) {u:bE}:∀(us:List bE) (S:List (Int×List az)),(us.map (·.number)).Pairwise (·<·)→bA u.number S=none→u∈us→bA u.number (us.foldl (fun S u=>rN u (lY r u) S) S)=if dW u (lY r u)=[]then none else some (dW u (lY r u))
 |[],S,_,_,hu=>by simp at hu
 |v::us,S,hp,hS,hu=>by
  have hp':=List.pairwise_cons.1 (by simpa using hp:(v.number::us.map (·.number)).Pairwise (·<·))
  have adA:∀(us:List bE) (S:List (Int×List az)),(∀w∈us,w.number≠u.number)→bA u.number (us.foldl (fun S u=>rN u (lY r u) S) S)=bA u.number S:=by
   intro us
   induction us with
   |nil=>intro S _;rfl
   |cons w us ih=>
    intro S hw
    rw[List.foldl_cons,ih _ fun z hz=>hw z (by simp [hz])]
    unfold rN
    split
    ·rfl
    ·rw[Fe]
     have:bA u.number [(w.number,dW w (lY r w))]=none:=by
      simp only[bA];rw[if_neg (fun e=>hw w (by simp) e.symm)]
     rw[this];cases bA u.number S<;>rfl
  rw[List.foldl_cons]
  by_cases e:u=v
  ·subst e
   rw[adA us _ fun w hw e=>by
    have:=hp'.1 w.number (List.mem_map.2 ⟨w,hw,rfl⟩)
    omega]
   unfold rN
   split
   ·exact hS
   ·rw[Fe,hS];simp [bA]
  ·have TU:u∈us:=by
    simp only[List.mem_cons]at hu
    exact hu.resolve_left e
   refine Q7 r us _ hp'.2 ?_ TU
   have hlt:=hp'.1 u.number (List.mem_map.2 ⟨u,TU,rfl⟩)
   unfold rN
   split
   ·exact hS
   ·rw[Fe,hS]
    simp only[bA,Option.none_or]
    rw[if_neg (by omega)]
theorem YF {r:aV} (h:cN r=0) {u:bE} (hu:u∈r.units):kL r u.number=dW u (lY r u):=by
 unfold kL ig
 rw[List.filter_flatMap]
 have one:(iU r.bp u).filter (fun k=>decide (k.unit=u.number)&&decide (fP r k=1))=dW u (lY r u):=by
  unfold iU dW lY
  rw[List.filter_map]
  have:(dD u.profile r.bp).1.params.filter ((fun k=>decide (k.unit=u.number)&&decide (fP r k=1))∘fun x=>(⟨u.number,x.name⟩:az))=(dD u.profile r.bp).1.params.filter fun x=>decide (x.group=1):=by
   refine List.filter_congr fun x hx=>?_
   simp only[Function.comp,decide_true,Bool.true_and]
   unfold fP
   rw[IL h hu hx]
  rw[this];rfl
 have other:∀v∈r.units,v≠u→(iU r.bp v).filter (fun k=>decide (k.unit=u.number)&&decide (fP r k=1))=[]:=by
  intro v hv hne
  rw[List.filter_eq_nil_iff]
  intro k hk q
  obtain⟨x,_,rfl⟩:=List.mem_map.1 hk
  simp only[Bool.and_eq_true,decide_eq_true_eq]at q
  exact hne (O9 (xL h) hv hu q.1)
 have key:∀(us:List bE),(us.map (·.number)).Pairwise (·<·)→(∀v∈us,v∈r.units)→us.flatMap (fun v=>(iU r.bp v).filter fun k=>decide (k.unit=u.number)&&decide (fP r k=1))=if u∈us then dW u (lY r u)else[]:=by
  intro us
  induction us with
  |nil=>intro _ _;simp
  |cons v us ih=>
   intro hp hm
   have hp':=List.pairwise_cons.1 (by simpa using hp:(v.number::us.map (·.number)).Pairwise (·<·))
   rw[List.flatMap_cons,ih hp'.2 fun w hw=>hm w (by simp [hw])]
   by_cases e:v=u
   ·subst e
    have hnot:¬v∈us:=fun q=>by
     have:=hp'.1 v.number (List.mem_map.2 ⟨v,q,rfl⟩)
     omega
    rw[one,if_neg hnot,if_pos (by simp),List.append_nil]
   ·rw[other v (hm v (by simp)) e,List.nil_append]
    have:(u∈v::us)↔u∈us:=by
     simp only[List.mem_cons]
     exact⟨fun q=>q.resolve_left fun q=>e q.symm,.inr⟩
    simp only[this]
 rw[key r.units (xL h) fun v hv=>hv,if_pos hu]
theorem acz {r:aV} (h:cN r=0) {u:bE} (hu:u∈r.units):bA u.number (kH r r.units)=if kL r u.number=[]then none else some (kL r u.number):=by
 rw[YF h hu]
 exact Q7 r r.units [] (xL h) rfl hu
end
section
open HP
section
variable {r : aV} {ak : List bJ} {l : List aG} (hr : gK r) (hz : gJ r ak l = 0) (hne : l ≠ [])
def cr (r:aV) (ak:List bJ) (l:List aG):U:=sY r ak l (sl 1 nh (iW r ak l l.length))
theorem Zn {i:Nat} (hi:i<l.length):(iW r ak l l.length)[i]? =some (iX (ef r ak l i)):=by
 unfold iW
 rw[List.getElem?_map,List.getElem?_range hi];rfl
theorem Cn:A.eT (cr r ak l)=some (cr r ak l):=rfl
theorem abT:A.bD 0 (cr r ak l)=some (.rp [.fm (fC (oo r r.units)),sl 1 nh (iW r ak l l.length),.fm (rG (kH r r.units))]):=rfl
theorem Ki:A.bD 1 (cr r ak l)=some (.rp [sl 1 nh (iW r ak l l.length),.fm (rG (kH r r.units))]):=rfl
theorem abU:A.bD 2 (cr r ak l)=some (.rp [.fm (rG (kH r r.units))]):=rfl
theorem acA (a b:U):A.aq 0 [.fm (fC (oo r r.units)),a,b]=some (.fm (fC (oo r r.units))):=rfl
theorem Kz (b:U):A.aq 0 [sl 1 nh (iW r ak l l.length),b]=some (sl 1 nh (iW r ak l l.length)):=rfl
theorem acB:A.aq 0 [.fm (rG (kH r r.units))]=some (.fm (rG (kH r r.units))):=rfl
theorem Jn (cR:cN r=0) (i:Nat) (k:az) (σ:Heap):A.look (.s [0,2]) (.fm (fC (iX (ef r ak l i)))) (.agg (aH k)) (.int .i64 0) σ=some (.int .i64 (nH (ef r ak l i) k)):=by
 have:=Jj (σ:=σ) (eK:=eK) (eV:=eN) (l:=iX (ef r ak l i)) Gk k 0 rfl
 rw[Zi cR ak l i k]at this
 exact this
theorem Zj (cR:cN r=0) (k:az) (σ:Heap):A.look (.s [0,2]) (.fm (fC (oo r r.units))) (.agg (aH k)) (.int .i64 0) σ=some (.int .i64 (fP r k)):=by
 have:=Jj (σ:=σ) (eK:=eK) (eV:=eN) (l:=oo r r.units) Gk k 0 rfl
 rw[Za cR k]at this
 exact this
theorem aav (cR:cN r=0) {u:bE} (hu:u∈r.units) (σ:Heap):A.look .i (.fm (rG (kH r r.units))) (.int .i64 u.number) .aB σ=some (if kL r u.number=[]then .aB else sl 2 aH (kL r u.number)):=by
 have h1:A.find .i (eN u.number) (rG (kH r r.units))=some ((bA u.number (kH r r.units)).map fun ks=>sl 2 aH ks):=Aw (eV:=fun ks:List az=>sl 2 aH ks) uZ u.number (kH r r.units)
 have h2:A.find .i (.int .i64 u.number) (rG (kH r r.units))=some ((bA u.number (kH r r.units)).map fun ks=>sl 2 aH ks):=h1
 simp only[A.look,show A.gj .i (.int .i64 u.number)=true from rfl,cond_true,A.entries,bS,h2,Option.map_some]
 rw[acz cR hu]
 by_cases e:kL r u.number=[]
 ·rw[if_pos e,if_pos e];rfl
 ·rw[if_neg e,if_neg e];rfl
theorem J9 (cR:cN r=0) {i:Nat} (hi:i<l.length):A.aU 1 (sl 1 nh (iW r ak l l.length)) (.int .i64 (i:Int))=some (.rp (nh (iX (ef r ak l i)))):=fW (Zn hi)
theorem YE (cR:cN r=0) (u:Int):(kL r u).length≤16000:=by
 unfold kL
 exact Nat.le_trans (List.length_filter_le _ _) (Fu cR)
include hz
theorem Y2 {i:Nat} (hi:i<l.length) (k:az) (σ:Heap):qg [.agg (aH k),.rp [cr r ak l],.rp [.int .i64 (i:Int)]] σ=some (.bool (decide (0<nH (ef r ak l i) k)),σ):=by
 have cR:=(kJ hz).1
 refine wrap_eq (v:=.bool (decide (0<nH (ef r ak l i) k))) rfl ?_ (jx _)
 rw[show A.bI [] [.agg (aH k),.rp [cr r ak l],.rp [.int .i64 (i:Int)]]=[.agg (aH k),.rp [cr r ak l],.rp [.int .i64 (i:Int)]]from by simp [A.bI]]
 show Hz _ _ _ σ=_
 unfold Hz
 rw[show A.cells 2 (.agg (aH k))=some (aH k)from rfl,bS,gb,bS,show A.aq 0 [cr r ak l]=some (cr r ak l)from rfl,bS,Cn,bS,Ki,bS,gb,bS,Kz,bS,gb,bS,show A.aq 0 [.int .i64 (i:Int)]=some (.int .i64 (i:Int))from rfl,bS,J9 cR hi,bS,gb,bS,show A.aq 0 (nh (iX (ef r ak l i)))=some (.fm (fC (iX (ef r ak l i))))from rfl,bS,show A.aD 0 2 (aH k)=some (.agg (aH k))from rfl,bS,Jn cR,bS,AJ,bS]
 exact cV _ _
theorem J3 {i:Nat} (hi:i<l.length) {u:bE} (hu:u∈r.units) (σ:Heap):oN [cr r ak l,.int .i64 u.number,.int .i64 (i:Int)] σ=some (.bool (cM r ak l i u.number),σ):=by
 have cR:=(kJ hz).1
 refine wrap_eq (v:=.bool (cM r ak l i u.number)) rfl ?_ (jx _)
 rw[show A.bI [] [cr r ak l,.int .i64 u.number,.int .i64 (i:Int)]=[cr r ak l,.int .i64 u.number,.int .i64 (i:Int)]from by simp [A.bI]]
 show Em _ _ _ σ=_
 unfold Em
 have hd:∀x∈kL r u.number,(A.tab (fun _ _=>none) [(229,qg),(229,qg)]) 229 ((.agg (aH x):U)::[.rp [cr r ak l],.rp [.int .i64 (i:Int)]]) σ=some (.bool (decide (0<nH (ef r ak l i) x)),σ):=fun x _=>Y2 hz hi x σ
 have LX:=Ul (A.tab (fun _ _=>none) [(229,qg),(229,qg)]) (kL r u.number) (by have:=YE (r:=r) cR u.number;unfold br;omega) 229 [.rp [cr r ak l],.rp [.int .i64 (i:Int)]] (fun k=>decide (0<nH (ef r ak l i) k)) σ hd
 rw[show(((A.cell (cr r ak l)).bind fun v=>some [v]).bind fun cs=>some (U.rp cs))=some (.rp [cr r ak l])from rfl,bS,show(((A.cell (.int .i64 (i:Int))).bind fun v=>some [v]).bind fun cs=>some (U.rp cs))=some (.rp [.int .i64 (i:Int)])from rfl,bS,gb,bS,show A.aq 0 [cr r ak l]=some (cr r ak l)from rfl,bS,Cn,bS,abU,bS,gb,bS,acB,bS,aav cR hu,bS]
 unfold cM Kk
 by_cases e:kL r u.number=[]
 ·rw[if_pos e,show A.bf .aB=some (.int .i64 0)from rfl,bS,AJ,bS,decide_eq_false (by omega)]
  simp only[GO,bS,DB]
  rw[e]
  exact cV _ _
 ·rw[if_neg e,dU,bS,AJ,bS,decide_eq_true (by have:=List.length_pos_iff.2 e;omega)]
  simp only[gT,bS]
  rw[quiet_of LX,bS,show A.not (.bool ((kL r u.number).any fun k=>decide (0<nH (ef r ak l i) k)))=some (.bool (!(kL r u.number).any fun k=>decide (0<nH (ef r ak l i) k)))from rfl,bS]
  simp only[DC,bS]
  rw[cV]
  have:(kL r u.number).isEmpty=false:=by cases hq:kL r u.number<;>simp_all
  rw[this];rfl
include hr
theorem Rb {c:aG} (hc:c.aL.length≤900000) (u:Int):KS nD [cr r ak l,.agg (aQ c),.int .i64 u] aK 8 (ij r c u):=by
 have cR:=(kJ hz).1
 intro au σ R H
 have run:∃q:U×Heap,Ek (cr r ak l) (.agg (aQ c)) (.int .i64 u) σ=some q∧Hs tK au q.2 (Sl (fl aK) 8 q.1 (ij r c u)*R):=by
  unfold Ek ij
  rw[show A.cells 11 (.agg (aQ c))=some (aQ c)from rfl,bS,show A.aq 10 (aQ c)=some (sl 8 aK c.aL)from rfl,bS,dU,bS]
  refine rB (Q:=fun q=>∃h w,q.1=.exit 0∧q.2.1=[h,w]∧Hs tK au q.2.2 (Sl (fl aK) 8 h (c.aL.filter fun m=>decide (m.key.unit=u)&&decide (¬(fP r m.key=1)))*R)) (sQ c.aL (fun i v s=>∃h,v=[h,.int .i64 (i:Int)]∧Hs tK au s (Sl (fl aK) 8 h ((c.aL.take i).filter fun m=>decide (m.key.unit=u)&&decide (¬(fP r m.key=1)))*R)) ?_ ?_ ⟨.aB,rfl,qP H (.inl rfl)⟩) ?_
  ·rintro i m w s hx ⟨h,rfl,K⟩
   have hi:=(List.getElem?_eq_some_iff.1 hx).1
   simp only[List.getD_cons_zero,List.getD_cons_succ]
   rw[iq hx,bS,iG,fW hx,bS,gb,bS,show A.aD 0 8 (aK m)=some (.agg (aK m))from rfl,bS,show A.cells 8 (.agg (aK m))=some (aK m)from rfl,bS,xX m _ rfl,bS,show A.aq 0 (aK m)=some (.int .i64 m.key.unit)from rfl,bS,oB,bS]
   have Ko:∀(K:U→Option LS),((A.guard (.bool (decide (m.key.unit=u))) true (some (cr r ak l)) ay).bind fun dR=>
    (A.guard (.bool (decide (m.key.unit=u))) true (A.eT dR) ay).bind fun bM=>
    (A.guard (.bool (decide (m.key.unit=u))) true (A.bD 0 bM) ay).bind fun dI=>
    (A.guard (.bool (decide (m.key.unit=u))) true ((A.deref dI s).bind fun eP=>A.aq 0 eP) ay).bind fun dw=>
    (A.guard (.bool (decide (m.key.unit=u))) true (A.aD 0 2 (aK m)) ay).bind fun dJ=>
    (A.guard (.bool (decide (m.key.unit=u))) true (A.look (.s [0,2]) dw dJ aj s) ay).bind fun bC=>
    (A.guard (.bool (decide (m.key.unit=u))) true (A.neq .i bC aR) ay).bind fun bT=>
    (A.pick (.bool (decide (m.key.unit=u))) bT aP).bind K)=K (.bool (decide (m.key.unit=u)&&decide (¬(fP r m.key=1)))):=by
    intro K
    cases decide (m.key.unit=u)
    ·simp only[GO,DB,bS,Bool.false_and]
    ·simp only[gT,bS]
     rw[Cn,bS,abT,bS,gb,bS,acA,bS,show A.aD 0 2 (aK m)=some (.agg (aH m.key))from rfl,bS,Zj cR,bS,iM]
     simp only[bS,DC,Bool.true_and]
   rw[Ko]
   have e:(c.aL.take (i+1)).filter (fun m=>decide (m.key.unit=u)&&decide (¬(fP r m.key=1)))=(c.aL.take i).filter (fun m=>decide (m.key.unit=u)&&decide (¬(fP r m.key=1)))++if(decide (m.key.unit=u)&&decide (¬(fP r m.key=1)))=true then[m]else[]:=by
    rw[List.take_add_one,hx,Option.toList_some,List.filter_append,List.filter_cons,List.filter_nil]
   cases hh:(decide (m.key.unit=u)&&decide (¬(fP r m.key=1)))
   ·rw[hh]at e
    rw[ga,bS]
    simp only[List.getD_cons_zero,List.getD_cons_succ]
    rw[fZ hx (by unfold br;omega),bS]
    refine⟨_,_,rfl,h,rfl,?_⟩
    rw[e]
    simpa using K
   ·rw[hh]at e
    rw[iG,show A.aD 0 8 (aK m)=some (.agg (aK m))from rfl,bS,P5,bS]
    have hfl:=List.length_filter_le (fun m:aM=>decide (m.key.unit=u)&&decide (¬(fP r m.key=1))) (c.aL.take i)
    obtain⟨h',s',e1,K2⟩:=acF m (by rw[List.length_take]at hfl;omega) (Z8 W0 [m]) K
    rw[e1,bS,bS]
    simp only[List.getD_cons_zero,List.getD_cons_succ]
    rw[fZ hx (by unfold br;omega),bS]
    refine⟨_,_,rfl,h',rfl,?_⟩
    rw[e,if_pos rfl]
    exact K2
  ·rintro w s ⟨h,rfl,K⟩
   simp only[List.getD_cons_zero,List.getD_cons_succ]
   rw[ia,bS,ga]
   refine⟨_,rfl,by simp,h,_,rfl,rfl,?_⟩
   rw[List.take_length]at K;exact K
  ·rintro⟨e,w,s⟩ ⟨h,w',h1,h2,K⟩
   simp only at h1 h2 K
   subst h1;subst h2
   exact⟨_,rfl,K⟩
 obtain⟨⟨v,σ'⟩,h1,h2⟩:=run
 refine⟨v,σ',wrap_eq rfl ?_ (jx _),h2⟩
 rw[show A.bI [.k,(.a iy)] [cr r ak l,.agg (aQ c),.int .i64 u]=[cr r ak l,.agg (aQ c),.int .i64 u]from bU (jx _) (bU (tE rfl) rfl)]
 exact h1
end
theorem J6 (r:aV) (ak:List bJ) (l:List aG):Fz (cr r ak l):=
 Sj (cz (Km fun p hp=>by obtain⟨q,_,rfl⟩:=List.mem_map.1 hp;exact⟨rz (uq _),dZ _ _⟩)
  (cz (yp (fun m=>cz (Km fun p hp=>by obtain⟨q,_,rfl⟩:=List.mem_map.1 hp;exact⟨rz (uq _),dZ _ _⟩) nE) _)
  (cz (Km fun p hp=>by obtain⟨q,_,rfl⟩:=List.mem_map.1 hp;exact⟨dZ _ _,yp uq _⟩) nE)))
theorem YI {r:aV} {ak:List bJ} {l:List aG} (hr:gK r) (hz:gJ r ak l=0) {c:aG} (hc:c.aL.length≤900000) (u:Int) (σ:Heap):A.quiet ((A.ku (.s 8) nD) [cr r ak l,.agg (aQ c),.int .i64 u] σ) σ=some (sl 8 aK (ij r c u)):=
 quiet_of (PM (σ:=σ) BW (bL:=[.k,(.a iy)]) (uS:=[cr r ak l,.agg (aQ c),.int .i64 u]) (ts:=[cr r ak l,.agg (aQ c),.int .i64 u]) ⟨Cu (J6 r ak l) rfl,Cu (rz (aac _)) rfl,Ka _,trivial⟩ (Rb hr hz hc u))
end
section
open HP
theorem acY {B:aO→Prop} {au σ:Heap} {R:HP} {id:Nat} {cs:List U} (H:Hs B au σ (blk id (.box cs)*R)) (hz:gu cs) {bL:List Sh} {cC:Sh} {r:List U→Heap→Option (U×Heap)} {x y v:U} (hx:Fz x) (Dw:A.own x=false) (hy:Fz y) (hyo:A.own y=false) (hs:A.tF v=true) (e:A.wrap true bL cC r [x,y,.rp cs] []=some (v,[])) (TI:A.own (.rp cs)=false:=by rfl):A.wrap true bL cC r [x,y,.op id 0] σ=some (v,σ):=by
 have h3:=(iF H).2
 refine B4 (args':=[x,y,.rp cs]) (by simp [A.own,A.rS]) ?_ (by rw[List.any_cons,List.any_cons,Dw,hyo,List.any_cons,TI];rfl) e hs
 have q:A.oc σ 0 7 cs=some cs:=by rw[Am];exact hz σ 0 7
 simp [A.dm,hx σ 0 8,hy σ 0 8,A.bn,h3,q]
section
variable {r : aV} {ak : List bJ} {l : List aG} (hr : gK r) (hz : gJ r ak l = 0)
include hz
theorem Yk {i:Nat} (hi:i+1<l.length) (m:aM) (σ:Heap):qd [.agg (aK m),.rp [cr r ak l],.rp [.int .i64 ((i+1:Nat):Int)]] σ=some (.bool (iA r ak l (i+1) m.key),σ):=by
 have cR:=(kJ hz).1
 have hlen:=(rq (kJ hz).2).len
 refine wrap_eq (v:=.bool (iA r ak l (i+1) m.key)) rfl ?_ (jx _)
 rw[show A.bI [] [.agg (aK m),.rp [cr r ak l],.rp [.int .i64 ((i+1:Nat):Int)]]=[.agg (aK m),.rp [cr r ak l],.rp [.int .i64 ((i+1:Nat):Int)]]from by simp [A.bI]]
 show Hw _ _ _ σ=_
 unfold Hw
 rw[show A.cells 8 (.agg (aK m))=some (aK m)from rfl,bS,gb,bS,show A.aq 0 [cr r ak l]=some (cr r ak l)from rfl,bS,Cn,bS,Ki,bS,gb,bS,Kz,bS,gb,bS,show A.aq 0 [.int .i64 ((i+1:Nat):Int)]=some (.int .i64 ((i+1:Nat):Int))from rfl,bS,J9 cR hi,bS,gb,bS,show A.aq 0 (nh (iX (ef r ak l (i+1))))=some (.fm (fC (iX (ef r ak l (i+1)))))from rfl,bS,show A.aD 0 2 (aK m)=some (.agg (aH m.key))from rfl,bS,Jn cR,bS]
 simp only[bS]
 rw[Cn,bS,Ki,bS,gb,bS,Kz,bS,wG,bS,wrap64 (by unfold aS;omega),show(((i+1:Nat):Int) -1)=(i:Int) by omega,J9 cR (show i<l.length by omega),bS,gb,bS,show A.aq 0 (nh (iX (ef r ak l i)))=some (.fm (fC (iX (ef r ak l i))))from rfl,bS,Jn cR,bS,iM,bS,cV]
 unfold iA
 rw[show i+1-1=i by omega]
 congr 3
 exact decide_eq_decide.2 ⟨fun h q=>h q.symm,fun h q=>h q.symm⟩
omit hz
theorem ab0 {β:Type} (u:bE) (n:U) (dz:Heap) (K:U→Option β):
 ((A.guard aP true ((A.deref (U.rp [cr r ak l]) dz).bind fun pQ=>A.aq 0 pQ) ay).bind fun jk=>
           (A.guard aP true (some (U.int .i64 u.number)) ay).bind fun gE=>
           (A.guard aP true (some n) ay).bind fun gG=>
           (A.guard aP true (A.sub gG aR) ay).bind fun ff=>
           (A.guard aP true (A.quiet (oN [jk,gE,ff] dz) dz) ay).bind fun iP=>
           (A.pick aP iP aP).bind K)=K (.bool false):=by
 simp only[GO,DB,bS]
theorem Si {β:Type} (u:bE) (n:U) (dz:Heap) (K:U→Option β):
 ((A.guard aP true ((A.deref (U.rp [cr r ak l]) dz).bind fun mw=>A.aq 0 mw) ay).bind fun gH=>
           (A.guard aP true (some (sl 11 aQ l)) ay).bind fun jl=>
           (A.guard aP true (some n) ay).bind fun fV=>
           (A.guard aP true (A.aU 11 jl fV) ay).bind fun p9=>
           (A.guard aP true ((A.deref p9 dz).bind fun pR=>A.aD 0 11 pR) ay).bind fun jm=>
           (A.guard aP true (some (U.int .i64 u.number)) ay).bind fun mG=>
           (A.guard aP true (A.quiet ((A.ku (.s 8) nD) [gH,jm,mG] dz) dz) ay).bind fun jo=>
           (A.guard aP true (A.bf jo) ay).bind fun iR=>
           (A.guard aP true (A.eql .i iR aj) ay).bind fun jS=>
           (A.pick aP jS aP).bind K)=K (.bool false):=by
 simp only[GO,DB,bS]
include hz
theorem ab1 {β:Type} {u:bE} (hu:u∈r.units) {j:Nat} (hj:j<l.length) (dz:Heap) (K:U→Option β):
 ((A.guard cq true ((A.deref (U.rp [cr r ak l]) dz).bind fun pQ=>A.aq 0 pQ) ay).bind fun jk=>
           (A.guard cq true (some (U.int .i64 u.number)) ay).bind fun gE=>
           (A.guard cq true (some (U.int .i64 ((j+1:Nat):Int))) ay).bind fun gG=>
           (A.guard cq true (A.sub gG aR) ay).bind fun ff=>
           (A.guard cq true (A.quiet (oN [jk,gE,ff] dz) dz) ay).bind fun iP=>
           (A.pick cq iP aP).bind K)=K (.bool (cM r ak l j u.number)):=by
 have hlen:=(rq (kJ hz).2).len
 simp only[gT,bS]
 rw[gb,bS,show A.aq 0 [cr r ak l]=some (cr r ak l)from rfl,bS,wG,bS,wrap64 (by unfold aS;omega),show(((j+1:Nat):Int) -1)=(j:Int) by omega,quiet_of (J3 hz hj hu dz),bS]
 simp only[DC,bS]
include hr
theorem T6 {i:Nat} {c:aG} (hc:l[i]? =some c) (u:Int) (σ:Heap):A.quiet ((A.ku (.s 8) nD) [cr r ak l,.agg (aQ c),.int .i64 u] σ) σ=some (sl 8 aK (dQ r l i u)):=by
 have hg:=rq (kJ hz).2
 have:=(hg.mv c (List.mem_of_getElem? hc)).1
 rw[YI hr hz (by omega) u σ]
 unfold dQ
 rw[hc]
theorem ab2 {β:Type} (u:bE) {j:Nat} {c:aG} (hc:l[j]? =some c) (dz:Heap) (K:U→Option β):
 ((A.guard cq true ((A.deref (U.rp [cr r ak l]) dz).bind fun mw=>A.aq 0 mw) ay).bind fun gH=>
           (A.guard cq true (some (sl 11 aQ l)) ay).bind fun jl=>
           (A.guard cq true (some (U.int .i64 (j:Int))) ay).bind fun fV=>
           (A.guard cq true (A.aU 11 jl fV) ay).bind fun p9=>
           (A.guard cq true ((A.deref p9 dz).bind fun pR=>A.aD 0 11 pR) ay).bind fun jm=>
           (A.guard cq true (some (U.int .i64 u.number)) ay).bind fun mG=>
           (A.guard cq true (A.quiet ((A.ku (.s 8) nD) [gH,jm,mG] dz) dz) ay).bind fun jo=>
           (A.guard cq true (A.bf jo) ay).bind fun iR=>
           (A.guard cq true (A.eql .i iR aj) ay).bind fun jS=>
           (A.pick cq jS aP).bind K)=K (.bool (dQ r l j u.number).isEmpty):=by
 simp only[gT,bS]
 rw[gb,bS,show A.aq 0 [cr r ak l]=some (cr r ak l)from rfl,bS,fW hc,bS,gb,bS,xZ,bS,T6 hr hz hc u.number,bS,dU,bS,oB,bS]
 simp only[DC,bS]
 congr 2
 cases dQ r l j u.number
 ·simp
 ·simp;omega
theorem X6 {u:bE} (hu:u∈r.units) {n:Nat} (hn:n<l.length) (w0:U) (s:Heap):
 ∃q,A.loop (fun v55 dz=>
           (A.gtr (v55.getD 1 U.undef) aj).bind fun eF=>
           (A.guard eF true ((A.deref (U.rp [cr r ak l]) dz).bind fun pQ=>A.aq 0 pQ) ay).bind fun jk=>
           (A.guard eF true (some (U.int .i64 u.number)) ay).bind fun gE=>
           (A.guard eF true (some (v55.getD 1 U.undef)) ay).bind fun gG=>
           (A.guard eF true (A.sub gG aR) ay).bind fun ff=>
           (A.guard eF true (A.quiet (oN [jk,gE,ff] dz) dz) ay).bind fun iP=>
           (A.pick eF iP aP).bind fun dS=>
           (A.guard dS true ((A.deref (U.rp [cr r ak l]) dz).bind fun mw=>A.aq 0 mw) ay).bind fun gH=>
           (A.guard dS true (some (sl 11 aQ l)) ay).bind fun jl=>
           (A.guard dS true (some (v55.getD 1 U.undef)) ay).bind fun fV=>
           (A.guard dS true (A.aU 11 jl fV) ay).bind fun p9=>
           (A.guard dS true ((A.deref p9 dz).bind fun pR=>A.aD 0 11 pR) ay).bind fun jm=>
           (A.guard dS true (some (U.int .i64 u.number)) ay).bind fun mG=>
           (A.guard dS true (A.quiet ((A.ku (.s 8) nD) [gH,jm,mG] dz) dz) ay).bind fun jo=>
           (A.guard dS true (A.bf jo) ay).bind fun iR=>
           (A.guard dS true (A.eql .i iR aj) ay).bind fun jS=>
           (A.pick dS jS aP).bind fun qc=>
           A.cond qc (
            (A.sub (v55.getD 1 U.undef) aR).bind fun DR=>
            some (AX.normal,[(v55.getD 0 U.undef),DR],dz)) (
            some (AX.exit 4,[(v55.getD 0 U.undef),(v55.getD 1 U.undef)],dz))) [w0,.int .i64 (n:Int)] s=some q∧q=(.exit 4,[w0,.int .i64 (l8 (fun j=>cM r ak l j u.number) (fun j=>dQ r l j u.number) n:Nat)],s):=by
 have hlen:=(rq (kJ hz).2).len
 refine aaw (fun m v w=>v=[w0,.int .i64 (m:Int)]∧w=s∧m<l.length∧l8 (fun j=>cM r ak l j u.number) (fun j=>dQ r l j u.number) m=l8 (fun j=>cM r ak l j u.number) (fun j=>dQ r l j u.number) n) ?_ ⟨rfl,rfl,hn,rfl⟩
 rintro m v w ⟨rfl,rfl,hm,hF⟩
 simp only[List.getD_cons_zero,List.getD_cons_succ]
 rw[AJ,bS]
 cases m with
 |zero=>
  refine .inr ?_
  rw[decide_eq_false (by omega),ab0,Si,ga]
  exact⟨_,rfl,by simp,by rw[←hF];rfl⟩
 |succ j=>
  rw[decide_eq_true (by omega),ab1 hz hu (by omega)]
  rw[l8]at hF
  cases hd:cM r ak l j u.number
  ·refine .inr ?_
   rw[Si,ga]
   rw[hd,Bool.false_and,if_neg (by decide)]at hF
   exact⟨_,rfl,by simp,by rw[←hF]⟩
  ·rw[ab2 hr hz u (List.getElem?_eq_getElem hm)]
   rw[hd,Bool.true_and]at hF
   cases ht:(dQ r l (j+1) u.number).isEmpty
   ·refine .inr ?_
    rw[ht,if_neg (by decide)]at hF
    rw[ga]
    exact⟨_,rfl,by simp,by rw[←hF]⟩
   ·refine .inl ?_
    rw[ht,if_pos rfl]at hF
    rw[iG,wG,bS,wrap64 (by unfold aS;omega),show(((j+1:Nat):Int) -1)=(j:Int) by omega]
    exact⟨j,_,_,Nat.lt_succ_self j,rfl,rfl,rfl,by omega,hF⟩
theorem Z2 {β:Type} {u:bE} (hu:u∈r.units) {i:Nat} (hi:i+1<l.length) (fG:Heap) {Ta Tb:Option U} (h1:Ta=some (cr r ak l)) (h2:Tb=some (.int .i64 ((i+1:Nat):Int))) (K:U→Option β):
 ((A.guard (U.bool (!cM r ak l i u.number)) false Ta ay).bind fun x34=>
       (A.guard (U.bool (!cM r ak l i u.number)) false (some (U.int .i64 u.number)) ay).bind fun gR=>
       (A.guard (U.bool (!cM r ak l i u.number)) false Tb ay).bind fun dA=>
       (A.guard (U.bool (!cM r ak l i u.number)) false (A.quiet (oN [x34,gR,dA] fG) fG) ay).bind fun x38=>
       (A.pick (U.bool (!cM r ak l i u.number)) cq x38).bind K)=K (.bool (!cM r ak l i u.number||cM r ak l (i+1) u.number)):=by
 subst h1;subst h2
 cases cM r ak l i u.number
 ·simp only[Bool.not_false,gFx,DC,bS,Bool.true_or]
 ·simp only[Bool.not_true,gF,bS]
  rw[quiet_of (J3 hz hi hu fG),bS]
  simp only[DB,bS,Bool.false_or]
theorem abd {σ s:Heap} {o:U} {b i:Nat} (hi:i+1<l.length) {M:List kr} (hM:M.length≤200000) (K:Hs aY σ s (blk b (.box [.int .i64 ((i+1:Nat):Int)])*(Sl (fl fA) 3 o M*emp))):
 ∃ q, A.loop (fun bZ fG =>
      (A.lss (bZ.getD 2 U.undef) (U.int .i64 (r.units.length:Int))).bind fun dw=>
      A.cond dw (
       (A.aU 4 (sl 4 bX r.units) (bZ.getD 2 U.undef)).bind fun dJ=>
       ((A.deref dJ fG).bind fun gO=>A.aD 0 4 gO).bind fun bT=>
       (A.cells 4 bT).bind fun iY=>
       (A.splice 0 iY [aj,bw,aj,aj]).bind fun eB=>
       (A.aq 0 eB).bind fun x25=>
       ((A.deref (U.rp [cr r ak l]) fG).bind fun jO=>A.aq 0 jO).bind fun dK=>
       ((A.deref (U.op b 0) fG).bind fun nP=>A.aq 0 nP).bind fun x29=>
       (A.sub x29 aR).bind fun eM=>
       (oN [dK,x25,eM] fG).bind fun cZ=>
       (A.not cZ.1).bind fun x32=>
       (A.guard x32 false ((A.deref (U.rp [cr r ak l]) cZ.2).bind fun wW=>A.aq 0 wW) ay).bind fun x34=>
       (A.guard x32 false (some x25) ay).bind fun gR=>
       (A.guard x32 false ((A.deref (U.op b 0) cZ.2).bind fun kU=>A.aq 0 kU) ay).bind fun dA=>
       (A.guard x32 false (A.quiet (oN [x34,gR,dA] cZ.2) cZ.2) ay).bind fun x38=>
       (A.pick x32 cq x38).bind fun iC=>
       A.cond iC (
        (A.add (bZ.getD 2 U.undef) aR).bind fun eZ=>
        some (AX.normal,[(bZ.getD 0 U.undef),(bZ.getD 1 U.undef),eZ],cZ.2)) (
        ((A.deref (U.rp [cr r ak l]) cZ.2).bind fun mu=>A.aq 0 mu).bind fun gZ=>
        ((A.deref (U.op b 0) cZ.2).bind fun pP=>A.aq 0 pP).bind fun jR=>
        (A.aU 11 (sl 11 aQ l) jR).bind fun gU=>
        ((A.deref gU cZ.2).bind fun nQ=>A.aD 0 11 nQ).bind fun fI=>
        (A.quiet ((A.ku (.s 8) nD) [gZ,fI,x25] cZ.2) cZ.2).bind fun iE=>
        (A.quiet (Bm (A.tab (fun _ _=>none) [(234,qd),(234,qd)]) [iE,(U.fn 234 [(U.rp [cr r ak l]),(U.op b 0)])] cZ.2) cZ.2).bind fun i7=>
        (A.not i7).bind fun fL=>
        A.cond fL (
         (A.add (bZ.getD 2 U.undef) aR).bind fun eW=>
         some (AX.normal,[(bZ.getD 0 U.undef),(bZ.getD 1 U.undef),eW],cZ.2)) (
         ((A.deref (U.op b 0) cZ.2).bind fun yT=>A.aq 0 yT).bind fun nW=>
         (A.sub nW aR).bind fun gC=>
         (A.loop (fun v55 dz=>
           (A.gtr (v55.getD 1 U.undef) aj).bind fun eF=>
           (A.guard eF true ((A.deref (U.rp [cr r ak l]) dz).bind fun pQ=>A.aq 0 pQ) ay).bind fun jk=>
           (A.guard eF true (some x25) ay).bind fun gE=>
           (A.guard eF true (some (v55.getD 1 U.undef)) ay).bind fun gG=>
           (A.guard eF true (A.sub gG aR) ay).bind fun ff=>
           (A.guard eF true (A.quiet (oN [jk,gE,ff] dz) dz) ay).bind fun iP=>
           (A.pick eF iP aP).bind fun dS=>
           (A.guard dS true ((A.deref (U.rp [cr r ak l]) dz).bind fun mw=>A.aq 0 mw) ay).bind fun gH=>
           (A.guard dS true (some (sl 11 aQ l)) ay).bind fun jl=>
           (A.guard dS true (some (v55.getD 1 U.undef)) ay).bind fun fV=>
           (A.guard dS true (A.aU 11 jl fV) ay).bind fun p9=>
           (A.guard dS true ((A.deref p9 dz).bind fun pR=>A.aD 0 11 pR) ay).bind fun jm=>
           (A.guard dS true (some x25) ay).bind fun mG=>
           (A.guard dS true (A.quiet ((A.ku (.s 8) nD) [gH,jm,mG] dz) dz) ay).bind fun jo=>
           (A.guard dS true (A.bf jo) ay).bind fun iR=>
           (A.guard dS true (A.eql .i iR aj) ay).bind fun jS=>
           (A.pick dS jS aP).bind fun qc=>
           A.cond qc (
            (A.sub (v55.getD 1 U.undef) aR).bind fun DR=>
            some (AX.normal,[(v55.getD 0 U.undef),DR],dz)) (
            some (AX.exit 4,[(v55.getD 0 U.undef),(v55.getD 1 U.undef)],dz))) [(bZ.getD 0 U.undef),gC] cZ.2).bind fun nV=>
         bif nV.1==AX.exit 4 then(
          (A.aU 11 (sl 11 aQ l) (nV.2.1.getD 1 U.undef)).bind fun DS=>
          (A.bD 0 DS).bind fun DT=>
          ((A.deref DT nV.2.2).bind fun LC=>A.aq 0 LC).bind fun Mx=>
          ((A.deref (U.op b 0) nV.2.2).bind fun LD=>A.aq 0 LD).bind fun Mz=>
          (A.aU 11 (sl 11 aQ l) Mz).bind fun DU=>
          (A.bD 0 DU).bind fun MA=>
          ((A.deref MA nV.2.2).bind fun LF=>A.aq 0 LF).bind fun MB=>
          ((((A.cell x25).bind fun v=>some [v]).bind fun LG=>(A.splice 0 LG [aj,aj,aj]).bind fun uW=>((A.cell Mx).bind fun v=>some [v]).bind fun LH=>(A.splice 1 LH uW).bind fun LI=>((A.cell MB).bind fun v=>some [v]).bind fun LJ=>(A.splice 2 LJ LI).bind fun LK=>some LK).bind fun cs=>some (U.agg cs)).bind fun x96=>
          (((A.cells 3 x96).bind fun LL=>(A.splice 0 LL [aj,aj,aj]).bind fun LM=>some LM).bind fun cs=>some (U.sl 3 (chunks 3 1 cs))).bind fun x99=>
          (A.append 3 (140737488355328 / 24) (bZ.getD 1 U.undef) x99 nV.2.2).bind fun CR=>
          (A.add (bZ.getD 2 U.undef) aR).bind fun x101=>
          some (AX.normal,[(nV.2.1.getD 0 U.undef),CR.1,x101],CR.2))else
         none))) (
       some (AX.exit 2,[(bZ.getD 0 U.undef),(bZ.getD 1 U.undef),(bZ.getD 2 U.undef)],fG))) [.lbx (bh r),o,.int .i64 0] s=some q∧
  ∃o' w s',q=(.exit 2,[.lbx (bh r),o',w],s')∧Hs aY σ s' (blk b (.box [.int .i64 ((i+1:Nat):Int)])*(Sl (fl fA) 3 o' (M++r.units.flatMap (jv (cM r ak l) (dQ r l) (iA r ak l) l (i+1)))*emp)):=by
 have cR:=(kJ hz).1
 have hg:=rq (kJ hz).2
 have hlen:=hg.len
 have L7:=xO cR
 refine sQ r.units (fun j v s=>∃o,v=[.lbx (bh r),o,.int .i64 (j:Int)]∧Hs aY σ s (blk b (.box [.int .i64 ((i+1:Nat):Int)])*(Sl (fl fA) 3 o (M++(r.units.take j).flatMap (jv (cM r ak l) (dQ r l) (iA r ak l) l (i+1)))*emp))) ?_ ?_ ⟨o,rfl,by simpa using K⟩
 ·rintro j u v s hx ⟨o,rfl,K⟩
  have hj:=(List.getElem?_eq_some_iff.1 hx).1
  have hu:=List.mem_of_getElem? hx
  have db:A.deref (.op b 0) s=some [.int .i64 ((i+1:Nat):Int)]:=sU K 0
  simp only[List.getD_cons_zero,List.getD_cons_succ]
  rw[iq hx,bS,iG,fW hx,bS,gb,bS,kg,bS,kf,bS,kj u _ rfl,bS,show A.aq 0 (bX u)=some (.int .i64 u.number)from rfl,bS,gb,bS,show A.aq 0 [cr r ak l]=some (cr r ak l)from rfl,bS,db,bS,show A.aq 0 [.int .i64 ((i+1:Nat):Int)]=some (.int .i64 ((i+1:Nat):Int))from rfl,bS,wG,bS,wrap64 (by unfold aS;omega),show(((i+1:Nat):Int) -1)=(i:Int) by omega,J3 hz (show i<l.length by omega) hu s,bS]
  simp only
  rw[show A.not (.bool (cM r ak l i u.number))=some (.bool (!cM r ak l i u.number))from rfl,bS,Z2 hr hz hu hi s (by first|rfl|(rw[gb];rfl)) (by first|rfl|(rw[db];rfl))]
  have ab6:=X4 (f:=jv (cM r ak l) (dQ r l) (iA r ak l) l (i+1)) hx
  have hrl:=I1 (l:=l) (cM r ak l) (dQ r l) (iA r ak l) (i+1) (r.units.take j)
  have hone:∀{X:List kr},jv (cM r ak l) (dQ r l) (iA r ak l) l (i+1) u=X→(r.units.take (j+1)).flatMap (jv (cM r ak l) (dQ r l) (iA r ak l) l (i+1))=(r.units.take j).flatMap (jv (cM r ak l) (dQ r l) (iA r ak l) l (i+1))++X:=fun e=>by rw[ab6,e]
  cases hd:(!cM r ak l i u.number||cM r ak l (i+1) u.number)
  case true=>
   rw[iG,fZ hx (by unfold br;omega),bS]
   have:=hone (X:=[]) (by unfold jv;rw[show i+1-1=i by omega,hd,if_pos rfl])
   rw[List.append_nil]at this
   exact⟨_,_,rfl,o,rfl,by rw[this];exact K⟩
  have hc:l[i+1]? =some l[i+1]:=List.getElem?_eq_getElem hi
  generalize l[i+1]=c at hc
  have hcm:=(hg.mv c (List.mem_of_getElem? hc)).1
  have GW:(dQ r l (i+1) u.number).length≤100000:=by
   unfold dQ;rw[hc]
   have:=List.length_filter_le (fun m:aM=>decide (m.key.unit=u.number)&&decide (¬(fP r m.key=1))) c.aL
   unfold ij
   simp only
   omega
  have LX:=Uk (A.tab (fun _ _=>none) [(234,qd),(234,qd)]) (dQ r l (i+1) u.number) (by unfold br;omega) 234 [.rp [cr r ak l],.op b 0] (fun m=>iA r ak l (i+1) m.key) s
   (fun x _=>acY K (cz (dZ _ _) nE) (rz (BW _)) rfl (Sj (cz (J6 r ak l) nE)) rfl rfl (Yk hz hi x []))
  rw[ga,gb,bS,show A.aq 0 [cr r ak l]=some (cr r ak l)from rfl,bS,db,bS,show A.aq 0 [.int .i64 ((i+1:Nat):Int)]=some (.int .i64 ((i+1:Nat):Int))from rfl,bS,fW hc,bS,gb,bS,xZ,bS,T6 hr hz hc u.number,bS,quiet_of LX,bS,show A.not (.bool ((dQ r l (i+1) u.number).any fun m=>iA r ak l (i+1) m.key))=some (.bool (!((dQ r l (i+1) u.number).any fun m=>iA r ak l (i+1) m.key)))from rfl,bS]
  cases ha:(!((dQ r l (i+1) u.number).any fun m=>iA r ak l (i+1) m.key))
  case true=>
   rw[iG,fZ hx (by unfold br;omega),bS]
   have:=hone (X:=[]) (by unfold jv;rw[show i+1-1=i by omega,hd,if_neg (by decide),ha,if_pos rfl])
   rw[List.append_nil]at this
   exact⟨_,_,rfl,o,rfl,by rw[this];exact K⟩
  rw[ga,bS,wG,bS,wrap64 (by unfold aS;omega),show(((i+1:Nat):Int) -1)=(i:Int) by omega]
  refine Dz (rB (X6 hr hz hu (show i<l.length by omega) _ s) ?_)
  rintro q rfl
  simp only[u9,List.getD_cons_zero,List.getD_cons_succ]
  have hfl:l8 (fun j=>cM r ak l j u.number) (fun j=>dQ r l j u.number) i≤i:=Fq _ _ i
  have Kr:=hone (by unfold jv;rw[show i+1-1=i by omega,hd,if_neg (by decide),ha,if_neg (by decide)])
  generalize l8 (fun j=>cM r ak l j u.number) (fun j=>dQ r l j u.number) i=a at hfl Kr
  have hca:l[a]? =some l[a]:=List.getElem?_eq_getElem (by omega)
  generalize l[a]=ca at hca
  rw[hc,hca]at Kr
  rw[fW hca,bS,show A.bD 0 (.rp (aQ ca))=some (.rp (aQ ca))from rfl,bS,gb,bS,show A.aq 0 (aQ ca)=some (.int .i64 ca.number)from rfl,bS,db,bS,show A.aq 0 [.int .i64 ((i+1:Nat):Int)]=some (.int .i64 ((i+1:Nat):Int))from rfl,bS,fW hc,bS,show A.bD 0 (.rp (aQ c))=some (.rp (aQ c))from rfl,bS,gb,bS,show A.aq 0 (aQ c)=some (.int .i64 c.number)from rfl,bS,ZC,bS,Yv,bS]
  obtain⟨o',s',e3,K2⟩:=abY ⟨u.number,ca.number,c.number⟩ (by rw[List.length_append];rw[List.length_take]at hrl;omega) (hs_eq (show _=Sl (fl fA) 3 o (M++(r.units.take j).flatMap (jv (cM r ak l) (dQ r l) (iA r ak l) l (i+1)))*(blk b (.box [.int .i64 ((i+1:Nat):Int)])*emp) by ac_rfl) K)
  rw[e3,bS,fZ hx (by unfold br;omega),bS]
  refine⟨_,rfl,_,_,rfl,o',rfl,?_⟩
  rw[Kr,←List.append_assoc]
  exact hs_eq (by ac_rfl) K2
 ·rintro v s ⟨o,rfl,K⟩
  simp only[List.getD_cons_zero,List.getD_cons_succ]
  rw[ia,bS,ga]
  refine⟨_,rfl,by simp,o,_,_,rfl,?_⟩
  rw[List.take_length]at K
  exact K
theorem aay (lv:U) (hlv:l≠[]→lv=sl 1 nh (iW r ak l l.length)) (σ:Heap):Eg [sY r ak l lv,.agg (bh r),sl 11 aQ l] σ=some (sl 3 fA (lF r ak l),σ):=by
 have cR:=(kJ hz).1
 have hg:=rq (kJ hz).2
 have hlen:=hg.len
 have L7:=xO cR
 have run:∃b,Ej (sY r ak l lv) (.agg (bh r)) (sl 11 aQ l) σ=some b∧b.2=σ∧A.nn (.s 3) b.1=sl 3 fA (lF r ak l):=by
  unfold Ej
  have K0:=uv (b:=aO.box [aj]) (Ax (B:=aY) σ) trivial
  obtain⟨s1,e1,K1⟩:=Cg (o:=0) (new:=[U.int .i64 1]) (cs':=[U.int .i64 1]) K0 rfl
  rw[show(((A.cell (sY r ak l lv)).bind fun v=>some [v]).bind fun cs=>some (U.rp cs))=some (.rp [sY r ak l lv])from rfl,bS,show A.cells 2 (.agg (bh r))=some (bh r)from rfl,bS,show((A.cell aR).bind fun v=>some [v])=some [U.int .i64 1]from rfl,bS,e1,bS]
  refine rB (Q:=fun q=>∃o w,q.1=.exit 0∧q.2.1=[.lbx (bh r),o,w]∧Hs aY σ q.2.2 (Sl (fl fA) 3 o (lF r ak l)*emp)) (sQ (l.drop 1) (fun i v s=>∃o b,v=[.lbx (bh r),o,.op b 0]∧Hs aY σ s (blk b (.box [.int .i64 ((i+1:Nat):Int)])*(Sl (fl fA) 3 o (qj (cM r ak l) (dQ r l) (iA r ak l) r.units l i)*emp))) ?_ ?_ ⟨.aB,_,rfl,hs_eq (by unfold qj;ac_rfl) (qP (E:=fl fA) (sz:=3) K1 (.inl rfl))⟩) ?_
  ·rintro i c v s hx ⟨o,b,rfl,K⟩
   rw[List.getElem?_drop,Nat.add_comm]at hx
   have hi:=(List.getElem?_eq_some_iff.1 hx).1
   have hne:l≠[]:=fun e=>by subst e;simp at hi
   rw[hlv hne]
   have db:A.deref (.op b 0) s=some [.int .i64 ((i+1:Nat):Int)]:=sU K 0
   simp only[List.getD_cons_zero,List.getD_cons_succ]
   rw[db,bS,show A.aq 0 [.int .i64 ((i+1:Nat):Int)]=some (.int .i64 ((i+1:Nat):Int))from rfl,bS,dU,bS,uG,bS,decide_eq_true (by omega),iG,show((A.lb (.lbx (bh r))).bind fun _=>some 1)=some 1 from rfl,bS,show((A.lb (.lbx (bh r))).bind fun eB=>A.aq 1 eB)=some (sl 4 bX r.units)from rfl,bS,dU,bS]
   have hml:=HT (l:=l) (cM r ak l) (dQ r l) (iA r ak l) r.units i
   have Ba:i*r.units.length≤300*400:=Nat.mul_le_mul (by omega) L7
   refine Dz (rB (abd hr hz hi (by omega) K) ?_)
   rintro q ⟨o',w,s',rfl,K2⟩
   have db':A.deref (.op b 0) s'=some [.int .i64 ((i+1:Nat):Int)]:=sU K2 0
   have K3:=uv (b:=aO.box [aj]) K2 trivial
   obtain⟨s2,e2,K4⟩:=Cg (o:=0) (new:=[U.int .i64 ((i+1:Nat):Int)]) (cs':=[U.int .i64 ((i+1:Nat):Int)]) K3 rfl
   obtain⟨s3,e3,K5⟩:=Cg (o:=0) (new:=[U.int .i64 ((i+1+1:Nat):Int)]) (cs':=[U.int .i64 ((i+1+1:Nat):Int)]) K4 rfl
   have dn:A.deref (.op s'.length 0) s2=some [.int .i64 ((i+1:Nat):Int)]:=sU K4 0
   simp only[u9,List.getD_cons_zero,List.getD_cons_succ]
   rw[db',bS,show A.aq 0 [.int .i64 ((i+1:Nat):Int)]=some (.int .i64 ((i+1:Nat):Int))from rfl,bS,show((A.cell (U.int .i64 ((i+1:Nat):Int))).bind fun v=>some [v])=some [U.int .i64 ((i+1:Nat):Int)]from rfl,bS,e2,bS,dn,bS,show A.aq 0 [.int .i64 ((i+1:Nat):Int)]=some (.int .i64 ((i+1:Nat):Int))from rfl,bS,AH (by omega),bS,show((A.cell (U.int .i64 ((i+1+1:Nat):Int))).bind fun v=>some [v])=some [U.int .i64 ((i+1+1:Nat):Int)]from rfl,bS,e3,bS]
   refine⟨_,rfl,_,_,rfl,o',_,rfl,?_⟩
   rw[MX]
   have K6:=iV (hs_eq (show _=blk b (.box [.int .i64 ((i+1:Nat):Int)])*(blk s'.length (.box [.int .i64 ((i+1+1:Nat):Int)])*(Sl (fl fA) 3 o' (qj (cM r ak l) (dQ r l) (iA r ak l) r.units l i++r.units.flatMap (jv (cM r ak l) (dQ r l) (iA r ak l) l (i+1)))*emp)) by ac_rfl) K5)
   exact K6
  ·rintro v s ⟨o,b,rfl,K⟩
   have db:A.deref (.op b 0) s=some [.int .i64 (((l.drop 1).length+1:Nat):Int)]:=sU K 0
   simp only[List.getD_cons_zero,List.getD_cons_succ]
   rw[db,bS,show A.aq 0 [.int .i64 (((l.drop 1).length+1:Nat):Int)]=some (.int .i64 (((l.drop 1).length+1:Nat):Int))from rfl,bS,dU,bS,uG,bS,decide_eq_false (by rw[List.length_drop];omega),ga]
   rw[List.length_drop]at K
   exact⟨_,rfl,by simp,o,_,rfl,rfl,iV K⟩
  ·rintro⟨x,v,s⟩ ⟨o,w,h1,h2,K⟩
   simp only at h1 h2 K
   subst h1;subst h2
   simp only[u9,List.getD_cons_zero,List.getD_cons_succ]
   obtain⟨v',j1,j2⟩:=Qy Y9 K
   exact⟨_,j1,rfl,j2⟩
 obtain⟨⟨b,s⟩,h1,h2,h3⟩:=run
 simp only at h2 h3
 subst h2
 refine wrap_eq rfl ?_ h3
 rw[show A.bI [.k,(.a [(.e 3 jL),(.s 4)]),(.e 11 iy)] [sY r ak l lv,.agg (bh r),sl 11 aQ l]=[sY r ak l lv,.agg (bh r),sl 11 aQ l]from bU (jx _) (bU (tE (bU (gM (fun _=>(bU rfl (bU rfl (bU (gM (fun _=>rfl) _) mO)))) _) (bU rfl mO))) (bU (gM (fun _=>rfl) _) rfl))]
 exact h1
end
end
section
def strip (m:aM):aM:=⟨m.key,m.value,m.release,false,0,0⟩
def wO (ms:List aM) (k:az):List aM:=ms.eraseIdx (cS ms k)
def mo (ms T:List aM):List aM:=T.foldl (fun a m=>je a (strip m)) ms
def nK (ms T:List aM):List aM:=T.foldl (fun a m=>wO a m.key) ms
def mQ (T ms:List aM):List aM:=ms.filter fun m=>!gq T m.key
def tN (f t:Nat) (o:List aG) (m:aM):List aG:=dM (dM o t (wO · m.key)) f (je · (strip m))
def jr (r:aV) (o:List aG) (k:kr):List aG:=(dQ r o (dN o k.to) k.unit).foldl (tN (dN o k.oF) (dN o k.to)) o
def Kx (r:aV) (o:List aG) (k:kr):List aG:=dM (dM o (dN o k.to) (mQ (dQ r o (dN o k.to) k.unit))) (dN o k.oF) (mo · (dQ r o (dN o k.to) k.unit))
def sR (r:aV) (ak:List bJ) (l:List aG):List aG:=(lF r ak l).foldl (jr r) l
def sL (r:aV) (ak:List bJ) (l:List aG):List aG×Int:=if ¬(gJ r ak l=0)then([],gJ r ak l)else Gi (sR r ak l)
theorem Jq {f t:Nat} (h:t≠f):∀(T:List aM) (o:List aG),T.foldl (tN f t) o=dM (dM o t (nK · T)) f (mo · T)
 |[],o=>by
  rw[P9 (i:=f) (g:=(mo · [])) fun _ _=>rfl,P9 (i:=t) (g:=(nK · [])) fun _ _=>rfl];rfl
 |m::T,o=>by
  rw[List.foldl_cons,Jq h T,tN,XG _ h.symm,OX,OX];rfl
theorem Qu {k:az}:∀{ms:List aM},eG ms→gq ms k=true→wO ms k=ms.filter fun m=>!decide (m.key=k)
 |[],_,h=>by simp [gq]at h
 |x::xs,hs,h=>by
  have hs':=List.pairwise_cons.1 hs
  by_cases hl:dr x.key k=true
  ·have hne:¬x.key=k:=fun e=>by rw[e,qm]at hl;cases hl
   have hx:gq xs k=true:=by simpa [gq,hne]using h
   have ih:=Qu hs'.2 hx
   unfold wO cS at ih ⊢
   rw[List.takeWhile_cons_of_pos (p:=fun m:aM=>dr m.key k) hl,List.length_cons,List.eraseIdx_cons_succ,ih,List.filter_cons_of_pos (by simp [hne])]
  ·have hall:∀y∈xs,¬y.key=k:=fun y hy e=>hl (e▸hs'.1 y hy)
   have he:x.key=k:=by
    unfold gq at h
    rw[List.any_cons,Bool.or_eq_true]at h
    rcases h with h|h
    ·exact of_decide_eq_true h
    ·obtain⟨y,hy,hk⟩:=List.any_eq_true.1 h
     exact absurd (of_decide_eq_true hk) (hall y hy)
   unfold wO cS
   rw[List.takeWhile_cons_of_neg (p:=fun m:aM=>dr m.key k) hl,List.length_nil,List.eraseIdx_cons_zero,List.filter_cons_of_neg (by simp [he])]
   symm
   rw[List.filter_eq_self]
   intro y hy
   simp [hall y hy]
theorem JJ:∀{T ms:List aM},eG ms→(T.map (·.key)).Nodup→(∀m∈T,gq ms m.key=true)→nK ms T=mQ T ms
 |[],ms,_,_,_=>by
  unfold nK mQ
  symm
  rw[List.foldl_nil,List.filter_eq_self]
  intro y _
  rfl
 |m::T,ms,hs,hd,h=>by
  have hd':=List.nodup_cons.1 hd
  have e:=Qu hs (h m (by simp))
  have ih:=JJ (T:=T) (ms:=wO ms m.key) (by rw[e];exact hs.sublist List.filter_sublist) hd'.2 (fun y hy=>by
   rw[e]
   obtain⟨z,hz,hk⟩:=List.any_eq_true.1 (h y (by simp [hy]))
   refine List.any_eq_true.2 ⟨z,List.mem_filter.2 ⟨hz,?_⟩,hk⟩
   have hk:=of_decide_eq_true hk
   have:¬z.key=m.key:=fun q=>hd'.1 (List.mem_map.2 ⟨y,hy,by rw[←hk,q]⟩)
   simp [this])
  show nK (wO ms m.key) T=_
  rw[ih,e]
  unfold mQ
  rw[List.filter_filter]
  apply List.filter_congr
  intro x _
  unfold gq
  rw[List.any_cons,Bool.not_or,Bool.and_comm]
  congr 2
  exact decide_eq_decide.2 ⟨fun q=>q.symm,fun q=>q.symm⟩
theorem Qg {ms:List aM} (h:eG ms):(ms.map (·.key)).Nodup:=by
 refine List.pairwise_map.2 (h.imp fun{a b} q e=>?_)
 rw[e,qm]at q;cases q
theorem Ra:∀{l:List Nat} {i a y:Nat},l[i]? =some y→(l.set i a).sum+y=l.sum+a
 |[],_,_,_,h=>by simp at h
 |x::l,0,a,y,h=>by
  simp only[List.getElem?_cons_zero,Option.some.injEq]at h
  subst h
  simp only[List.set_cons_zero,List.sum_cons];omega
 |x::l,i+1,a,y,h=>by
  rw[List.getElem?_cons_succ]at h
  have:=Ra (a:=a) h
  simp only[List.set_cons_succ,List.sum_cons];omega
theorem Ru:∀{l:List Nat} {y:Nat},y∈l→y≤l.sum
 |x::l,y,h=>by
  rw[List.sum_cons]
  simp only[List.mem_cons]at h
  rcases h with rfl|h
  ·omega
  ·have:=Ru h;omega
def tH (o:List aG):Nat:=(o.map (·.aL.length)).sum
theorem O4 {o:List aG} {i:Nat} {x:aG} (hx:o[i]? =some x) (g:List aM→List aM):tH (dM o i g)+x.aL.length=tH o+(g x.aL).length:=by
 unfold tH dM
 rw[hx]
 simp only[List.map_set]
 exact Ra (by rw[List.getElem?_map,hx];rfl)
theorem PL {o:List aG} {c:aG} (h:c∈o):c.aL.length≤tH o:=Ru (List.mem_map.2 ⟨c,h,rfl⟩)
theorem Ym (o:List aG) (i:Nat) (g:List aM→List aM):(dM o i g).map (·.number)=o.map (·.number):=by
 apply List.ext_getElem?
 intro k
 rw[List.getElem?_map,List.getElem?_map,mH]
 split
 ·cases o[k]? <;>rfl
 ·rfl
theorem sO (o:List aG) (n:Int):dN o n=((o.map (·.number)).takeWhile fun a=>decide (a<n)).length:=by
 unfold dN
 rw[List.takeWhile_map,List.length_map];rfl
theorem Ad (o:List aG) (n:Int):lM o n=(o.map (·.number)).any fun a=>decide (a=n):=by
 unfold lM
 rw[List.any_map];rfl
structure jt (l o : List aG) : Prop where
 num:o.map (·.number)=l.map (·.number)
 ji:∀c∈o,eG c.aL
 sum:tH o≤600000
 ok:GI o
section
variable {l o : List aG}
theorem jt.len (h:jt l o):o.length=l.length:=by have:=congrArg List.length h.num;simpa using this
theorem jt.small (h:jt l o) {c:aG} (hc:c∈o):c.aL.length≤600000:=Nat.le_trans (PL hc) h.sum
theorem jt.ab3 (h:jt l o) (hg:Good l):Gg o:=by
 refine⟨by rw[h.len];exact hg.len,fun c hc=>?_,?_⟩
 ·have:c.number∈l.map (·.number):=h.num▸List.mem_map.2 ⟨c,hc,rfl⟩
  obtain⟨d,hd,e⟩:=List.mem_map.1 this
  rw[←e];exact hg.num d hd
 ·have:=List.pairwise_map.2 hg.ji
  rw[←h.num]at this
  exact List.pairwise_map.1 this
theorem jt.refl (hg:Good l) (ho:GI l):jt l l:=by
 refine⟨rfl,fun c hc=>(hg.mv c hc).2,?_,ho⟩
 have key:∀(m:List aG),(∀c∈m,c.aL.length≤2000)→tH m≤m.length*2000:=by
  intro m
  induction m with
  |nil=>intro _;exact Nat.le_refl _
  |cons c m ih=>
   intro h
   have h1:=h c (by simp)
   have h2:=ih fun x hx=>h x (by simp [hx])
   unfold tH at h2 ⊢
   rw[List.map_cons,List.sum_cons,List.length_cons];omega
 have:=key l fun c hc=>(hg.mv c hc).1
 have h3:=hg.len
 omega
theorem jt.dM (h:jt l o) {i:Nat} {x:aG} (hx:o[i]? =some x) {g:List aM→List aM} (hs:eG (g x.aL)) (hm:∀m∈g x.aL,rC m) (aef:tH o+(g x.aL).length≤600000+x.aL.length):jt l (dM o i g):=by
 have e:=O4 hx g
 have hl:=PL (List.mem_of_getElem? hx)
 refine⟨by rw[Ym];exact h.num,fun c hc=>?_,by omega,?_⟩
 ·unfold Go.Proofs.Ytphgchakmkankaa.dM at hc
  rw[hx]at hc
  rcases List.mem_or_eq_of_mem_set hc with hc|rfl
  ·exact h.ji c hc
  ·exact hs
 ·intro c hc
  unfold Go.Proofs.Ytphgchakmkankaa.dM at hc
  rw[hx]at hc
  rcases List.mem_or_eq_of_mem_set hc with hc|rfl
  ·exact h.ok c hc
  ·obtain⟨a1,a2,a3,a4,a5,a6,a7,a8,_⟩:=h.ok x (List.mem_of_getElem? hx)
   have:=h.sum
   exact⟨a1,a2,a3,a4,a5,a6,a7,a8,by unfold br;show(g x.aL).length≤_;omega,hm⟩
theorem Yn {m:aM} (h:rC m):rC (strip m):=⟨h.1,h.2.1,Sr,Sr⟩
theorem JS (h:jt l o) {i:Nat} {x:aG} (hx:o[i]? =some x) {m:aM} (hm:m∈x.aL):rC m:=(h.ok x (List.mem_of_getElem? hx)).2.2.2.2.2.2.2.2.2 m hm
theorem Rw (h:jt l o) {f t:Nat} (hne:t≠f) {c d:aG} (hc:o[t]? =some c) (hd:o[f]? =some d) {T:List aM} (hT:T.Sublist c.aL):
  jt l (T.foldl (tN f t) o)∧(T.foldl (tN f t) o)[t]? =some {c with aL:=mQ T c.aL}∧(T.foldl (tN f t) o)[f]? =some {d with aL:=mo d.aL T}:=by
 have hs:=h.ji c (List.mem_of_getElem? hc)
 have tL:eG T:=hs.sublist hT
 have Di:nK c.aL T=mQ T c.aL:=JJ hs (Qg tL) fun m hm=>List.any_eq_true.2 ⟨m,hT.subset hm,by simp⟩
 have hlen:(mQ T c.aL).length+T.length=c.aL.length:=by
  have key:∀{T ms:List aM},T.Sublist ms→eG ms→(mQ T ms).length+T.length=ms.length:=by
   intro T ms hsub
   induction hsub with
   |slnil=>intro _;rfl
   |@cons l₁ l₂ a hsub ih=>
    intro hs
    have hs':=List.pairwise_cons.1 hs
    have ih:=ih hs'.2
    unfold mQ at ih ⊢
    have hno:gq l₁ a.key=false:=by
     rw[Bool.eq_false_iff];intro q
     obtain⟨z,hz,hk⟩:=List.any_eq_true.1 q
     have:=hs'.1 z (hsub.subset hz)
     rw[of_decide_eq_true hk,qm]at this;cases this
    rw[List.filter_cons_of_pos (by simp [hno])]
    simp only[List.length_cons];omega
   |@cons_cons l₁ l₂ a hsub ih=>
    intro hs
    have hs':=List.pairwise_cons.1 hs
    have ih:=ih hs'.2
    unfold mQ at ih ⊢
    rw[List.filter_cons_of_neg (by simp [gq])]
    have e:l₂.filter (fun m=>!gq (a::l₁) m.key)=l₂.filter (fun m=>!gq l₁ m.key):=by
     apply List.filter_congr
     intro x hx
     have:¬a.key=x.key:=fun q=>by
      have:=hs'.1 x hx
      rw[q,qm]at this;cases this
     unfold gq
     rw[List.any_cons,decide_eq_false this,Bool.false_or]
    rw[e]
    simp only[List.length_cons];omega
  exact key hT hs
 have hput:∀(T ms:List aM),eG ms→eG (mo ms T)∧(mo ms T).length≤ms.length+T.length:=by
  intro T
  induction T with
  |nil=>intro ms h;exact⟨h,Nat.le_refl _⟩
  |cons m T ih=>
   intro ms h
   have:=ih _ (F2 h (strip m))
   have h2:=Q4 ms (strip m)
   refine⟨this.1,?_⟩
   have h3:=this.2
   show(mo (je ms (strip m)) T).length≤_
   simp only[List.length_cons];omega
 have ado:∀(T ms:List aM),(∀m∈ms,rC m)→(∀m∈T,rC m)→∀m∈mo ms T,rC m:=by
  intro T
  induction T with
  |nil=>intro ms h _;exact h
  |cons m T ih=>
   intro ms h hT
   refine ih _ (fun y hy=>?_) fun y hy=>hT y (by simp [hy])
   rcases QJ hy with hy|rfl
   ·exact h y hy
   ·exact Yn (hT m (by simp))
 rw[Jq hne]
 have h1:(dM o t (nK · T))[t]? =some {c with aL:=mQ T c.aL}:=by rw[mH,if_pos rfl,hc,←Di];rfl
 have h2:(dM o t (nK · T))[f]? =some d:=by rw[mH,if_neg hne];exact hd
 have hsm:=O4 hc (nK · T)
 rw[Di]at hsm
 have M1:jt l (dM o t (nK · T)):=h.dM hc (g:=(nK · T)) (by show eG (nK c.aL T);rw[Di];exact hs.sublist List.filter_sublist) (fun m hm=>by
  have hm:m∈nK c.aL T:=hm
  rw[Di]at hm
  exact JS h hc (List.mem_filter.1 hm).1) (by show tH o+(nK c.aL T).length≤_;rw[Di];have:=h.sum;omega)
 have hp:=hput T d.aL (h.ji d (List.mem_of_getElem? hd))
 refine⟨M1.dM h2 (g:=(mo · T)) hp.1 (ado T d.aL (fun m hm=>JS h hd hm) fun m hm=>JS h hc (hT.subset hm)) ?_,?_,?_⟩
 ·show tH (dM o t (nK · T))+(mo d.aL T).length≤_
  have:=h.sum
  have:=hp.2
  omega
 ·rw[mH,if_neg (Ne.symm hne)];exact h1
 ·rw[mH,if_pos rfl,h2];rfl
theorem Ff (r:aV) (c:aG) (u:Int):(ij r c u).Sublist c.aL:=List.filter_sublist
theorem FC {r:aV} {t:Nat} {c:aG} (hc:o[t]? =some c) (u:Int):dQ r o t u=ij r c u:=by unfold dQ;rw[hc]
theorem Zo {r:aV} {ak:List bJ} {k:kr} (h:k∈lF r ak l):∃(a i:Nat) (c d:aG),a<i∧l[a]? =some d∧l[i]? =some c∧d.number=k.oF∧c.number=k.to:=by
 unfold lF qj at h
 obtain⟨i,hi,h⟩:=List.mem_flatMap.1 h
 obtain⟨u,hu,h⟩:=List.mem_flatMap.1 h
 have hi:=List.mem_range.1 hi
 unfold jv at h
 split at h
 ·simp at h
 split at h
 ·simp at h
 rw[List.mem_singleton]at h
 have hle:l8 (fun j=>cM r ak l j u.number) (fun j=>dQ r l j u.number) (i+1-1)≤i:=Fq _ _ i
 generalize l8 (fun j=>cM r ak l j u.number) (fun j=>dQ r l j u.number) (i+1-1)=a at h hle
 have h1:l[a]? =some l[a]:=List.getElem?_eq_getElem (by omega)
 have h2:l[i+1]? =some l[i+1]:=List.getElem?_eq_getElem (by omega)
 refine⟨a,i+1,_,_,by omega,h1,h2,?_,?_⟩
 ·rw[h,h1];rfl
 ·rw[h,h2];rfl
theorem Jp {r:aV} {ak:List bJ} (hg:Good l) (hM:jt l o) {k:kr} (h:k∈lF r ak l):∃c d,dN o k.to≠dN o k.oF∧o[dN o k.to]? =some c∧o[dN o k.oF]? =some d∧lM o k.to=true∧lM o k.oF=true∧1≤k.to∧k.to≤9999999∧1≤k.oF∧k.oF≤9999999:=by
 obtain⟨a,i,c,d,hai,hd,hc,e1,e2⟩:=Zo h
 have p1:=Aq hg.ji hc e2
 have p2:=Aq hg.ji hd e1
 have q1:dN o k.to=i:=by rw[sO,hM.num,←sO,p1]
 have q2:dN o k.oF=a:=by rw[sO,hM.num,←sO,p2]
 have hl:=hM.len
 have hi:=(List.getElem?_eq_some_iff.1 hc).1
 have n1:=hg.num c (List.mem_of_getElem? hc)
 have n2:=hg.num d (List.mem_of_getElem? hd)
 refine⟨o[i]'(by omega),o[a]'(by omega),by omega,by rw[q1];exact List.getElem?_eq_getElem _,by rw[q2];exact List.getElem?_eq_getElem _,?_,?_,by omega,by omega,by omega,by omega⟩
 ·rw[Ad,hM.num,←Ad];exact List.any_eq_true.2 ⟨c,List.mem_of_getElem? hc,by simp [e2]⟩
 ·rw[Ad,hM.num,←Ad];exact List.any_eq_true.2 ⟨d,List.mem_of_getElem? hd,by simp [e1]⟩
theorem OI {r:aV} {ak:List bJ} (hg:Good l) (hM:jt l o) {k:kr} (h:k∈lF r ak l):jt l (jr r o k)∧jr r o k=Kx r o k:=by
 obtain⟨c,d,hne,hc,hd,_⟩:=Jp hg hM h
 have hT:=Ff r c k.unit
 unfold jr Kx
 rw[FC hc]
 refine⟨(Rw hM hne hc hd hT).1,?_⟩
 rw[Jq hne]
 congr 1
 have hs:=hM.ji c (List.mem_of_getElem? hc)
 refine WQ fun x hx=>?_
 rw[hc]at hx
 injection hx with hx
 subst hx
 exact JJ hs (Qg (hs.sublist hT)) fun m hm=>List.any_eq_true.2 ⟨m,hT.subset hm,by simp⟩
theorem EP {r:aV} {ak:List bJ} (hg:Good l) (ho:GI l):∀i,jt l (((lF r ak l).take i).foldl (jr r) l)
 |0=>jt.refl hg ho
 |i+1=>by
  cases hx:(lF r ak l)[i]? with
  |none=>
   rw[List.take_of_length_le (by have:=List.getElem?_eq_none_iff.1 hx;omega)]
   have:=EP hg ho i (r:=r) (ak:=ak)
   rwa[List.take_of_length_le (by have:=List.getElem?_eq_none_iff.1 hx;omega)]at this
  |some k=>
   rw[NU _ _ _ hx]
   exact(OI hg (EP hg ho i) (List.mem_of_getElem? hx)).1
end
end
section
open HP
section
variable {au σ : Heap} {R : HP}
theorem ac1 {v:U} {l:List aM} {i:Nat} {x:aM} (hx:l[i]? =some x) (hl:l.length≤1000000) (H:Hs aY au σ (Sl (fl aK) 8 v l*R)):
  ∃v' σ',zF [v,.int .i64 (i:Int),.int .i64 ((i+1:Nat):Int)] σ=some (v',σ')∧Hs aY au σ' (Sl (fl aK) 8 v' (l.eraseIdx i)*R):=by
 obtain⟨v',σ',xe,_,e,H2⟩:=abR (most:=140737488355328 / 64) (zs:=[aj,bw,aj,aj,aP,aP,aj,aj]) H hx (by omega) (by omega) (fun _ _ _ _ _=>trivial)
 have H3:=iV (hs_eq (show _=pr (xe=aK x)*(Sl (fl aK) 8 v' (l.eraseIdx i)*R) by rw[show fl aK xe x=pr (xe=aK x)from rfl];ac_rfl) H2)
 refine⟨v',σ',?_,H3⟩
 unfold zF A.wrap
 rw[Bool.false_and,cond_false,show A.bI [] [v,.int .i64 (i:Int),.int .i64 ((i+1:Nat):Int)]=[v,.int .i64 (i:Int),.int .i64 ((i+1:Nat):Int)] by simp [A.bI]]
 show(D9 v (.int .i64 (i:Int)) (.int .i64 ((i+1:Nat):Int)) σ).map _=_
 rw[show D9 v (.int .i64 (i:Int)) (.int .i64 ((i+1:Nat):Int)) σ=some (v',σ')from e]
 simp [jx]
theorem aaE {p:U} {F:List U→HP} {e:List U} {x:aG} (hC:Cl p F) (H:Hs aY au σ (F e*(dX e x*R))):∃q vp vm,A.bD 10 p=some q∧((A.deref q σ).bind fun c=>A.aq 0 c)=some vm∧Hs aY au σ (Sl (fl aK) 8 vm x.aL*(F (dh x vp vm)*(Sf eS 2 vp x.fB.points*R)))∧
  ∀{σ':Heap} {gY:U} {ms:List aM} {R':HP},Hs aY au σ' (Sl (fl aK) 8 gY ms*(F (dh x vp vm)*(Sf eS 2 vp x.fB.points*R')))→A.cell gY=some gY∧∃σ2 e',A.storeAt q [gY] σ'=some σ2∧Hs aY au σ2 (F e'*(dX e' {x with aL:=ms}*R')):=by
 obtain⟨vp,vm,he,K⟩:=yA (hs_eq (show _=mh (Sl (fl aK) 8) e x*(F e*R)from by rw[show dX e x=mh (Sl (fl aK) 8) e x from rfl];ac_rfl) H)
 subst he
 have i6:Hs aY au σ (Sl (fl aK) 8 vm x.aL*(F (dh x vp vm)*(Sf eS 2 vp x.fB.points*R))):=hs_eq (by ac_rfl) K
 obtain⟨q,f1,f2⟩:=Py hC 10 H (vm:=vm) (by
  have:=JF i6
  simp only[dh,List.drop_succ_cons,List.drop_zero,A.aq,List.getElem?_cons_zero,Option.bind_some]
  exact this)
 refine⟨q,vp,vm,f1,f2,i6,fun{σ' gY ms R'} H1=>⟨JF H1,?_⟩⟩
 obtain⟨q',g1,_,g3⟩:=hC.fa 10
 rw[f1]at g1;injection g1 with g1;subst g1
 obtain⟨σ2,e3,H2⟩:=g3 (hs_eq (show _=F (dh x vp vm)*(Sl (fl aK) 8 gY ms*(Sf eS 2 vp x.fB.points*R')) by ac_rfl) H1) (new:=[gY]) (e':=dh x vp gY) rfl
 refine⟨σ2,dh x vp gY,e3,?_⟩
 have:=FL (M:=Sl (fl aK) 8) (x:={x with aL:=ms}) (e:=dh x vp gY) (vp:=vp) (vm:=gY) (R:=F (dh x vp gY)*R') (B:=aY) (au:=au) (σ:=σ2) rfl (hs_eq (by ac_rfl) H2)
 exact hs_eq (by rw[show dX (dh x vp gY) {x with aL:=ms}=mh (Sl (fl aK) 8) (dh x vp gY) {x with aL:=ms}from rfl];ac_rfl) this
theorem ZA {p:U} {F:List U→HP} {e:List U} {x:aG} (hC:Cl p F) (H:Hs aY au σ (F e*(dX e x*R))):((A.deref p σ).bind fun c=>A.aD 0 11 c)=some (.agg e)∧Lt σ (.a iu) (.agg e) (.agg (aQ x)):=by
 obtain⟨vp,vm,he,_⟩:=yA (hs_eq (show _=mh (Sl (fl aK) 8) e x*(F e*R) by rw[show dX e x=mh (Sl (fl aK) 8) e x from rfl];ac_rfl) H)
 refine⟨?_,JR (BR (hs_eq (show _=dX e x*(F e*R) by ac_rfl) H))⟩
 rw[hC.ld H,Option.bind_some,he];rfl
theorem abt {v:U} {o:List aG} {i:Nat} {x:aG} {k:az} (hx:o[i]? =some x) (hs:eG x.aL) (hl:x.aL.length≤1000000) (hk:gq x.aL k=true) (H:Hs aY au σ (Sl dX 11 v o*R)):
  ∃p e q vm v' σ1 σ2,A.aU 11 v (.int .i64 (i:Int))=some p∧((A.deref p σ).bind fun c=>A.aD 0 11 c)=some (.agg e)∧A.quiet (vF [.agg e,.agg (aH k)] σ) σ=some (.aA [.int .i64 (cS x.aL k:Int),.bool true])∧A.bD 10 p=some q∧((A.deref q σ).bind fun c=>A.aq 0 c)=some vm∧
   A.add (.int .i64 (cS x.aL k:Int)) (.int .i64 1)=some (.int .i64 ((cS x.aL k+1:Nat):Int))∧zF [vm,.int .i64 (cS x.aL k:Int),.int .i64 ((cS x.aL k+1:Nat):Int)] σ=some (v',σ1)∧A.cell v'=some v'∧A.storeAt q [v'] σ1=some σ2∧Hs aY au σ2 (Sl dX 11 v (dM o i (wO · k))*R):=by
 obtain⟨p,F,e,f1,hC,K,back⟩:=F1 H hx
 obtain⟨r1,r2⟩:=ZA hC K
 have va:=N1 (BR (hs_eq (show _=dX e x*(F e*R) by ac_rfl) K)) hs (by omega) k
 rw[hk]at va
 obtain⟨q,vp,vm,g1,g2,K2,bk⟩:=aaE hC K
 obtain⟨y,hy⟩:=FQ hs hk
 obtain⟨v',σ1,d1,K3⟩:=ac1 hy hl K2
 obtain⟨c1,σ2,e',s1,K4⟩:=bk K3
 refine⟨p,e,q,vm,v',σ1,σ2,f1,r1,quiet_of va,g1,g2,AH (by have:=(List.getElem?_eq_some_iff.1 hy).1;omega),d1,c1,s1,?_⟩
 rw[dM,hx]
 exact back K4
theorem aaV {v:U} {o:List aG} {i:Nat} {x:aG} (hx:o[i]? =some x) (m:aM) (hs:eG x.aL) (hl:x.aL.length≤1000000) (H:Hs aY au σ (Sl dX 11 v o*R)):
  ∃p σ',A.aU 11 v (.int .i64 (i:Int))=some p∧zY [p,.agg (aK m)] σ=some (.aA [],σ')∧Hs aY au σ' (Sl dX 11 v (dM o i (je · m))*R):=by
 obtain⟨p,F,e,h1,hC,K,back⟩:=F1 H hx
 obtain⟨σ',e',h2,K2⟩:=acw (m:=m) hC K hs (by omega)
 refine⟨p,σ',h1,h2,?_⟩
 rw[dM,hx]
 exact back K2
theorem N4 {v:U} {l:List aG} (H:Hs aY au σ (Sl dX 11 v l*R)) (hg:Gg l) {n:Int} (h1:1≤n) (h2:n≤9999999) (hh:lM l n=true):ud [v,.int .i64 n] σ=some (.aA [.int .i64 (dN l n:Int),.bool true],σ):=
 CO (bL:=[.e 11 iu]) (ts:=[sl 11 aQ l,.int .i64 n]) ⟨QH H,Ka _,trivial⟩ (fun σ=>by obtain⟨p,e,_,h⟩:=QZ hg (show aS n by unfold aS;omega) σ;rw[h (.inl h1),hh]at e;exact e) rfl
theorem Zy {T ms:List aM} (hs:eG T) {j:Nat} {m:aM} (hj:T[j]? =some m) (hm:m∈ms):gq (mQ (T.take j) ms) m.key=true:=by
 refine List.any_eq_true.2 ⟨m,List.mem_filter.2 ⟨hm,?_⟩,by simp⟩
 cases h:gq (T.take j) m.key
 ·rfl
 ·obtain⟨z,hz,hk⟩:=List.any_eq_true.1 h
  obtain⟨i,hi⟩:=List.mem_iff_getElem?.1 hz
  rw[List.getElem?_take]at hi
  split at hi
  ·rename_i hij
   have h1:=Cc hs hi rfl
   have h2:=Cc hs hj (of_decide_eq_true hk).symm
   omega
  ·cases hi
end
section
variable {r : aV} {ak : List bJ} {l : List aG}
theorem XN {x:aG} {e:List U} {σ:Heap} (hr:gK r) (hz:gJ r ak l=0) (hc:x.aL.length≤900000) (u:Int) (h:Lt σ (.a iu) (.agg e) (.agg (aQ x))):A.quiet ((A.ku (.s 8) nD) [cr r ak l,.agg e,.int .i64 u] σ) σ=some (sl 8 aK (ij r x u)):=
 quiet_of (PM (σ:=σ) BW (bL:=[.k,(.a iu)]) (uS:=[cr r ak l,.agg e,.int .i64 u]) (ts:=[cr r ak l,.agg (aQ x),.int .i64 u]) ⟨Cu (J6 r ak l) rfl,h,Ka _,trivial⟩ (Rb hr hz hc u))
theorem Oi {α β:Type} (f:β→α→β) (b:β) (T:List α) {j:Nat} {m:α} (h:T[j]? =some m):(T.take (j+1)).foldl f b=f ((T.take j).foldl f b) m:=NU f b T h
theorem YO (hr:gK r) (hp:cB nX ak) (hl:cB mP l) (σ:Heap):H7 [.agg (bh r),sl 3 gh ak,sl 11 aQ l] σ=some (.aA [sl 11 aQ (sL r ak l).1,.int .i64 (sL r ak l).2],σ):=by
 have run:∃b,ED (.agg (bh r)) (sl 3 gh ak) (sl 11 aQ l) σ=some b∧b.2=σ∧A.nn (.t [(.e 11 iu),.k]) b.1=.aA [sl 11 aQ (sL r ak l).1,.int .i64 (sL r ak l).2]:=by
  unfold ED sL
  rw[show A.cells 2 (.agg (bh r))=some (bh r)from rfl,bS,show A.aD 0 2 (bh r)=some (.agg (bh r))from rfl,bS,MT (Nr r ak l hr hp hl),bS,KK,bS]
  by_cases hf:gJ r ak l=0
  case neg=>
   rw[decide_eq_true hf,iG,if_pos hf]
   exact⟨_,cV _ _,rfl,RA⟩
  obtain⟨cR,hform⟩:=kJ hf
  have Dk:¬¬(gJ r ak l=0):=by simp [hf]
  have hg:=rq hform
  have hlen:=hg.len
  rw[decide_eq_false Dk,ga,if_neg Dk]
  obtain⟨lv,e0,hlv⟩:=acy hr hp hf σ
  obtain⟨v,s1,e1,K1⟩:=Y0 (ZJ hg) (by unfold br;omega) (Ax (B:=aY) σ)
  rw[bS,e0,bS,e1,bS,bS,aay hr hf lv hlv s1,bS,dU,bS]
  have hml:(lF r ak l).length≤br:=by
   have h1:=HT (l:=l) (cM r ak l) (dQ r l) (iA r ak l) r.units (l.length-1)
   have h2:=xO cR
   have h3:(l.length-1)*r.units.length≤300*400:=Nat.mul_le_mul (by omega) h2
   unfold lF br
   omega
  refine rB (Q:=fun q=>q.1=.exit 0∧Hs aY σ q.2.2 (Sl dX 11 v (sR r ak l)*emp)) (sQ (lF r ak l) (fun i w s=>w=[.int .i64 (i:Int)]∧Hs aY σ s (Sl dX 11 v (((lF r ak l).take i).foldl (jr r) l)*emp)) ?_ ?_ ⟨rfl,K1⟩) ?_
  ·rintro i k w s hx ⟨rfl,K⟩
   have hk:=List.mem_of_getElem? hx
   have hM:=EP hg hl.2 i (r:=r) (ak:=ak)
   rw[Oi _ _ _ hx]
   generalize ((lF r ak l).take i).foldl (jr r) l=o at hM K ⊢
   obtain⟨c,d,hne,hc,hd,h1,h2,n1,n2,n3,n4⟩:=Jp hg hM hk
   have TK:=hM.ab3 hg
   have adl:l≠[]:=fun e=>by subst e;have:=hM.len;simp at this;subst this;simp at hc
   simp only[List.getD_cons_zero]
   rw[iq hx,bS,iG,fW hx,bS,gb,bS,Zu,bS,YX,bS,ZK k _ rfl,bS,show A.aq 1 (fA k)=some (.int .i64 k.oF)from rfl,bS,N4 K TK n3 n4 h2,bS,CD,bS,ext1,bS,show A.aq 2 (fA k)=some (.int .i64 k.to)from rfl,bS,N4 K TK n1 n2 h1,bS,CD,bS,ext1,bS]
   obtain⟨p,e,f1,f2,hlt⟩:=abL hc K
   have gd:=hM.small (List.mem_of_getElem? hc)
   rw[f1,bS,f2,bS,show A.aq 0 (fA k)=some (.int .i64 k.unit)from rfl,bS,show sY r ak l lv=cr r ak l by rw[hlv adl];rfl,XN hr hf (by omega) k.unit hlt,bS,dU,bS]
   have hmk:jr r o k=(ij r c k.unit).foldl (tN (dN o k.oF) (dN o k.to)) o:=by unfold jr;rw[FC hc]
   rw[hmk]
   have tL:=Ff r c k.unit
   have hTl:=tL.length_le
   have hcs:=hM.ji c (List.mem_of_getElem? hc)
   generalize ij r c k.unit=T at tL hTl ⊢
   generalize dN o k.oF=f at hne hd ⊢
   generalize dN o k.to=t at hne hc f1 ⊢
   refine Dz (rB (Q:=fun q=>q.1=.exit 2∧Hs aY σ q.2.2 (Sl dX 11 v (T.foldl (tN f t) o)*emp)) (sQ T (fun j w s=>w=[.int .i64 (j:Int)]∧Hs aY σ s (Sl dX 11 v ((T.take j).foldl (tN f t) o)*emp)) ?_ ?_ ⟨rfl,K⟩) ?_)
   ·rintro j m w s' hj ⟨rfl,K⟩
    have hsub:(T.take j).Sublist c.aL:=(List.take_sublist _ _).trans tL
    obtain⟨M',lQ,hd'⟩:=Rw hM hne hc hd hsub
    rw[Oi _ _ _ hj]
    generalize (T.take j).foldl (tN f t) o=o' at M' lQ hd' K ⊢
    have hm:=Zy (hcs.sublist tL) hj (tL.subset (List.mem_of_getElem? hj))
    have q1:=M'.ji _ (List.mem_of_getElem? lQ)
    have q2:=M'.small (List.mem_of_getElem? lQ)
    have q3:=M'.ji _ (List.mem_of_getElem? hd')
    have q4:=M'.small (List.mem_of_getElem? hd')
    obtain⟨p',e',q,vm,v',s2,s3,g1,g2,g3,g4,g5,g6,g7,g8,g9,K2⟩:=abt (k:=m.key) lQ q1 (by omega) hm K
    rw[f1]at g1
    injection g1 with g1
    subst g1
    obtain⟨p2,s4,k1,k2,K3⟩:=aaV (x:={d with aL:=mo d.aL (T.take j)}) (i:=f) (by rw[Qa hne];exact hd') (strip m) q3 (by omega) K2
    simp only[List.getD_cons_zero]
    rw[iq hj,bS,iG,fW hj,bS,gb,bS,xV,bS,Fh,bS,xX m _ rfl,bS,bS,g2,bS,Ia,bS,g3,bS,CD,bS,ext1,bS,bS,g4,bS,g5,bS,g6,bS,g7,bS]
    simp only[bS]
    rw[g4,bS,g8,bS,bS,g9,bS,show((A.cell aP).bind fun v=>some [v])=some [U.bool false]from rfl,bS,show A.splice 5 [U.bool false] (aK m)=some [.int .i64 m.key.unit,.str m.key.param,.int .i64 m.value.level,.int .i64 m.value.dV,.bool m.release,.bool false,.int .i64 m.delay,.int .i64 m.time]from rfl,bS,show((A.cell aj).bind fun v=>some [v])=some [U.int .i64 0]from rfl,bS,show A.splice 6 [U.int .i64 0] [.int .i64 m.key.unit,.str m.key.param,.int .i64 m.value.level,.int .i64 m.value.dV,.bool m.release,.bool false,.int .i64 m.delay,.int .i64 m.time]=some [.int .i64 m.key.unit,.str m.key.param,.int .i64 m.value.level,.int .i64 m.value.dV,.bool m.release,.bool false,.int .i64 0,.int .i64 m.time]from rfl,bS]
    simp only[bS]
    rw[show A.splice 7 [U.int .i64 0] [.int .i64 m.key.unit,.str m.key.param,.int .i64 m.value.level,.int .i64 m.value.dV,.bool m.release,.bool false,.int .i64 0,.int .i64 m.time]=some (aK (strip m))from rfl,bS,k1,bS,xV,bS,k2,bS,fZ hj (by unfold br;omega),bS]
    exact⟨_,_,rfl,rfl,K3⟩
   ·rintro w s' ⟨rfl,K⟩
    simp only[List.getD_cons_zero]
    rw[ia,bS,ga]
    rw[List.take_length]at K
    exact⟨_,rfl,by simp,rfl,K⟩
   rintro⟨x,w,s'⟩ ⟨h1,K⟩
   simp only at h1 K
   subst h1
   simp only[u9]
   rw[fZ hx hml,bS]
   exact⟨_,rfl,_,_,rfl,rfl,K⟩
  ·rintro w s ⟨rfl,K⟩
   simp only[List.getD_cons_zero]
   rw[ia,bS,ga]
   rw[List.take_length]at K
   exact⟨_,rfl,by simp,rfl,K⟩
  rintro⟨x,w,s⟩ ⟨h1,K⟩
  simp only at h1 K
  subst h1
  simp only[u9]
  have hM:=EP hg hl.2 (lF r ak l).length (r:=r) (ak:=ak)
  rw[List.take_length]at hM
  have hok:cB mP (sR r ak l):=⟨by have:=hM.len;unfold br;show(((lF r ak l).foldl (jr r) l)).length≤_;omega,hM.ok⟩
  rw[Y3 K hok,bS]
  simp only
  rw[CD,bS,ext1,bS]
  unfold Gi
  by_cases hq:l7 (sR r ak l)=0
  ·rw[if_pos hq,if_pos hq,hq]
   obtain⟨v',j1,j2⟩:=Z7 (e:=0) (Ow K)
   exact⟨_,j1,rfl,RB j2⟩
  ·rw[if_neg hq,if_neg hq]
   exact⟨_,Z6 K,rfl,RA⟩
 obtain⟨⟨b,s⟩,h1,h2,h3⟩:=run
 simp only at h2 h3
 subst h2
 refine wrap_eq rfl ?_ h3
 rw[Kc]
 exact h1
end
end
end Go.Proofs.Ytphgchakmkankaa
