/- Parts of the proof of PlayAskingDoesNotMatter, in order. -/
import Derived.Orders
import Derived.Below
import Derived.WalkKit
import Derived.Laws.StructEq
import Derived.Laws.Append
import Derived.Laws.AppendOwn
import Derived.Test.YtooknfkholjpbaaGreatRows
import Derived.KernelRfl
import Derived.Lib.Bytealg
import Derived.Sort.Defs
import Derived.Lib.BitFns
import Derived.Test.YtooknfkholjpbaaGreatShelf
import Derived.RangeFuncGives
import Derived.RangeFuncBound
import Derived.RangeFuncIn
import Derived.RangeFuncLeaves
import Derived.RangeFuncRecord
import Derived.Sort.MapsRangeIn
import Derived.TacticsInMore
import Derived.OwnWalkIn
import Derived.RegionIn
import Derived.LoopNIn
import Derived.LoopIn
import Derived.Shelf.AbstractIn
import Derived.BigFrameIn
import Derived.Lib.Overlaps
import Derived.IntWalk
import Derived.Sort.Statements
import Derived.Shelf.SlSortCmp.WholeK
import Derived.Shelf.SlSortCmp.NoneTotal
import Derived.Sort.AssemblyPlain
import Derived.Lib.Strings
import Derived.Laws.Externs
import Derived.WalkSpells
import Derived.ProofKit
import Derived.OpenShut
import Derived.Lib.Hide
import Derived.Lib.SmallJoins
import Derived.Deep.QuietTactic
import Derived.BigQuiet
import Derived.Deep.RegionHeld3
import Derived.Test.YtooknfkholjpbaaGreatKPlayAskingDoesNotMatter4
namespace Go.Proofs.YtooknfkholjpbaaGreat
set_option linter.unusedVariables false
set_option linter.unusedSimpArgs false
set_option linter.unusedSectionVars false
section
set_option maxRecDepth 100000
open HP
theorem apx{ro:Sh}{r:AV→AV→AV→AV→AV→Heap→aH}{x y z u p v v':AV}{σ σ':Heap}(e2:A.nn ro v=v')(e:r x y z u p σ=some (v,σ')):A.wrap false [] ro (A.Gd r) [x,y,z,u,p] σ=some (v',σ'):=by have:A.Gd r [x,y,z,u,p] σ=some (v,σ'):=e;simp only[A.wrap,Bool.false_and,bE,A.cG,this,bZ,e2]
abbrev Bu(c t:Int)(b:bn)(cm eA:Int)(rv:AV):au:=[.ah c,.ah t,.bool false,.ah b.aC,.ah b.kH,sl 11 br b.bH,.ah cm,.ah b.iK,.ah eA,rv]
theorem NV{d:bV}{s:cQ}{b:bn}{x:bz}{c:Int}{seen:List bB}:∀(l:List (aG×cH)),∀p∈l.filterMap (λp=>(vP d s b x c seen p.1).map (λr=>(p.1,r))),(nG seen p.1).isSome=false∧p.1∈l.map (·.1):=by
 intro l p hp;obtain⟨q,hq,h⟩:=List.mem_filterMap.1 hp;obtain⟨r,hr,rfl⟩:=eG.1 h;refine⟨?_,gB.2 ⟨q,hq,rfl⟩⟩;unfold vP at hr;split at hr
 ·cases hr
 ·rename_i h;simp only[not_or]at h;simpa using h.2.1
theorem Sn{d:bV}{s:cQ}{b:bn}{x:bz}{c:Int}{seen:List bB}:∀{l:List (aG×cH)},(l.map (·.1)).Nodup→((l.filterMap (λp=>(vP d s b x c seen p.1).map (λr=>(p.1,r)))).map (·.1)).Nodup
 |[],_=>by simp
 |p::l,h=>by
  rw[ef,sx]at h;rw[List.filterMap_cons];cases hs:vP d s b x c seen p.1 with
  |none=>simp only[Option.map_none];exact Sn h.2
  |some r=>simp only[bZ,ef,sx];refine⟨λq=>?_,Sn h.2⟩;obtain⟨z,hz,GB⟩:=gB.1 q;have:=(NV l z hz).2;rw[GB]at this;exact h.1 this
theorem Z3{seen:List bB}{k:aG}(h:(nG seen k).isSome=false):∀e∈seen,e.key≠k:=by intro e he q;unfold nG at h;rw[Option.isSome_eq_false_iff,Option.isNone_iff_eq_none,List.find?_eq_none]at h;exact h e he (by simpa using q)
theorem ajU{seen:List bB}(h:oT seen):(seen.map (·.key)).Nodup:=by unfold oT at h;rw[List.nodup_iff_pairwise_ne,List.pairwise_map];exact h.imp λ{a b}q e=>by rw[e,B0]at q;cases q
theorem go_nodup{d:bV}{s:cQ}{b:bn}{x:bz}{t c:Int}{seen:List bB}(xR:oT seen){l:List (aG×cH)}(hl:(l.map (·.1)).Nodup):((seen.map (λe=>(e.key,Bi d s b x t c e))++l.filterMap (λp=>(vP d s b x c seen p.1).map (λr=>(p.1,r)))).map (·.1)).Nodup:=by rw[List.map_append,List.map_map,List.nodup_append];refine⟨ajU xR,Sn hl,λa ha b' hb' q=>?_⟩;subst q;obtain⟨e,he,rfl⟩:=gB.1 ha;obtain⟨z,hz,GB⟩:=gB.1 hb';exact Z3 (NV l z hz).1 e he (by rw[GB];rfl)
theorem acz{d:bV}{s:cQ}{σ:Heap}{pd:AV}{ids bk g ib to:Nat}{b:bn}{x:bz}{t:Int}(hd:vf pd d σ)(h1:σ[ids]? =some (.box (bF (.os bk g 10 0 s.aD.length) s)))(h2:σ[bk]? =some (.arr g 10 (s.aD.map aN)))(hb:s.aD[ib]? =some b)(Wu:b.bH[to]? =some x)(hs:s.aD.length≤bg)(ho:∀b∈s.aD,uS b t)(hp:gu BV d.setup.cq)(PK:gu D8 b.bH)(xR:oT (zD b x))(Dh:(zD b x).length≤bg)(hcan:∀b∈s.aD,FI b.runs):
  vL [pd,.op ids 0,.ah (ib:Int),.ah (to:Int),.ah t] σ=some (.aM [],σ.set bk (.arr g 10 ((s.aD.set ib (nv d s b x to t)).map aN))):=by
 refine apx (jC _) ?_;have yV:b∈s.aD:=cS hb;have hxm:x∈b.bH:=cS Wu;have hox:=PK.2 x hxm;have hxi:aV x.aC:=hox.1;have asb:x.dW.length≤bg:=(Yz hox).1;have BB:I1 (.oe bk g ib 0) b σ:=bRd h2 hb;have hlb:=(bM.1 hb).1;have hlt:=(bM.1 h2).1;have hls:=(bM.1 h1).1;have Ey:=ho b yV;have CK:=Ey.sX;have iN:b.bH.length≤bg:=PK.1;have hto:=(bM.1 Wu).1
 have Gx:((b.runs.getD []).map (·.1)).Nodup:=by
  cases hr:b.runs with
  |none=>simp
  |some l=>exact(hcan b yV l hr).1
 have Gt:∀k,(dU b k (dL b.aI t)).2=true→uO (dU b k (dL b.aI t)).1.ia:=λk q=>B9 Ey q
 have rd:∀o ex,A.deref (.oe bk g ib o) (σ++ex)=some ((aN b).drop o):=λo ex=>by
  obtain⟨q,e1,e2⟩:=BB.f o;have:q=.oe bk g ib o:=by simp [A.aF]at e1;exact e1.symm
  rw[←this];exact e2 ex
 have P0:∀o,A.deref (.oe bk g ib o) σ=some ((aN b).drop o):=λo=>by have:=rd o [];rwa[List.append_nil]at this
 unfold QO
 rw[show A.aU (.op ids 0)=some (.op ids 0)from rfl,bS,show A.aF 0 (.op ids 0)=some (.op ids 0)from rfl,bS,show((A.deref (.op ids 0) σ).bind λc=>A.ak 0 c)=some (.os bk g 10 0 s.aD.length)from by simp only[A.deref,h1];rfl,bS,show A.aY 10 (.os bk g 10 0 s.aD.length) (.ah (ib:Int))=some (.oe bk g ib 0)from by
  have:((ib:Int)<(s.aD.length:Int)):=by omega
  simp [A.aY,A.idx,this],bS]
 simp only[show A.aU (.oe bk g ib 0)=some (.oe bk g ib 0)from rfl,bS,show ∀o,A.aF o (.oe bk g ib 0)=some (.oe bk g ib o)from λo=>by simp [A.aF],P0];rw[show A.ak 0 ((aN b).drop 5)=some (sl 11 br b.bH)from rfl,bS,jG Wu,bS,oD,bS,show A.aB 0 11 (br x)=some (.agg (br x))from rfl,bS,Oo,bS,Km _ _ rfl,bS,show A.aB 0 3 ((aN b).drop 0)=some (.agg (wU b.aI))from rfl,bS,Kz,bS];simp only[P0,bS];rw[show A.ak 0 ((aN b).drop 5)=some (sl 11 br b.bH)from rfl,bS,SG,bS,eT (amL PK hxi σ),bS,lW,bS,ext1,bS,show(A0 b.bH x.aC).1=zD b x from rfl,gH,bS];rw[show(σ++[aS.map []])++[aS.map []]=rM σ [] []from by rw[lU];rfl,show(σ++[aS.map []]).length=σ.length+1 from by simp];refine(congrArg (λz=>Option.bind z _) (go_loop1 hd h1 h2 yV BB hs ho hp asb Dh xR)).trans ?_;rw[bS];simp only[oa,rd,bS];rw[show A.ak 0 ((aN b).drop 9)=some (pJ (λx=>AV.agg (aT x)) (λx=>AV.agg (fU x)) b.runs)from Hw b (σ:=[]),bS,Za,bS];obtain⟨seen,FC⟩:∃seen,seen=zD b x:=⟨_,rfl⟩
 obtain⟨c,hc⟩:∃c,c=dL b.aI t:=⟨_,rfl⟩
 have ED:Fp d s b x t=seen.map (λe=>(e.key,Bi d s b x t c e))++(b.runs.getD []).filterMap (λp=>(vP d s b x c seen p.1).map (λr=>(p.1,r))):=by rw[FC,hc];rfl
 rw[←FC]at xR Dh;rw[←hc]at CK Gt;rw[←FC,←hc];obtain⟨es,Aq⟩:∃es,es=b.runs.getD []:=⟨_,rfl⟩
 rw[←Aq]at Gx ED;rw[←Aq];obtain⟨m1,hm1⟩:∃m1,m1=seen.map (λe=>(e.key,Bi d s b x t c e)):=⟨_,rfl⟩
 obtain⟨m2,hm2⟩:∃m2,m2=seen.map (λe=>(e.key,true)):=⟨_,rfl⟩
 rw[←hm1]at ED;rw[←hm1,←hm2];have hWl:(rM σ m1 m2).length=σ.length+2:=by simp
 rw[hWl,show rM σ m1 m2++[aS.it [] (es.map ew)]=vn σ m1 m2 [] (es.map ew)from by rw[lU];rfl];obtain⟨st,hst⟩:∃st,st=λp:aG×cH=>(vP d s b x c seen p.1).map (λr=>(p.1,r)):=⟨_,rfl⟩
 rw[←hst]at ED;refine Sk (α:=aG×cH) (enc:=ew) (it:=σ.length+2) (es:=es) _ _ (λ_ _ _=>rfl) (λdn lf w W=>w=[.lbx (br x)]∧∃cu,W=vn σ (m1++dn.filterMap st) m2 cu (lf.map ew)) ?_ ?_ ?_ ?_
 ·rintro dn lf w W ⟨rfl,cu,rfl⟩;exact⟨cu,acA _ _ _ _ _⟩
 ·rintro dn lf w W j p Ck ⟨rfl,cu,rfl⟩ hj;rw[anw]
  have hpk:∀q∈m1++dn.filterMap st,st p≠none→q.1≠p.1:=by
   intro q hq hsp e
   have hpn:(nG seen p.1).isSome=false:=by
    have:p.1∈[p].map (·.1):=by simp
    obtain⟨r,hr⟩:=Option.ne_none_iff_exists'.1 hsp;rw[hst]at hr;have:=(NV (d:=d) (s:=s) (b:=b) (x:=x) (c:=c) (seen:=seen) [p] r (List.mem_filterMap.2 ⟨p,by simp,hr⟩)).1;obtain⟨r',_,hr'⟩:=eG.1 hr;rw[←hr']at this;exact this
   rcases kM.1 hq with hq|hq
   ·rw[hm1]at hq;obtain⟨e',he',rfl⟩:=gB.1 hq;exact Z3 hpn e' he' e
   ·rw[hst]at hq;have hk:=(NV dn q hq).2;rw[e]at hk;have hnd:((dn++lf).map (·.1)).Nodup:=(Ck.map (·.1)).nodup_iff.2 Gx;rw[List.map_append,List.nodup_append]at hnd;exact hnd.2.2 p.1 hk p.1 (gB.2 ⟨p,cS hj,rfl⟩) rfl
  obtain⟨W,hW⟩:∃W,W=vn σ (m1++dn.filterMap st) m2 [ew p] ((lf.eraseIdx j).map ew):=⟨_,rfl⟩
  rw[←hW]
  have Le:A.yq (.op (σ.length+2) 0) W=some (.aM [.agg (aT p.1),.agg (fU p.2)]):=by rw[hW];simp only[A.yq,acA];rfl
  refine⟨[.lbx (br x)],vn σ (m1++(dn++[p]).filterMap st) m2 [ew p] ((lf.eraseIdx j).map ew),λK=>?_,rfl,_,rfl⟩;rw[Le,bS,lW,bS,DJ,bS,H8 _ _ rfl,bS,qZ,bS];have UR:∀k,oJ [.oe bk g ib 0,.agg (aT k),.ah c] W=some (.aM [.agg (fU (dU b k c).1),.bool (dU b k c).2],W):=λk=>by rw[hW];exact SU BB k c _
  rw[UR,bS];simp only[lW,ext1,bS,zn,BY _ _ (show pY.length=9 from rfl),yJ];obtain⟨Jg,pm,g1,g2⟩:=hd.f10;have g3:((A.deref Jg W).bind λc=>A.ak 0 c)=some pm:=by rw[hW];exact(g2 _).1
  have g4:A.look (.s [0,2]) pm (.agg (aT p.1)) (.agg FF) W=some (.agg (lQ d p.1)):=by rw[hW];exact(g2 _).2 p.1
  have g5:A.look (.s [0,2]) (.om (σ.length+1)) (.agg (aT p.1)) (.bool false) W=some (.bool (nG seen p.1).isSome):=by rw[hW,aoW,hm2,amG]
  have skip:st p=none→K (.normal,[.lbx (br x)],W)=K (.normal,[.lbx (br x)],vn σ (m1++(dn++[p]).filterMap st) m2 [ew p] ((lf.eraseIdx j).map ew)):=by intro h;rw[hW,List.filterMap_append,List.filterMap_cons,h,List.filterMap_nil,List.append_nil]
  by_cases oh:(dU b p.1 c).2=true
  case neg=>
   have FY:(dU b p.1 c).2=false:=by simpa using oh
   rw[FY];simp only[Bool.not_false,Bz,gU,bS,nw,cT,bW];exact skip (by rw[hst];simp only[vP,FY,true_or,if_true,Option.map_none])
  rw[oh];simp only[Bool.not_true,gF,bS,pM,g5,qZ];by_cases Wt:(nG seen p.1).isSome=true
  ·rw[Wt];simp only[Bz,gU,bS,nw,cT,bW];exact skip (by rw[hst];simp only[vP,Wt,true_or,or_true,if_true,Option.map_none])
  have aek:(nG seen p.1).isSome=false:=by simpa using Wt
  rw[aek];simp only[gF,bS,pM,hd.nc,g1,g3,g4,qZ,Ia,Cd,ij];by_cases De:(gC d p.1).1=1
  case neg=>
   rw[cz De];simp only[cT,bW];exact skip (by rw[hst];simp only[vP,De,not_false_eq_true,or_true,if_true,Option.map_none])
  rw[cD (λq=>q De)];simp only[cF,JR,bS,yJ];have hfo:=Gt p.1 oh
  have D3:¬((dU b p.1 c).2=false∨(nG seen p.1).isSome=true∨¬(gC d p.1).1=1):=by rw[oh,aek,De];simp
  have last:∀r:cH,st p=some (p.1,r)→((A.fV (.s [0,2]) (.om σ.length) (.agg (aT p.1)) (.agg (fU r)) W).bind λUO=>K (.normal,[.lbx (br x)],UO))=K (.normal,[.lbx (br x)],vn σ (m1++(dn++[p]).filterMap st) m2 [ew p] ((lf.eraseIdx j).map ew)):=by intro r hr;rw[hW,aoX,bS,Kw (λq hq=>hpk q hq (by rw[hr];simp)),List.filterMap_append,List.filterMap_cons,hr,List.filterMap_nil,lU]
  cases EB:(dU b p.1 c).1.ending
  case true=>
   simp only[Bool.not_true,cF,bS,bW,cA,ji,qZ,yj];exact last _ (by rw[hst];simp only[vP,aP D3,EB,if_true,bZ])
  case false=>
   simp only[Bool.not_false,cT,bS,yj,eT (Ki hfo CK W),bW,cA,ji,SH,SI,Rg];rw[al7,bS,Fg,bS,Of _ _ rfl,bS,HS,bS,eT (T6 _ W),bS]
   rw[show A.aF 1 (.op ids 0)=some (.op ids 1)from rfl,bS,show((A.deref (.op ids 1) W).bind λKR=>A.ak 0 KR)=some (.ah s.aC)from by
    rw[hW];simp only[A.deref,jg hls,h1];rfl,bS,Tw,bS,zn,bS,BY _ _ rfl,bS,bS]
   simp only[bW,cA,ji,bS,qZ,yj];exact last _ (by rw[hst];simp only[vP,aP D3,EB,bZ];rfl)
 ·rintro dn w W Ck ⟨rfl,cu,rfl⟩;simp only[oa];obtain⟨m,hm⟩:∃m,m=m1++dn.filterMap st:=⟨_,rfl⟩
  rw[←hm];obtain⟨ex,hex⟩:∃ex:Heap,ex=[.map (m.map ew),.map (m2.map Eh),.it cu (([]:List (aG×cH)).map ew)]:=⟨_,rfl⟩
  rw[show vn σ m m2 cu (([]:List (aG×cH)).map ew)=σ++ex from by rw[hex]]
  have hmp:m.Perm (Fp d s b x t):=by rw[ED,hm];exact(Ck.filterMap st).append_left m1
  have hnd:(m.map (·.1)).Nodup:=by rw[hm,hm1,hst];exact go_nodup xR ((Ck.map (·.1)).nodup_iff.2 Gx)
  rw[show((((A.cell (AV.ah c)).bind λv=>some [v]).bind λFT=>(A.aq 0 FT [(AV.ah 0),(AV.ah 0),aO]).bind λFU=>((A.cell (AV.ah t)).bind λv=>some [v]).bind λFV=>(A.aq 1 FV FU).bind λKS=>((A.cell aO).bind λv=>some [v]).bind λKT=>(A.aq 2 KT KS).bind λKU=>some KU).bind λcs=>some (AV.agg cs))=some (.agg [.ah c,.ah t,.bool false])from rfl,bS];try simp only[show A.aU (.oe bk g ib 0)=some (.oe bk g ib 0)from rfl,bS,show ∀o,A.aF o (.oe bk g ib 0)=some (.oe bk g ib o)from λo=>by simp [A.aF]]
  rw[show A.cells 3 (.agg [.ah c,.ah t,.bool false])=some [.ah c,.ah t,.bool false]from rfl,bS];have Ja:(σ++ex)[bk]? =some (.arr g 10 (s.aD.map aN)):=by rw[jg hlt];exact h2
  have Wp:(s.aD.map aN)[ib]? =some (aN b):=by rw[sy,hb];rfl
  have hlm:ib<(s.aD.map aN).length:=by simpa using hlb
  have PN:bk<(σ++ex).length:=by simp;omega
  have chain:∀(o:Nat)(row row' new:au),A.aq o new row=some row'→A.storeAt (.oe bk g ib o) new ((σ++ex).set bk (.arr g 10 ((s.aD.map aN).set ib row)))=some ((σ++ex).set bk (.arr g 10 ((s.aD.map aN).set ib row'))):=by intro o row row' new hsp;rw[Kn (W:=(σ++ex).set bk (.arr g 10 ((s.aD.map aN).set ib row))) (rows:=(s.aD.map aN).set ib row) (pZ PN) (pZ hlm) hsp,List.set_set,List.set_set]
  obtain⟨rv,Wr⟩:∃rv,rv=pJ (λx=>AV.agg (aT x)) (λx=>AV.agg (fU x)) b.runs:=⟨_,rfl⟩
  rw[Kn (row':=[.ah c,.ah t,.bool false,.ah b.aC,.ah b.kH,sl 11 br b.bH,.ah b.cm,.ah b.iK,.ah b.eA,rv]) Ja Wp (by rw[Wr];rfl),bS];rw[rX,bS,chain 6 _ (Bu c t b to b.eA rv) _ rfl,bS];rw[show((A.cell (AV.om σ.length)).bind λv=>some [v])=some [.om σ.length]from rfl,bS,chain 9 _ (Bu c t b to b.eA (.om σ.length)) _ rfl,bS];rw[rX,bS,chain 8 _ (Bu c t b to (-1) (.om σ.length)) _ rfl,bS];simp only[bW,ji,bS,Z0,uc];have fin:=λ(fo:Int)(hfo:(nv d s b x to t).eA=fo)=>R5 (σ:=σ) (ex:=ex) (b':=nv d s b x to t) (m:=m) (R:=Fp d s b x t) h2 hb hcan rfl hmp hnd (by rw[hex];rfl)
  have hrow:[AV.ah (nv d s b x to t).aI.shown,.ah (nv d s b x to t).aI.since,.bool (nv d s b x to t).aI.jv,.ah (nv d s b x to t).aC,.ah (nv d s b x to t).kH,sl 11 br (nv d s b x to t).bH,.ah (nv d s b x to t).cm,.ah (nv d s b x to t).iK,.ah (nv d s b x to t).eA,.om σ.length]=Bu c t b to (nv d s b x to t).eA (.om σ.length):=by rw[hc];rfl
  have fin:=R5 (σ:=σ) (ex:=ex) (b':=nv d s b x to t) (m:=m) (R:=Fp d s b x t) h2 hb hcan rfl hmp hnd (by rw[hex];rfl);rw[hrow]at fin;have Em:(nv d s b x to t).eA=if 0≤x.eA∧(to:Int)+1<(b.bH.length:Int)then IntKind.i64.wrap (c+x.eA)else -1:=by rw[hc];rfl
  by_cases EC:0≤x.eA
  ·rw[cz EC];simp only[gT,bS,show A.aU (.oe bk g ib 0)=some (.oe bk g ib 0)from rfl,show ∀o,A.aF o (.oe bk g ib 0)=some (.oe bk g ib o)from λo=>by simp [A.aF]];rw[Pa (by unfold bg at iN;omega),bS]
   rw[show((A.deref (.oe bk g ib 5) ((σ++ex).set bk (.arr g 10 ((s.aD.map aN).set ib (Bu c t b to (-1) (.om σ.length)))))).bind λUI=>A.ak 0 UI)=some (sl 11 br b.bH)from by
    simp only[A.deref,pZ PN,if_true,pZ hlm,bZ];rfl,bS,gH,bS,l8,bS,nw,bS]
   by_cases vu:(to:Int)+1<(b.bH.length:Int)
   ·rw[cz (by omega),dr];rw[aQ ⟨EC,vu⟩]at Em;rw[Em]at fin;rw[mz,bS,rX,bS,chain 8 _ (Bu c t b to (IntKind.i64.wrap (c+x.eA)) (.om σ.length)) _ rfl,bS,bS];exact fin
   ·rw[cD (by omega),cR,bS];rw[aP (λq=>vu q.2)]at Em;rw[Em]at fin;exact fin
  ·rw[cD EC];simp only[wA,gU,bS,pM,cF];rw[aP (λq=>EC q.1)]at Em;rw[Em]at fin;exact fin
 ·refine⟨rfl,[],?_⟩;rw[List.filterMap_nil,List.append_nil]
end
section
set_option maxRecDepth 100000
open HP
noncomputable def Bc (d:bV) (s:cQ) (b:bn) (c lv:Int) (k:aG):Option cH:=
 if(dU b k c).2=false∨¬(gC d k).1=1 then none
 else some ⟨wj ⟨xV (dU b k c).1 c,0,c,0,lv,⟨1,[]⟩⟩,s.aC,true⟩
noncomputable def Kl (d:bV) (s:cQ) (b:bn) (a:fR):List (aG×cH):=(b.runs.getD []).filterMap (λp=>(Bc d s b (dL b.aI a.time) a.level p.1).map (λr=>(p.1,r)))
noncomputable def wq (d:bV) (s:cQ) (b:bn) (a:fR):bn:={b with aI:=⟨dL b.aI a.time,a.time,false⟩,cm:=-1,eA:=-1,runs:=some (Ee (Kl d s b a))}
abbrev yM(σ:Heap)(m:List (aG×cH))(c l:List (AV×AV)):Heap:=σ++[.map (m.map ew),.it c l]
theorem abW(σ:Heap)(m:List (aG×cH))(c l:List (AV×AV)):(yM σ m c l)[σ.length+1]? =some (.it c l):=by rw[iZ (by omega),show σ.length+1-σ.length=1 by omega];rfl
theorem amn(σ:Heap)(m:List (aG×cH))(c l c' l':List (AV×AV)):(yM σ m c l).set (σ.length+1) (.it c' l')=yM σ m c' l':=by rw[qu _ _ (by omega),show σ.length+1-σ.length=1 by omega];rfl
theorem apl(σ:Heap)(m:List (aG×cH))(c l:List (AV×AV))(k:aG)(r:cH):A.fV (.s [0,2]) (.om σ.length) (.agg (aT k)) (.agg (fU r)) (yM σ m c l)=some (yM σ (eH k r m) c l):=by rw[B3 _ rfl (show(yM σ m c l)[σ.length]? =some (.map (m.map ew)) by rw[iZ (bD _),Nat.sub_self];rfl),show A.upd (.s [0,2]) (.agg (aT k)) (.agg (fU r)) (m.map ew)=some ((eH k r m).map ew)from FE (eK:=λk=>AV.agg (aT k)) (eV:=λr=>AV.agg (fU r)) tL k r m,bZ,qu _ _ (bD _),Nat.sub_self];rfl
theorem aa3{d:bV}{s:cQ}{b:bn}{c lv:Int}:∀(l:List (aG×cH)),∀p∈l.filterMap (λp=>(Bc d s b c lv p.1).map (λr=>(p.1,r))),p.1∈l.map (·.1):=by intro l p hp;obtain⟨q,hq,h⟩:=List.mem_filterMap.1 hp;obtain⟨r,hr,rfl⟩:=eG.1 h;exact gB.2 ⟨q,hq,rfl⟩
theorem NS{d:bV}{s:cQ}{b:bn}{c lv:Int}:∀{l:List (aG×cH)},(l.map (·.1)).Nodup→((l.filterMap (λp=>(Bc d s b c lv p.1).map (λr=>(p.1,r)))).map (·.1)).Nodup
 |[],_=>by simp
 |p::l,h=>by
  rw[ef,sx]at h;rw[List.filterMap_cons];cases hs:Bc d s b c lv p.1 with
  |none=>simp only[Option.map_none];exact NS h.2
  |some r=>simp only[bZ,ef,sx];refine⟨λq=>?_,NS h.2⟩;obtain⟨z,hz,GB⟩:=gB.1 q;have:=aa3 l z hz;rw[GB]at this;exact h.1 this
theorem al6(eo c lv:Int):((((A.cell (.ah eo)).bind λv=>some [v]).bind λqJ=>(A.aq 0 qJ [(AV.ah 0),(AV.ah 0),(AV.ah 0),(AV.ah 0),(AV.ah 0),(AV.ah 0),AV.az]).bind λpG=>((A.cell (.ah c)).bind λv=>some [v]).bind λLv=>(A.aq 2 Lv pG).bind λqK=>((A.cell (.ah lv)).bind λv=>some [v]).bind λyP=>(A.aq 4 yP qK).bind λjS=>(A.cells 2 (.agg [.ah 1,.az])).bind λsR=>(A.aq 5 sR jS).bind λjo=>some jo).bind λcs=>some (AV.agg cs))=some (.agg [.ah eo,.ah 0,.ah c,.ah 0,.ah lv,.ah 1,.az]):=rfl
theorem am6(eo c lv:Int)(σ:Heap):yc [.agg [.ah eo,.ah 0,.ah c,.ah 0,.ah lv,.ah 1,.az]] σ=some (.agg (gR (wj ⟨eo,0,c,0,lv,⟨1,[]⟩⟩)),σ):=by have h:=T6 ⟨eo,0,c,0,lv,⟨1,[]⟩⟩ σ;rw[←h];exact TJ rfl rfl rfl
theorem ak3{d:bV}{s:cQ}{σ:Heap}{pd:AV}{ids bk g ib:Nat}{b:bn}{a:fR}(hd:vf pd d σ)(h1:σ[ids]? =some (.box (bF (.os bk g 10 0 s.aD.length) s)))(h2:σ[bk]? =some (.arr g 10 (s.aD.map aN)))(hb:s.aD[ib]? =some b)(Ey:uS b a.time)(hcan:∀b∈s.aD,FI b.runs):
  Jr [pd,.op ids 0,.oe bk g ib 0,.agg (cg a)] σ=some (.aM [],σ.set bk (.arr g 10 ((s.aD.set ib (wq d s b a)).map aN))):=by
 have apw:∀{r:AV→AV→AV→AV→Heap→aH}{x y z u:AV}{σ σ':Heap},r x y z u σ=some (.aM [],σ')→A.wrap false [] .k (A.vg r) [x,y,z,u] σ=some (.aM [],σ'):=by intro r x y z u σ σ' e;have:A.vg r [x,y,z,u] σ=some (.aM [],σ'):=e;simp only[A.wrap,Bool.false_and,bE,A.cG,this,bZ,jC]
 refine apw ?_;have yV:b∈s.aD:=cS hb;have BB:I1 (.oe bk g ib 0) b σ:=bRd h2 hb;have hlb:=(bM.1 hb).1;have hlt:=(bM.1 h2).1;have hls:=(bM.1 h1).1;have CK:=Ey.sX
 have Gx:((b.runs.getD []).map (·.1)).Nodup:=by
  cases hr:b.runs with
  |none=>simp
  |some l=>exact(hcan b yV l hr).1
 have Gt:∀k,(dU b k (dL b.aI a.time)).2=true→uO (dU b k (dL b.aI a.time)).1.ia:=λk q=>B9 Ey q
 have rd:∀o ex,A.deref (.oe bk g ib o) (σ++ex)=some ((aN b).drop o):=λo ex=>by
  obtain⟨q,e1,e2⟩:=BB.f o;have:q=.oe bk g ib o:=by simp [A.aF]at e1;exact e1.symm
  rw[←this];exact e2 ex
 have P0:∀o,A.deref (.oe bk g ib o) σ=some ((aN b).drop o):=λo=>by have:=rd o [];rwa[List.append_nil]at this
 unfold Qu;rw[show A.cells 5 (.agg (cg a))=some (cg a)from rfl,bS];simp only[show A.aU (.oe bk g ib 0)=some (.oe bk g ib 0)from rfl,bS,show ∀o,A.aF o (.oe bk g ib 0)=some (.oe bk g ib o)from λo=>by simp [A.aF],P0,rd];rw[show A.aB 0 3 ((aN b).drop 0)=some (.agg (wU b.aI))from rfl,bS,show A.ak 0 (cg a)=some (.ah a.time)from rfl,bS,eT (Kz _ _ σ),bS];rw[show A.ak 0 ((aN b).drop 9)=some (pJ (λx=>AV.agg (aT x)) (λx=>AV.agg (fU x)) b.runs)from Hw b (σ:=[]),bS,Za,bS];obtain⟨c,hc⟩:∃c,c=dL b.aI a.time:=⟨_,rfl⟩
 have ED:Kl d s b a=(b.runs.getD []).filterMap (λp=>(Bc d s b c a.level p.1).map (λr=>(p.1,r))):=by rw[hc];rfl
 rw[←hc]at CK Gt;rw[←hc];obtain⟨es,Aq⟩:∃es,es=b.runs.getD []:=⟨_,rfl⟩
 rw[←Aq]at Gx ED;rw[←Aq];rw[show(σ++[aS.map []]).length=σ.length+1 from by simp,show(σ++[aS.map []])++[aS.it [] (es.map ew)]=yM σ [] [] (es.map ew)from by rw[lU];rfl];obtain⟨st,hst⟩:∃st,st=λp:aG×cH=>(Bc d s b c a.level p.1).map (λr=>(p.1,r)):=⟨_,rfl⟩
 rw[←hst]at ED;refine Sk (α:=aG×cH) (enc:=ew) (it:=σ.length+1) (es:=es) _ _ (λ_ _ _=>rfl) (λdn lf w W=>w=[.lbx (cg a)]∧∃cu,W=yM σ (dn.filterMap st) cu (lf.map ew)) ?_ ?_ ?_ ?_
 ·rintro dn lf w W ⟨rfl,cu,rfl⟩;exact⟨cu,abW _ _ _ _⟩
 ·rintro dn lf w W j p Ck ⟨rfl,cu,rfl⟩ hj;rw[amn]
  have hpk:∀q∈dn.filterMap st,q.1≠p.1:=by intro q hq e;rw[hst]at hq;have hk:=aa3 dn q hq;rw[e]at hk;have hnd:((dn++lf).map (·.1)).Nodup:=(Ck.map (·.1)).nodup_iff.2 Gx;rw[List.map_append,List.nodup_append]at hnd;exact hnd.2.2 p.1 hk p.1 (gB.2 ⟨p,cS hj,rfl⟩) rfl
  obtain⟨W,hW⟩:∃W,W=yM σ (dn.filterMap st) [ew p] ((lf.eraseIdx j).map ew):=⟨_,rfl⟩
  rw[←hW]
  have Le:A.yq (.op (σ.length+1) 0) W=some (.aM [.agg (aT p.1),.agg (fU p.2)]):=by rw[hW];simp only[A.yq,abW];rfl
  refine⟨[.lbx (cg a)],yM σ ((dn++[p]).filterMap st) [ew p] ((lf.eraseIdx j).map ew),λK=>?_,rfl,_,rfl⟩;rw[Le,bS,lW,bS,DJ,bS,H8 _ _ rfl,bS,qZ,bS];have UR:∀k,oJ [.oe bk g ib 0,.agg (aT k),.ah c] W=some (.aM [.agg (fU (dU b k c).1),.bool (dU b k c).2],W):=λk=>by rw[hW];exact SU BB k c _
  rw[UR,bS];simp only[lW,ext1,bS,zn,BY _ _ (show pY.length=9 from rfl),yJ];obtain⟨Jg,pm,g1,g2⟩:=hd.f10;have g3:((A.deref Jg W).bind λc=>A.ak 0 c)=some pm:=by rw[hW];exact(g2 _).1
  have g4:A.look (.s [0,2]) pm (.agg (aT p.1)) (.agg FF) W=some (.agg (lQ d p.1)):=by rw[hW];exact(g2 _).2 p.1
  have skip:st p=none→K (.normal,[.lbx (cg a)],W)=K (.normal,[.lbx (cg a)],yM σ ((dn++[p]).filterMap st) [ew p] ((lf.eraseIdx j).map ew)):=by intro h;rw[hW,List.filterMap_append,List.filterMap_cons,h,List.filterMap_nil,List.append_nil]
  by_cases oh:(dU b p.1 c).2=true
  case neg=>
   have FY:(dU b p.1 c).2=false:=by simpa using oh
   rw[FY];simp only[Bool.not_false,Bz,gU,bS,nw,cT,bW];exact skip (by rw[hst];simp only[Bc,FY,true_or,if_true,Option.map_none])
  rw[oh];simp only[Bool.not_true,gF,bS,pM,hd.nc,g1,g3,g4,qZ,Ia,Cd,ij];by_cases De:(gC d p.1).1=1
  case neg=>
   rw[cz De];simp only[cT,bW];exact skip (by rw[hst];simp only[Bc,De,not_false_eq_true,or_true,if_true,Option.map_none])
  rw[cD (λq=>q De)];simp only[cF,bS,yj,eT (Ki (Gt p.1 oh) CK W),bW,ji,show A.ak 4 (cg a)=some (.ah a.level)from rfl]
  have D3:¬((dU b p.1 c).2=false∨¬(gC d p.1).1=1):=by rw[oh,De];simp
  rw[show((((A.cell (AV.ah 1)).bind λv=>some [v]).bind λiD=>(A.aq 0 iD [(AV.ah 0),AV.az]).bind λsQ=>some sQ).bind λcs=>some (AV.agg cs))=some (.agg [.ah 1,.az])from rfl,bS,al6,bS,eT (am6 _ _ _ W),bS]
  rw[show A.aU (.op ids 0)=some (.op ids 0)from rfl,bS,show A.aF 1 (.op ids 0)=some (.op ids 1)from rfl,bS,show((A.deref (.op ids 1) W).bind λKR=>A.ak 0 KR)=some (.ah s.aC)from by
    rw[hW];simp only[A.deref,jg hls,h1];rfl,bS,Tw,bS]
  have hr:st p=some (p.1,⟨wj ⟨xV (dU b p.1 c).1 c,0,c,0,a.level,⟨1,[]⟩⟩,s.aC,true⟩):=by rw[hst];simp only[Bc,aP D3,bZ]
  rw[hW,apl,bS,Kw hpk,List.filterMap_append,List.filterMap_cons,hr,List.filterMap_nil]
 ·rintro dn w W Ck ⟨rfl,cu,rfl⟩;simp only[oa];obtain⟨m,hm⟩:∃m,m=dn.filterMap st:=⟨_,rfl⟩
  rw[←hm];obtain⟨ex,hex⟩:∃ex:Heap,ex=[.map (m.map ew),.it cu (([]:List (aG×cH)).map ew)]:=⟨_,rfl⟩
  rw[show yM σ m cu (([]:List (aG×cH)).map ew)=σ++ex from by rw[hex]]
  have hmp:m.Perm (Kl d s b a):=by rw[ED,hm];exact Ck.filterMap st
  have hnd:(m.map (·.1)).Nodup:=by rw[hm,hst];exact NS ((Ck.map (·.1)).nodup_iff.2 Gx)
  simp only[bW,ji,bS,show A.ak 0 (cg a)=some (.ah a.time)from rfl];rw[show((((A.cell (AV.ah c)).bind λv=>some [v]).bind λFT=>(A.aq 0 FT [(AV.ah 0),(AV.ah 0),aO]).bind λFU=>((A.cell (AV.ah a.time)).bind λv=>some [v]).bind λFV=>(A.aq 1 FV FU).bind λKS=>((A.cell aO).bind λv=>some [v]).bind λKT=>(A.aq 2 KT KS).bind λKU=>some KU).bind λcs=>some (AV.agg cs))=some (.agg [.ah c,.ah a.time,.bool false])from rfl,bS];rw[show A.cells 3 (.agg [.ah c,.ah a.time,.bool false])=some [.ah c,.ah a.time,.bool false]from rfl,bS];have Ja:(σ++ex)[bk]? =some (.arr g 10 (s.aD.map aN)):=by rw[jg hlt];exact h2
  have Wp:(s.aD.map aN)[ib]? =some (aN b):=by rw[sy,hb];rfl
  have hlm:ib<(s.aD.map aN).length:=by simpa using hlb
  have PN:bk<(σ++ex).length:=by simp;omega
  have chain:∀(o:Nat)(row row' new:au),A.aq o new row=some row'→A.storeAt (.oe bk g ib o) new ((σ++ex).set bk (.arr g 10 ((s.aD.map aN).set ib row)))=some ((σ++ex).set bk (.arr g 10 ((s.aD.map aN).set ib row'))):=by intro o row row' new hsp;rw[Kn (W:=(σ++ex).set bk (.arr g 10 ((s.aD.map aN).set ib row))) (rows:=(s.aD.map aN).set ib row) (pZ PN) (pZ hlm) hsp,List.set_set,List.set_set]
  obtain⟨rv,Wr⟩:∃rv,rv=pJ (λx=>AV.agg (aT x)) (λx=>AV.agg (fU x)) b.runs:=⟨_,rfl⟩
  rw[Kn (row':=[.ah c,.ah a.time,.bool false,.ah b.aC,.ah b.kH,sl 11 br b.bH,.ah b.cm,.ah b.iK,.ah b.eA,rv]) Ja Wp (by rw[Wr];rfl),bS];rw[rX,bS,chain 6 _ (Bu c a.time b (-1) b.eA rv) _ rfl,bS];rw[bS,chain 8 _ (Bu c a.time b (-1) (-1) rv) _ rfl,bS];rw[show((A.cell (AV.om σ.length)).bind λv=>some [v])=some [.om σ.length]from rfl,bS,chain 9 _ (Bu c a.time b (-1) (-1) (.om σ.length)) _ rfl,bS];have hrow:[AV.ah (wq d s b a).aI.shown,.ah (wq d s b a).aI.since,.bool (wq d s b a).aI.jv,.ah (wq d s b a).aC,.ah (wq d s b a).kH,sl 11 br (wq d s b a).bH,.ah (wq d s b a).cm,.ah (wq d s b a).iK,.ah (wq d s b a).eA,.om σ.length]=Bu c a.time b (-1) (-1) (.om σ.length):=by rw[hc];rfl
  have fin:=R5 (σ:=σ) (ex:=ex) (b':=wq d s b a) (m:=m) (R:=Kl d s b a) h2 hb hcan rfl hmp hnd (by rw[hex];rfl);rw[hrow]at fin;exact fin
 ·refine⟨rfl,[],?_⟩;rw[List.filterMap_nil]
end
section
set_option maxRecDepth 100000
open HP
structure ac7 (x : bz) : Prop where
 d:0≤x.ct∧x.ct≤36000000
 u:0≤x.up∧x.up≤36000000
 n:0≤x.down∧x.down≤36000000
 o:0≤x.other∧x.other≤36000000
 f:-1≤x.eA∧x.eA≤36000000
 c:rq x.fB=0
 m:∀m∈x.dW,(0≤m.ct∧m.ct≤36000000)∧(0≤m.time∧m.time≤36000000)
 k:∀m∈x.dW,0≤m.key.unit∧m.key.unit≤1000000
theorem sw{n lo hi:Int}(h:bf n lo hi=true):lo≤n∧n≤hi:=by unfold bf at h;simpa using h
theorem aaG{l:List bz}(h:rY l=0){x:bz}(hx:x∈l):ac7 x:=by
 unfold rY at h;split at h
 ·cases h
 by_cases h2:jZ (zR l) l 0=0;case neg=>rw[aQ h2]at h;exact absurd h h2
 obtain⟨i,hi,e⟩:=List.getElem_of_mem hx;have hc:=(AR l 0).1 h2 i x (by rw[←e];exact bT hi);unfold zR at hc;split at hc
 ·cases hc
 split at hc
 ·cases hc
 split at hc
 ·cases hc
 split at hc
 ·cases hc
 rename_i h4;split at hc
 ·rename_i h5;exact absurd hc h5
 rename_i h5;split at hc
 ·cases hc
 simp only[Bool.or_eq_true,Bool.not_eq_true',not_or,Bool.not_eq_false]at h4;obtain⟨⟨⟨⟨a1,a2⟩,a3⟩,a4⟩,a5⟩:=h4;refine⟨sw a1,sw a2,sw a3,sw a4,sw a5,Decidable.not_not.1 h5,λm hm=>?_,λm hm=>?_⟩;all_goals obtain⟨j,hj,e⟩:=List.getElem_of_mem hm
 case refine_2=>
  unfold DV at hc;have nM:=(AR x.dW 0).1 hc j m (by rw[←e];exact bT hj);unfold Is at nM;split at nM
  ·cases nM
  ·rename_i q;simp only[Bool.not_eq_true',Bool.not_eq_false]at q;have:=sw q;omega
 unfold DV at hc;have nM:=(AR x.dW 0).1 hc j m (by rw[←e];exact bT hj);unfold Is at nM;split at nM
 ·cases nM
 split at nM
 ·cases nM
 split at nM
 ·cases nM
 split at nM
 ·cases nM
 split at nM
 ·cases nM
 split at nM
 ·cases nM
 rename_i h6;simp only[Bool.or_eq_true,Bool.not_eq_true',not_or,Bool.not_eq_false]at h6;exact⟨sw h6.1,sw h6.2⟩
theorem YK{P:aG→Prop}:∀{l:List bz}{st:List bB},(∀c∈l,∀m∈c.dW,P m.key)→(∀e∈st,P e.key)→∀e∈l.foldl H9 st,P e.key
 |[],st,_,h=>h
 |c::l,st,hl,h=>by
  refine YK (l:=l) (λc' qO=>hl c' (rE _ qO)) ?_
  have key:∀(ms:List gQ)(st:List bB),(∀m∈ms,P m.key)→(∀e∈st,P e.key)→∀e∈ms.foldl (yE c.aC) st,P e.key:=by
   intro ms;induction ms with
   |nil=>intro st _ h;exact h
   |cons m ms ih=>
    intro st hm h;refine ih _ (λm' hm'=>hm m' (rE _ hm')) ?_
    have h1:∀e∈(if Ld st m.key=true then st.eraseIdx (qz st m.key)else st),P e.key:=by
     intro e he;split at he
     ·exact h e (List.mem_of_mem_eraseIdx he)
     ·exact h e he
    intro e he;unfold yE at he;simp only at he;split at he
    ·exact h1 e he
    ·rcases kM.1 he with he|he
     ·rcases kM.1 he with he|he
      ·exact h1 e (xk he)
      ·rw[List.mem_singleton.1 he];exact hm m (by simp)
     ·exact h1 e (List.mem_of_mem_drop he)
  exact key c.dW st (hl c (by simp)) h
def Cl(l:List bz):List aG:=l.flatMap λc=>c.dW.map (·.key)
theorem YX{l:List bz}(h:rY l=0){k:aG}(hk:k∈Cl l):0≤k.unit∧k.unit≤1000000:=by obtain⟨c,hc,hm⟩:=List.mem_flatMap.1 hk;obtain⟨m,hm',rfl⟩:=gB.1 hm;exact(aaG h hc).k m hm'
theorem amx{b:bn}{x:bz}{e:bB}(he:e∈zD b x):e.key∈Cl b.bH:=by
 unfold zD A0 at he;split at he
 ·simp at he
 split at he
 ·simp at he
 exact YK (P:=λk=>k∈Cl b.bH) (λc hc m hm=>List.mem_flatMap.2 ⟨c,xk hc,gB.2 ⟨m,hm,rfl⟩⟩) (by simp) e he
theorem S8(b:bn)(x:bz):oT (zD b x)∧(zD b x).length≤600000000:=by
 unfold zD A0;split
 ·exact⟨List.Pairwise.nil,by simp⟩
 rename_i hz;split
 ·exact⟨List.Pairwise.nil,by simp⟩
 have hg:=Oy (Decidable.not_not.1 hz);have hlen:=hg.len;exact ag8 (l:=b.bH.take (nJ b.bH x.aC+1)) (by simp;omega) (λc hc=>(hg.mv c (xk hc)).1)
structure vY (N : Int) (b : bn) : Prop where
 uA:gu D8 b.bH
 eo:rY b.bH=0
 can:FI b.runs
 runs:∀k r,(k,r)∈b.runs.getD []→uO r.ia∧k∈Cl b.bH
 iK:0≤b.iK∧b.iK≤65535
 sX:0≤b.aI.shown∧b.aI.shown≤b.aI.since∧b.aI.since≤N
 cm:-1≤b.cm∧b.cm<(b.bH.length:Int)
 Ew:b.eA<0∨(b.cm+1<(b.bH.length:Int)∧dL b.aI N≤b.eA∧b.eA≤72000000)
structure kZ (N : Int) (s : cQ) : Prop where
 n:0≤N∧N≤36000000
 len:s.aD.length≤40
 bs:∀b∈s.aD,vY N b
 oN:0≤s.oN∧s.oN≤65535
structure vZ (d : bV) : Prop where
 pre:gu BV d.setup.cq
 lev:∀k v,0≤(zw d.setup.cq k v).1∧(zw d.setup.cq k v).1≤65535
 par:∀k,0≤(gC d k).2.1∧(gC d k).2.1≤65535
theorem Fo{N t:Int}{b:bn}(h:0≤b.aI.shown∧b.aI.shown≤b.aI.since∧b.aI.since≤N)(h1:N≤t)(h2:t≤36000000):dL b.aI t=(if b.aI.jv=true then b.aI.shown else b.aI.shown+t-b.aI.since)∧0≤dL b.aI t∧dL b.aI t≤t:=by
 obtain⟨a1,a2,a3⟩:=h;unfold dL;split
 ·exact⟨rfl,a1,by omega⟩
 ·rw[show IntKind.i64.wrap (b.aI.shown+t)=b.aI.shown+t from cL (by unfold aV;omega),cL (by unfold aV;omega)];exact⟨rfl,by omega,by omega⟩
theorem vY.ok{N t:Int}{b:bn}(h:vY N b)(h1:N≤t)(h2:t≤36000000):uS b t:=
 ⟨λk r hr=>(h.runs k r (Ix hr)).1,h.iK,(Fo h.sX h1 h2).2.1⟩
theorem TO{N:Int}{b:bn}(h:vY N b)(hN:N≤36000000):gV b=if b.eA<0∨b.aI.jv=true then -1 else b.aI.since+b.eA-b.aI.shown:=by
 obtain⟨a1,a2,a3⟩:=h.sX;unfold gV;split
 ·rfl
 ·rename_i q;rcases h.Ew with h3|⟨h3,h4,h5⟩
  ·exact absurd (.inl h3) q
  ·have:=(Fo h.sX (Int.le_refl N) hN).2;rw[show IntKind.i64.wrap (b.aI.since+b.eA)=b.aI.since+b.eA from cL (by unfold aV;omega),cL (by unfold aV;omega)]
theorem vY.mono{N N':Int}{b:bn}(h:vY N b)(h1:N≤N')(h2:N'≤36000000)(hd:gV b<0∨N'≤gV b):vY N' b:=by
 obtain⟨a1,a2,a3⟩:=h.sX;refine⟨h.uA,h.eo,h.can,h.runs,h.iK,⟨a1,a2,by omega⟩,h.cm,?_⟩;rcases h.Ew with h3|⟨h3,h4,h5⟩
 ·exact .inl h3
 ·by_cases hf:b.eA<0
  ·exact .inl hf
  refine .inr ⟨h3,?_,h5⟩;have e1:=(Fo h.sX (Int.le_refl N) (by omega)).1;have e2:=(Fo (t:=N') h.sX h1 h2).1;have e3:=TO h (by omega);rw[e2];rw[e1]at h4;by_cases hs:b.aI.jv=true
  ·rw[aQ hs]at h4 ⊢;exact h4
  ·rw[aP hs]at h4 ⊢;rw[aP (λq=>q.elim hf hs)]at e3;omega
theorem Ou{f:jd}(ha:0≤f.eo∧f.eo≤65535)(hb:0≤f.to∧f.to≤65535)(hs:0≤f.start∧f.start≤36000000)(hd:0≤f.ct∧f.ct≤36000000)(ht:0≤f.time∧f.time≤36000000)(hc:rq f.fB=0):uO (wj f):=by
 have e1:mn f.start 36000000=f.start:=by unfold mn;rw[aP (by omega)]
 have e2:IntKind.i64.wrap (36000000-f.start)=36000000-f.start:=cL (by unfold aV;omega);have e3:0≤mn f.ct (36000000-f.start)∧mn f.ct (36000000-f.start)≤36000000-f.start:=by unfold mn;split<;>omega
 have e4:IntKind.i64.wrap (36000000-f.start-mn f.ct (36000000-f.start))=36000000-f.start-mn f.ct (36000000-f.start):=cL (by unfold aV;omega);have e5:0≤mn f.time (36000000-f.start-mn f.ct (36000000-f.start))∧mn f.time (36000000-f.start-mn f.ct (36000000-f.start))≤36000000-f.start-mn f.ct (36000000-f.start):=by unfold mn;split<;>omega
 unfold wj;rw[e1,e2,e4];exact⟨ha,hb,hs,⟨e3.1,by show mn f.ct _≤_;omega⟩,⟨e5.1,by show mn f.time _≤_;omega⟩,by show f.start+mn f.ct _+mn f.time _≤_;omega,hc⟩
theorem alO{d:bV}{x:bz}(hx:ac7 x)(k:aG){eo to c:Int}(ha:0≤eo∧eo≤65535)(hb:0≤to∧to≤65535)(hc:0≤c∧c≤36000000):uO (D1 d x k eo to c):=by
 unfold D1
 have h0:0≤(Kp (gC d k).1 x eo to c).time∧(Kp (gC d k).1 x eo to c).time≤36000000:=by
  unfold Kp;simp only;split
  ·split
   ·exact hx.n
   ·exact hx.u
  ·exact hx.o
 have h1:∃dl tm,ON x k (Kp (gC d k).1 x eo to c)=⟨eo,to,c,dl,tm,x.fB⟩∧(0≤dl∧dl≤36000000)∧0≤tm∧tm≤36000000:=by
  unfold ON;split
  ·exact⟨_,_,rfl,hx.d,h0⟩
  ·rename_i m hm;split
   ·have:=hx.m m (Cq hm);exact⟨_,_,rfl,this.1,this.2⟩
   ·exact⟨_,_,rfl,hx.d,h0⟩
 obtain⟨dl,tm,e,hd,ht⟩:=h1;rw[e];unfold Ie;split
 ·exact Ou ha hb hc hd (by simp) hx.c
 ·exact Ou ha hb hc hd ht hx.c
theorem anN{g:Int}{b:bn}{r:cH}(hr:uO r.ia)(hf:0≤b.iK∧b.iK≤65535)(c:Int):0≤IM g b r c∧IM g b r c≤65535:=by
 unfold IM;split
 ·exact apr (Ij hr c) hf
 ·exact Ij hr c
theorem acI{d:bV}(hd:vZ d){k:aG}{t:Int}:∀{bs:List bn},(∀b∈bs,uS b t)→0≤(vB d bs k t).out∧(vB d bs k t).out≤65535:=by
 intro bs hb;unfold vB
 have key:∀(l:List bn)(m:Gc),(∀b∈l,uS b t)→(0≤m.out∧m.out≤65535)→0≤(l.foldl (tN (gC d k).1 k t) m).out∧(l.foldl (tN (gC d k).1 k t) m).out≤65535:=by
  intro l;induction l with
  |nil=>intro m _ h;exact h
  |cons b l ih=>
   intro m hl h;rw[List.foldl_cons];refine ih _ (λb hb=>hl b (by simp [hb])) ?_;have I9:=hl b (by simp);unfold tN;split
   ·exact h
   ·rename_i hq;split
    ·have oh:(dU b k (dL b.aI t)).2=true:=by
      cases h:(dU b k (dL b.aI t)).2
      ·exact absurd (.inl h) hq
      ·rfl
     exact anN (B9 I9 oh) I9.iK _
    ·exact h
 exact key bs _ hb (hd.par k)
theorem aaq{l:List (aG×cH)}(h:(l.map (·.1)).Nodup):FI (some (Ee l)):=by
 intro l' e;injection e with e
 subst e;exact⟨((Su l).map (·.1)).nodup_iff.2 h,alu l⟩
theorem Nt{N:Int}{b:bn}(h:vY N b):((b.runs.getD []).map (·.1)).Nodup:=by
 cases hr:b.runs with
 |none=>simp
 |some l=>exact(h.can l hr).1
theorem abz{d:bV}(hd:vZ d){s:cQ}{N t:Int}(hs:kZ N s)(h1:N≤t)(h2:t≤36000000){b:bn}(hb:b∈s.aD){to:Nat}{x:bz}(hx:b.bH[to]? =some x):vY t (nv d s b x (to:Int) t):=by
 have hB:=hs.bs b hb;have hN:=hs.n;have hto:=(bM.1 hx).1;have L4:=aaG hB.eo (cS hx);obtain⟨c0,c1,c2⟩:=Fo hB.sX h1 h2;have LX:∀b∈s.aD,uS b t:=λb hb=>(hs.bs b hb).ok h1 h2
 have I9:=LX b hb;refine⟨hB.uA,hB.eo,aaq (go_nodup (S8 b x).1 (Nt hB)),λk r hkr=>?_,hB.iK,⟨c1,c2,Int.le_refl _⟩,⟨by show -1≤(to:Int);omega,by show(to:Int)<_;exact_mod_cast hto⟩,?_⟩
 ·have hm:(k,r)∈Fp d s b x t:=(Su _).mem_iff.1 hkr;unfold Fp at hm;rcases kM.1 hm with hm|hm
  ·obtain⟨e,he,q⟩:=gB.1 hm;injection q with q1 q2
   subst q2;refine⟨?_,by rw[←q1];exact amx he⟩;unfold Bi;split
   ·rename_i hq;exact B9 I9 hq.1
   ·refine alO L4 _ ?_ (hd.lev _ _) ⟨c1,by omega⟩;unfold IB;split
    ·rename_i hq;exact Ij (B9 I9 hq) _
    ·split
     ·exact acI hd LX
     ·simp
  ·obtain⟨p,hp,q⟩:=List.mem_filterMap.1 hm;obtain⟨r',hr',q⟩:=eG.1 q;injection q with q1 q2
   subst q2;refine⟨?_,by rw[←q1];exact(hB.runs p.1 p.2 hp).2⟩;unfold vP at hr';split at hr'
   ·cases hr'
   ·rename_i hq;injection hr' with hr'
    subst hr'
    have oh:(dU b p.1 (dL b.aI t)).2=true:=by
     cases h:(dU b p.1 (dL b.aI t)).2
     ·exact absurd (.inl h) hq
     ·rfl
    have hfo:=B9 I9 oh;split
    ·exact hfo
    ·exact Ou (Ij hfo _) (by simp) ⟨c1,by show dL b.aI t≤_;omega⟩ L4.d L4.n L4.c
 ·show(nv d s b x (to:Int) t).eA<0∨_;by_cases hf:0≤x.eA∧(to:Int)+1<(b.bH.length:Int)
  ·have hxf:=L4.f
   have e:(nv d s b x (to:Int) t).eA=dL b.aI t+x.eA:=by show(if 0≤x.eA∧(to:Int)+1<(b.bH.length:Int)then IntKind.i64.wrap (dL b.aI t+x.eA)else -1)=_;rw[aQ hf,cL (by unfold aV;omega)]
   refine .inr ⟨hf.2,?_,by rw[e];omega⟩;rw[e]
   have:dL (nv d s b x (to:Int) t).aI t=dL b.aI t:=by show dL ⟨dL b.aI t,t,false⟩ t=_;generalize dL b.aI t=c at c1 c2;show IntKind.i64.wrap (IntKind.i64.wrap (c+t) -t)=_;rw[show IntKind.i64.wrap (c+t)=c+t from cL (by unfold aV;omega),cL (by unfold aV;omega)];omega
   rw[this];omega
  ·refine .inl ?_;show(if 0≤x.eA∧(to:Int)+1<(b.bH.length:Int)then IntKind.i64.wrap (dL b.aI t+x.eA)else -1)<0;rw[aP hf];decide
def Fl(t:Int)(i:Nat)(b:bn)(st:Int×Int):Int×Int:=if 0≤gV b∧gV b≤t∧(st.1<0∨gV b<st.2)then((i:Int),gV b)else st
def uW(t:Int):List bn→Nat→Int×Int→Int×Int
 |[],_,st=>st
 |b::r,i,st=>uW t r (i+1) (Fl t i b st)
def Kx(t:Int)(pre:List bn)(st:Int×Int):Prop:=(st.1<0∧∀b∈pre,¬(0≤gV b∧gV b≤t))∨∃(j:Nat)(b:bn),pre[j]? =some b∧st=((j:Int),gV b)∧0≤gV b∧gV b≤t∧∀b'∈pre,0≤gV b'→gV b'≤t→gV b≤gV b'
theorem ai6{t:Int}{pre:List bn}{b:bn}{st:Int×Int}(h:Kx t pre st):Kx t (pre++[b]) (Fl t pre.length b st):=by
 unfold Fl;by_cases hc:0≤gV b∧gV b≤t∧(st.1<0∨gV b<st.2)
 ·rw[aQ hc];refine .inr ⟨pre.length,b,by simp,rfl,hc.1,hc.2.1,λb' hb' q1 q2=>?_⟩;rcases kM.1 hb' with hb'|hb'
  ·rcases h with⟨_,k⟩|⟨j,b0,k1,k2,k3,k4,k5⟩
   ·exact absurd ⟨q1,q2⟩ (k b' hb')
   ·rcases hc.2.2 with q|q
    ·rw[k2]at q;simp only at q;omega
    ·rw[k2]at q;simp only at q;have:=k5 b' hb' q1 q2;omega
  ·simp only[List.mem_singleton]at hb';subst hb';exact Int.le_refl _
 ·rw[aP hc];rcases h with⟨k0,k⟩|⟨j,b0,k1,k2,k3,k4,k5⟩
  ·refine .inl ⟨k0,λb' hb' q=>?_⟩;rcases kM.1 hb' with hb'|hb'
   ·exact k b' hb' q
   ·simp only[List.mem_singleton]at hb';subst hb';exact hc ⟨q.1,q.2,.inl k0⟩
  ·refine .inr ⟨j,b0,?_,k2,k3,k4,λb' hb' q1 q2=>?_⟩
   ·rw[jg (bM.1 k1).1];exact k1
   ·rcases kM.1 hb' with hb'|hb'
    ·exact k5 b' hb' q1 q2
    ·simp only[List.mem_singleton]at hb';subst hb';by_cases q:gV b'<gV b0
     ·exact absurd ⟨q1,q2,.inr (by rw[k2];exact q)⟩ hc
     ·omega
theorem abp{t:Int}:∀{l pre:List bn}{st:Int×Int},Kx t pre st→Kx t (pre++l) (uW t l pre.length st)
 |[],pre,st,h=>by rw[List.append_nil];exact h
 |b::l,pre,st,h=>by have:=abp (l:=l) (ai6 (b:=b) h);rw[lU,List.length_append]at this;exact this
noncomputable def D7 (d:bV) (t:Int) (s:cQ):Option cQ:=
 if(uW t s.aD 0 (-1,0)).1<0 then none
 else(s.aD[(uW t s.aD 0 (-1,0)).1.toNat]?).bind λb=>(b.bH[(b.cm+1).toNat]?).map λx=>
  {s with aC:=IntKind.i64.wrap (s.aC+1),aD:=s.aD.set (uW t s.aD 0 (-1,0)).1.toNat (nv d {s with aC:=IntKind.i64.wrap (s.aC+1)} b x (b.cm+1) (uW t s.aD 0 (-1,0)).2)}
noncomputable def B8 (d:bV) (t:Int):Nat→cQ→cQ
 |0,s=>s
 |n+1,s=>match D7 d t s with
  |none=>s
  |some s'=>B8 d t n s'
def O2(b:bn):Nat:=((b.bH.length:Int) -b.cm).toNat
def Bj(l:List bn):Nat:=(l.map O2).sum
noncomputable def lT (d:bV) (s:cQ) (t:Int):cQ:=B8 d t (Bj s.aD) s
theorem akH{l:List bn}{i:Nat}{b b':bn}(h:l[i]? =some b)(hl:O2 b'<O2 b):Bj (l.set i b')<Bj l:=by
 unfold Bj;induction l generalizing i with
 |nil=>cases h
 |cons y l ih=>
  cases i with
  |zero=>
   injection h with h
   subst h;simp only[List.set_cons_zero,ef,List.sum_cons];omega
  |succ i=>have:=ih (i:=i) h;simp only[List.set_cons_succ,ef,List.sum_cons];omega
theorem Ta{N:Int}{s:cQ}(h:kZ N s)(n:Int):kZ N {s with aC:=n}:=⟨h.n,h.len,h.bs,h.oN⟩
theorem aad{N N':Int}{s:cQ}(h:kZ N s)(h1:N≤N')(h2:N'≤36000000)(hd:∀b∈s.aD,gV b<0∨N'≤gV b):kZ N' s:=
 ⟨⟨by have:=h.n;omega,h2⟩,h.len,λb hb=>(h.bs b hb).mono h1 h2 (hd b hb),h.oN⟩
theorem Od{N:Int}{s:cQ}(h:kZ N s)(i:Nat){b:bn}(hb:vY N b)(n:Int):kZ N {s with aC:=n,aD:=s.aD.set i b}:=
 ⟨h.n,by show(s.aD.set i b).length≤40;rw[List.length_set];exact h.len,λb' hb'=>by
  rcases List.mem_or_eq_of_mem_set hb' with q|q
  ·exact h.bs b' q
  ·rw[q];exact hb,h.oN⟩
theorem Tz{d:bV}(hd:vZ d){s:cQ}{N t:Int}(hs:kZ N s)(h1:N≤t)(h2:t≤36000000):
  ((uW t s.aD 0 (-1,0)).1<0∧D7 d t s=none∧kZ t s)∨
  ∃(f:Nat)(b:bn)(x:bz)(to:Nat)(tm:Int),uW t s.aD 0 (-1,0)=((f:Int),tm)∧s.aD[f]? =some b∧b.cm+1=(to:Int)∧b.bH[to]? =some x∧N≤tm∧tm≤t∧(∀b∈s.aD,vY tm b)∧kZ tm {s with aC:=IntKind.i64.wrap (s.aC+1)}∧
   D7 d t s=some {s with aC:=IntKind.i64.wrap (s.aC+1),aD:=s.aD.set f (nv d {s with aC:=IntKind.i64.wrap (s.aC+1)} b x (to:Int) tm)}∧
   kZ tm {s with aC:=IntKind.i64.wrap (s.aC+1),aD:=s.aD.set f (nv d {s with aC:=IntKind.i64.wrap (s.aC+1)} b x (to:Int) tm)}∧
   Bj (s.aD.set f (nv d {s with aC:=IntKind.i64.wrap (s.aC+1)} b x (to:Int) tm))<Bj s.aD:=by
 have hD:Kx t s.aD (uW t s.aD 0 (-1,0)):=by have:=abp (t:=t) (l:=s.aD) (pre:=[]) (st:=(-1,0)) (.inl ⟨by decide,by simp⟩);simpa using this
 have hmin:∀b∈s.aD,gV b<0∨N≤gV b:=by
  intro b hb;have hB:=hs.bs b hb;rw[TO hB hs.n.2];split
  ·exact .inl (by decide)
  ·rename_i q;right;rcases hB.Ew with h3|⟨h3,h4,h5⟩
   ·exact absurd (.inl h3) q
   ·rw[(Fo hB.sX (Int.le_refl N) hs.n.2).1,aP (λz=>q (.inr z))]at h4;omega
 rcases hD with⟨k0,k⟩|⟨f,b,k1,k2,k3,k4,k5⟩
 ·refine .inl ⟨k0,?_,aad hs h1 h2 λb hb=>?_⟩
  ·unfold D7;rw[aQ k0]
  ·have:=k b hb;omega
 ·have yV:=cS k1;have hB:=hs.bs b yV;have hN:=hs.n;have oc:N≤gV b:=by rcases hmin b yV with q|q<;>omega
  have Em:¬(b.eA<0∨b.aI.jv=true):=by intro q;have e:=TO hB hN.2;rw[aQ q]at e;omega
  have PK:b.cm+1<(b.bH.length:Int):=by
   rcases hB.Ew with h3|⟨h3,_⟩
   ·exact absurd (.inl h3) Em
   ·exact h3
  have hc1:=hB.cm;have hto:(b.cm+1).toNat<b.bH.length:=by omega
  have hx:b.bH[(b.cm+1).toNat]? =some b.bH[(b.cm+1).toNat]:=bT hto
  have hmono:kZ (gV b) {s with aC:=IntKind.i64.wrap (s.aC+1)}:=Ta (aad hs oc (by omega) λb' hb'=>by
   rcases hmin b' hb' with q|q
   ·exact .inl q
   ·by_cases q2:gV b'≤t
    ·exact .inr (k5 b' hb' (by omega) q2)
    ·exact .inr (by omega)) _
  have hci:((b.cm+1).toNat:Int)=b.cm+1:=by omega
  refine .inr ⟨f,b,b.bH[(b.cm+1).toNat],(b.cm+1).toNat,gV b,k2,k1,hci.symm,hx,oc,k4,hmono.bs,hmono,?_,?_,akH k1 ?_⟩
  ·unfold D7;rw[k2];simp only;rw[aP (by omega),Int.toNat_natCast,k1,aX,hx,bZ,hci]
  ·exact Od (s:={s with aC:=IntKind.i64.wrap (s.aC+1)}) hmono f (abz hd hmono (Int.le_refl _) (by omega) yV hx) _
  ·unfold O2;show((b.bH.length:Int) -(((b.cm+1).toNat:Nat):Int)).toNat<_;omega
theorem YI{d:bV}(hd:vZ d){t:Int}(h2:t≤36000000):∀(n:Nat){s:cQ}{N:Int},kZ N s→N≤t→Bj s.aD≤n→kZ t (B8 d t n s)
 |0,s,N,hs,h1,hn=>by
  rcases Tz hd hs h1 h2 with⟨_,_,h⟩|⟨f,b,x,to,tm,_,_,_,_,_,_,_,_,_,_,hl⟩
  ·exact h
  ·omega
 |n+1,s,N,hs,h1,hn=>by
  unfold B8;rcases Tz hd hs h1 h2 with⟨_,e,h⟩|⟨f,b,x,to,tm,_,_,_,_,_,k,_,_,e,h,hl⟩
  ·rw[e];exact h
  ·rw[e];exact YI hd h2 n h k (by show Bj (s.aD.set f _)≤n;omega)
theorem NG{d:bV}(hd:vZ d){s:cQ}{N t:Int}(hs:kZ N s)(h1:N≤t)(h2:t≤36000000):kZ t (lT d s t):=YI hd h2 _ hs h1 (bD _)
end
section
set_option maxRecDepth 100000
open HP
theorem ama{W:Heap}{bk g i:Nat}{l:List bn}{b:bn}(h:W[bk]? =some (.arr g 10 (l.map aN)))(hb:l[i]? =some b)(sh:Sh):Lt W sh (.oe bk g i 0) (.rp (aN b)):=by
 refine⟨⟨.rp (aN b),?_,rfl,rfl⟩,rfl,λh=>by cases h⟩;have e:(l.map aN)[i]? =some (aN b):=by rw[sy,hb];rfl
 have q:=AT b W 0 7;simp only[A.bG,Nat.not_lt_zero,if_false,h,if_true,e,List.drop_zero,Kg,q,bZ]
theorem apO{W:Heap}{bk g i:Nat}{l:List bn}{b:bn}(h:W[bk]? =some (.arr g 10 (l.map aN)))(hb:l[i]? =some b):zf [.oe bk g i 0] W=some (.ah (gV b),W):=
 zY (dG:=[.oe bk g i 0]) (ts:=[.rp (aN b)]) ⟨ama h hb _,trivial⟩ (λσ=>adu b σ) rfl
theorem Ug{bk g n i:Nat}(h:i<n):A.aY 10 (.os bk g 10 0 n) (.ah (i:Int))=some (.oe bk g i 0):=by
 have:((i:Int)<(n:Int)):=by omega
 simp [A.aY,A.idx,this]
theorem alJ{W:Heap}{L bk g:Nat}{s:cQ}{t:Int}(h1:W[L]? =some (.box (bF (.os bk g 10 0 s.aD.length) s)))(h2:W[bk]? =some (.arr g 10 (s.aD.map aN))){i:Nat}{b:bn}(hb:s.aD[i]? =some b)(hs:s.aD.length≤bg)(u:AV)(st:Int×Int):((λv21 vG=>
     (A.lss (aj v21 3) (AV.ah (s.aD.length:Int))).bind λx24=>
     A.cond x24 (
      (A.aF 0 (AV.op L 0)).bind λx25=>
      ((A.deref x25 vG).bind λiC=>A.ak 0 iC).bind λeU=>
      (A.aY 10 eU (aj v21 3)).bind λx28=>
      (zf [x28] vG).bind λi6=>
      (A.geq i6.1 (AV.ah 0)).bind λdO=>
      (A.guard dO true (some i6.1) ay).bind λx31=>
      (A.guard dO true (some (AV.ah t)) ay).bind λx32=>
      (A.guard dO true (A.leq x31 x32) ay).bind λeW=>
      (A.pick dO eW aO).bind λx34=>
      (A.guard x34 true (some (aj v21 1)) ay).bind λjc=>
      (A.guard x34 true (A.lss jc (AV.ah 0)) ay).bind λfG=>
      (A.guard x34 true (some fG) ay).bind λcK=>
      (A.guard cK false (some i6.1) ay).bind λx38=>
      (A.guard cK false (some (aj v21 2)) ay).bind λgj=>
      (A.guard cK false (A.lss x38 gj) ay).bind λdV=>
      (A.guard x34 true (A.pick cK dR dV) ay).bind λeX=>
      (A.pick x34 eX aO).bind λgz=>
      (A.cond gz (
       some ([(aj v21 0),(aj v21 3),i6.1],i6.2)) (
       some ([(aj v21 0),(aj v21 1),(aj v21 2)],i6.2))).bind λkJ=>
      (A.add (aj v21 3) (AV.ah 1)).bind λeY=>
      some (AX.normal,[(aj kJ.1 0),(aj kJ.1 1),(aj kJ.1 2),eY],kJ.2)) (
      some (AX.exit 2,[(aj v21 0),(aj v21 1),(aj v21 2),(aj v21 3)],vG)))) [u,.ah st.1,.ah st.2,.ah (i:Int)] W=some (.normal,[u,.ah (Fl t i b st).1,.ah (Fl t i b st).2,.ah ((i+1:Nat):Int)],W):=by
 have hi:=(bM.1 hb).1;simp only[bW,cA];rw[kU hb,bS,dr,show A.aF 0 (.op L 0)=some (.op L 0)from rfl,bS,show((A.deref (.op L 0) W).bind λc=>A.ak 0 c)=some (.os bk g 10 0 s.aD.length)from by simp only[A.deref,h1];rfl,bS,Ug hi,bS,apO h2 hb,bS,uc,bS];unfold Fl;by_cases c1:0≤gV b
 case neg=>
  rw[cD c1,aP (λq=>c1 q.1)];simp only[wA,gU,bS,pM,cF,bW,cA];rw[gY hb hs,bS]
 rw[cz c1];simp only[gT,bS,KJ,nw];by_cases c2:gV b≤t
 case neg=>
  rw[cD c2,aP (λq=>c2 q.2.1)];simp only[wA,gU,bS,pM,cF,bW,cA];rw[gY hb hs,bS]
 rw[cz c2];simp only[gT,bS,l8,nw];by_cases c3:st.1<0
 ·rw[cz c3,aQ ⟨c1,c2,.inl c3⟩];simp only[Bz,gU,bS,nw,cT,bW,cA];rw[gY hb hs,bS]
 rw[cD c3];simp only[gF,bS,l8,pM];by_cases c4:gV b<st.2
 ·rw[cz c4,aQ ⟨c1,c2,.inr c4⟩];simp only[cT,bS,bW,cA];rw[gY hb hs,bS]
 ·rw[cD c4,aP (λq=>q.2.2.elim c3 c4)];simp only[cF,bS,bW,cA];rw[gY hb hs,bS]
theorem alI{W:Heap}{L bk g:Nat}{s:cQ}{t:Int}(h1:W[L]? =some (.box (bF (.os bk g 10 0 s.aD.length) s)))(h2:W[bk]? =some (.arr g 10 (s.aD.map aN)))(hs:s.aD.length≤bg)(u:AV):A.loop ((λv21 vG=>
     (A.lss (aj v21 3) (AV.ah (s.aD.length:Int))).bind λx24=>
     A.cond x24 (
      (A.aF 0 (AV.op L 0)).bind λx25=>
      ((A.deref x25 vG).bind λiC=>A.ak 0 iC).bind λeU=>
      (A.aY 10 eU (aj v21 3)).bind λx28=>
      (zf [x28] vG).bind λi6=>
      (A.geq i6.1 (AV.ah 0)).bind λdO=>
      (A.guard dO true (some i6.1) ay).bind λx31=>
      (A.guard dO true (some (AV.ah t)) ay).bind λx32=>
      (A.guard dO true (A.leq x31 x32) ay).bind λeW=>
      (A.pick dO eW aO).bind λx34=>
      (A.guard x34 true (some (aj v21 1)) ay).bind λjc=>
      (A.guard x34 true (A.lss jc (AV.ah 0)) ay).bind λfG=>
      (A.guard x34 true (some fG) ay).bind λcK=>
      (A.guard cK false (some i6.1) ay).bind λx38=>
      (A.guard cK false (some (aj v21 2)) ay).bind λgj=>
      (A.guard cK false (A.lss x38 gj) ay).bind λdV=>
      (A.guard x34 true (A.pick cK dR dV) ay).bind λeX=>
      (A.pick x34 eX aO).bind λgz=>
      (A.cond gz (
       some ([(aj v21 0),(aj v21 3),i6.1],i6.2)) (
       some ([(aj v21 0),(aj v21 1),(aj v21 2)],i6.2))).bind λkJ=>
      (A.add (aj v21 3) (AV.ah 1)).bind λeY=>
      some (AX.normal,[(aj kJ.1 0),(aj kJ.1 1),(aj kJ.1 2),eY],kJ.2)) (
      some (AX.exit 2,[(aj v21 0),(aj v21 1),(aj v21 2),(aj v21 3)],vG)))) [u,.ah (-1),.ah 0,.ah 0] W=some (.exit 2,[u,.ah (uW t s.aD 0 (-1,0)).1,.ah (uW t s.aD 0 (-1,0)).2,.ah (s.aD.length:Int)],W):=by
 refine C9 (ou (Q:=λq=>q=(.exit 2,[u,.ah (uW t s.aD 0 (-1,0)).1,.ah (uW t s.aD 0 (-1,0)).2,.ah (s.aD.length:Int)],W)) (λz v w=>∃(i:Nat)(st:Int×Int),i≤s.aD.length∧v=[u,.ah st.1,.ah st.2,.ah (i:Int)]∧w=W∧z=s.aD.length-i∧uW t (s.aD.drop i) i st=uW t s.aD 0 (-1,0)) ?_ (n:=s.aD.length) ⟨0,(-1,0),kY _,rfl,rfl,rfl,rfl⟩);rintro z v w ⟨i,st,hi,rfl,rfl,hz,hT⟩;by_cases h:i<s.aD.length
 ·have hb:s.aD[i]? =some s.aD[i]:=bT h;refine .inl ⟨s.aD.length-(i+1),_,_,by omega,alJ h1 h2 hb hs u st,i+1,Fl t i s.aD[i] st,h,rfl,rfl,rfl,?_⟩;rw[List.drop_eq_getElem_cons h]at hT;exact hT
 ·have:i=s.aD.length:=by omega
  subst this;rw[List.drop_length]at hT;rw[←hT];refine .inr ⟨_,?_,by simp,rfl⟩;simp only[bW,cA];rw[kS,bS,cR];rfl
abbrev sP(σ:Heap)(g:Nat)(s:cQ):Heap:=σ++[.box (bF (.os (σ.length+1) g 10 0 s.aD.length) s),.arr g 10 (s.aD.map aN)]
theorem adq(σ:Heap)(g:Nat)(s:cQ):(sP σ g s)[σ.length]? =some (.box (bF (.os (σ.length+1) g 10 0 s.aD.length) s)):=by rw[iZ (bD _),Nat.sub_self];rfl
theorem Ky(σ:Heap)(g:Nat)(s:cQ):(sP σ g s)[σ.length+1]? =some (.arr g 10 (s.aD.map aN)):=by rw[iZ (by omega),show σ.length+1-σ.length=1 by omega];rfl
theorem acf(σ:Heap)(b0 b1 b:aS):(σ++[b0,b1]).set σ.length b=σ++[b,b1]:=by rw[qu _ _ (bD _),Nat.sub_self];rfl
theorem aoF(σ:Heap)(b0 b1 b:aS):(σ++[b0,b1]).set (σ.length+1) b=σ++[b0,b]:=by rw[qu _ _ (by omega),show σ.length+1-σ.length=1 by omega];rfl
theorem vf.ext{p:AV}{d:bV}{σ:Heap}(h:vf p d σ)(ex:Heap):vf p d (σ++ex):=by obtain⟨q1,q2,f1,f2,f3⟩:=h.f2;obtain⟨Jg,pm,g1,g2⟩:=h.f10;exact⟨h.nc,⟨q1,q2,f1,f2,λex'=>by rw[lU];exact f3 _⟩,⟨Jg,pm,g1,λex'=>by rw[lU];exact g2 _⟩,λex'=>by rw[lU];exact h.lt _⟩
def Uu(W:Heap)(v:AV)(l:List bn):Prop:=(l=[]∧(v=.az∨v=.ez))∨∃id g,v=.os id g 10 0 l.length∧W[id]? =some (.arr g 10 (l.map aN))
abbrev wv:au:=[AV.az,(AV.ah 0),(AV.ah 0),aO]
theorem aiS{d:bV}(hI:vZ d){σ:Heap}{pd:AV}(hd:vf pd d σ){t:Int}(h2:t≤36000000){s:cQ}{N:Int}(hs:kZ N s)(h1:N≤t)(g:Nat):A.loop ((λWO Dp=>
   (A.aF 0 (AV.op σ.length 0)).bind λdD=>
   ((A.deref dD Dp).bind λjm=>A.ak 0 jm).bind λeC=>
   (A.bR eC).bind λep=>
   (A.loop (λv21 vG=>
     (A.lss (aj v21 3) ep).bind λx24=>
     A.cond x24 (
      (A.aF 0 (AV.op σ.length 0)).bind λx25=>
      ((A.deref x25 vG).bind λiC=>A.ak 0 iC).bind λeU=>
      (A.aY 10 eU (aj v21 3)).bind λx28=>
      (zf [x28] vG).bind λi6=>
      (A.geq i6.1 (AV.ah 0)).bind λdO=>
      (A.guard dO true (some i6.1) ay).bind λx31=>
      (A.guard dO true (some (AV.ah t)) ay).bind λx32=>
      (A.guard dO true (A.leq x31 x32) ay).bind λeW=>
      (A.pick dO eW aO).bind λx34=>
      (A.guard x34 true (some (aj v21 1)) ay).bind λjc=>
      (A.guard x34 true (A.lss jc (AV.ah 0)) ay).bind λfG=>
      (A.guard x34 true (some fG) ay).bind λcK=>
      (A.guard cK false (some i6.1) ay).bind λx38=>
      (A.guard cK false (some (aj v21 2)) ay).bind λgj=>
      (A.guard cK false (A.lss x38 gj) ay).bind λdV=>
      (A.guard x34 true (A.pick cK dR dV) ay).bind λeX=>
      (A.pick x34 eX aO).bind λgz=>
      (A.cond gz (
       some ([(aj v21 0),(aj v21 3),i6.1],i6.2)) (
       some ([(aj v21 0),(aj v21 1),(aj v21 2)],i6.2))).bind λkJ=>
      (A.add (aj v21 3) (AV.ah 1)).bind λeY=>
      some (AX.normal,[(aj kJ.1 0),(aj kJ.1 1),(aj kJ.1 2),eY],kJ.2)) (
      some (AX.exit 2,[(aj v21 0),(aj v21 1),(aj v21 2),(aj v21 3)],vG))) [(aj WO 0),(AV.ah (-1)),(AV.ah 0),(AV.ah 0)] Dp).bind λiX=>
   bif iX.1==AX.exit 2 then(
    (A.lss (aj iX.2.1 1) (AV.ah 0)).bind λgP=>
    A.cond gP (
     ((A.deref (AV.op σ.length 0) iX.2.2).bind λiD=>A.aB 0 4 iD).bind λgK=>
     (A.lb (aj iX.2.1 0)).bind λpG=>
     (A.cells 4 gK).bind λC2=>
     (A.aq 0 C2 pG).bind λqJ=>
     some (AX.ret,[(AV.lbx qJ)],iX.2.2)) (
     (A.aF 1 (AV.op σ.length 0)).bind λeP=>
     ((A.deref eP iX.2.2).bind λqK=>A.ak 0 qK).bind λgL=>
     (A.add gL (AV.ah 1)).bind λjU=>
     (A.aF 1 (AV.op σ.length 0)).bind λfH=>
     ((A.cell jU).bind λv=>some [v]).bind λjo=>
     (A.storeAt fH jo iX.2.2).bind λjh=>
     (A.aF 0 (AV.op σ.length 0)).bind λfK=>
     ((A.deref fK jh).bind λrJ=>A.ak 0 rJ).bind λjF=>
     (A.aY 10 jF (aj iX.2.1 1)).bind λfc=>
     (A.aF 6 fc).bind λgW=>
     ((A.deref gW jh).bind λsS=>A.ak 0 sS).bind λiH=>
     (A.add iH (AV.ah 1)).bind λgG=>
     (vL [pd,(AV.op σ.length 0),(aj iX.2.1 1),gG,(aj iX.2.1 2)] jh).bind λfQ=>
     some (AX.normal,[(aj iX.2.1 0)],fQ.2)))else
   none)) [.lbx wv] (sP σ g s)=some (.ret,[.lbx (bF (.os (σ.length+1) g 10 0 (lT d s t).aD.length) (lT d s t))],sP σ g (lT d s t)):=by
 obtain⟨fs,hfs⟩:∃fs,fs=lT d s t:=⟨_,rfl⟩
 rw[←hfs];refine C9 (ou (Q:=λq=>q=(.ret,[.lbx (bF (.os (σ.length+1) g 10 0 fs.aD.length) fs)],sP σ g fs)) (λz v w=>∃(s:cQ)(N:Int),kZ N s∧N≤t∧v=[.lbx wv]∧w=sP σ g s∧Bj s.aD≤z∧B8 d t z s=fs) ?_ (n:=Bj s.aD) ⟨s,N,hs,h1,rfl,rfl,bD _,hfs.symm⟩);rintro z v w ⟨s,N,hs,h1,rfl,rfl,hz,hF⟩;have oo:s.aD.length≤bg:=by have:=hs.len;unfold bg;omega
 have A1:=adq σ g s;have A2:=Ky σ g s;have rdS:((A.deref (.op σ.length 0) (sP σ g s)).bind λc=>A.ak 0 c)=some (.os (σ.length+1) g 10 0 s.aD.length):=by simp only[A.deref,A1];rfl
 have Me:((A.deref (.op σ.length 0) (sP σ g s)).bind λc=>A.aB 0 4 c)=some (.agg (bF (.os (σ.length+1) g 10 0 s.aD.length) s)):=by simp only[A.deref,A1];rfl
 have BL:((A.deref (.op σ.length 1) (sP σ g s)).bind λc=>A.ak 0 c)=some (.ah s.aC):=by simp only[A.deref,A1];rfl
 have L1:=alI (t:=t) A1 A2 oo (.lbx wv);rcases Tz hI hs h1 h2 with⟨k0,k1,k2⟩|⟨f,b,x,to,tm,e1,e2,e3,e4,e5,e6,e7,e8,e9,mF,e11⟩
 ·have CM:s=fs:=by
   cases z with
   |zero=>exact hF
   |succ z=>unfold B8 at hF;rw[k1]at hF;exact hF
  refine .inr ⟨_,?_,by simp,rfl⟩;rw[←CM];rw[show A.aF 0 (.op σ.length 0)=some (.op σ.length 0)from rfl,bS,rdS,bS,show A.bR (.os (σ.length+1) g 10 0 s.aD.length)=some (.ah (s.aD.length:Int))from rfl,bS];refine(congrArg (λz=>Option.bind z _) L1).trans ?_;rw[bS];simp only[oa,bW,cA];rw[l8,bS,cz k0,dr,Me,bS,ji,bS];rfl
 ·have gf:0<z:=by omega
  obtain⟨z',rfl⟩:∃z',z=z'+1:=⟨z-1,by omega⟩
  unfold B8 at hF;rw[e9]at hF;refine .inl ⟨z',_,_,by omega,?_,_,tm,mF,e6,rfl,rfl,?_,hF⟩
  ·rw[show A.aF 0 (.op σ.length 0)=some (.op σ.length 0)from rfl,bS,rdS,bS,show A.bR (.os (σ.length+1) g 10 0 s.aD.length)=some (.ah (s.aD.length:Int))from rfl,bS];refine(congrArg (λz=>Option.bind z _) L1).trans ?_;rw[bS,e1];simp only[oa,bW,cA];rw[l8,bS,cD (by omega),cR,show A.aF 1 (.op σ.length 0)=some (.op σ.length 1)from rfl,bS,BL,bS,mz,bS];simp only[bS,rX]
   have hst:A.storeAt (.op σ.length 1) [.ah (IntKind.i64.wrap (s.aC+1))] (sP σ g s)=some (sP σ g {s with aC:=IntKind.i64.wrap (s.aC+1)}):=by simp only[A.storeAt,A1];rw[show A.aq 1 [.ah (IntKind.i64.wrap (s.aC+1))] (bF (.os (σ.length+1) g 10 0 s.aD.length) s)=some (bF (.os (σ.length+1) g 10 0 s.aD.length) {s with aC:=IntKind.i64.wrap (s.aC+1)})from rfl,bZ,acf]
   rw[hst,bS];obtain⟨s1,hs1⟩:∃s1:cQ,s1={s with aC:=IntKind.i64.wrap (s.aC+1)}:=⟨_,rfl⟩
   have IJ:s1.aD=s.aD:=by rw[hs1]
   rw[←hs1]at e8 mF ⊢;have B1:=adq σ g s1;have B2:=Ky σ g s1;have hfl:=(bM.1 e2).1;rw[show((A.deref (.op σ.length 0) (sP σ g s1)).bind λc=>A.ak 0 c)=some (.os (σ.length+1) g 10 0 s1.aD.length)from by simp only[A.deref,B1];rfl,bS,Ug (by rw[IJ];exact hfl),bS,show A.aF 6 (.oe (σ.length+1) g f 0)=some (.oe (σ.length+1) g f 6)from by simp [A.aF],bS]
   rw[show((A.deref (.oe (σ.length+1) g f 6) (sP σ g s1)).bind λc=>A.ak 0 c)=some (.ah b.cm)from by
    simp only[A.deref,B2,if_true,sy,IJ,e2,bZ];rfl,bS,mz,bS]
   have hB:=e7 b (cS e2);have iN:=(bM.1 e4).1;have LP:b.bH.length≤bg:=hB.uA.1;rw[show IntKind.i64.wrap (b.cm+1)=(to:Int)from by rw[e3];exact cL (by unfold aV;unfold bg at LP;omega)];have xR:=S8 b x;have hgo:=acz (d:=d) (s:=s1) (σ:=sP σ g s1) (pd:=pd) (ids:=σ.length) (bk:=σ.length+1) (g:=g) (ib:=f) (to:=to) (b:=b) (x:=x) (t:=tm) (hd.ext _) B1 B2 (by rw[IJ];exact e2) e4 (by rw[IJ];exact oo) (by rw[IJ];exact λb hb=>(e7 b hb).ok (Int.le_refl _) (by omega)) hI.pre hB.uA xR.1 (by have:=xR.2;unfold bg;omega) (by rw[IJ];exact λb hb=>(e7 b hb).can);rw[hgo,bS,aoF];simp only[hs1,sP,bF,List.length_set]
  ·exact Nat.le_of_lt_succ (vW e11 hz)
def Io(σ:Heap)(s:cQ)(v:AV)(H:Heap):Prop:=(s.aD=[]∧v=.ez∧H=σ++[.box (bF v s)])∨∃g,v=.os (σ.length+1) g 10 0 s.aD.length∧H=sP σ g s
theorem Io.ex{σ H:Heap}{s:cQ}{v:AV}(h:Io σ s v H):(∃ex,H=σ++ex)∧Uu H v s.aD:=by
 rcases h with⟨h1,h2,h3⟩|⟨g,h1,h2⟩
 ·exact⟨⟨_,h3⟩,.inl ⟨h1,.inr h2⟩⟩
 ·exact⟨⟨_,h2⟩,.inr ⟨_,g,h1,by rw[h2];exact Ky σ g s⟩⟩
theorem Th{d:bV}(hI:vZ d){σ:Heap}{pd v0:AV}(hd:vf pd d σ){t:Int}(h2:t≤36000000){N:Int}(hs:kZ N d.state)(h1:N≤t)(h0:∃q,A.aF 0 pd=some q∧((A.deref q σ).bind λc=>A.aB 0 4 c)=some (.agg (bF v0 d.state))) (hv:Uu σ v0 d.state.aD):
  ∃v H,Dy [pd,.ah t] σ=some (.agg (bF v (lT d d.state t)),H)∧Io σ (lT d d.state t) v H:=by
 have apv:∀{r:AV→AV→Heap→aH}{x y v:AV}{σ σ':Heap},r x y σ=some (v,σ')→A.wrap false [] .k (A.dI r) [x,y] σ=some (v,σ'):=by intro r x y v σ σ' e;have:A.dI r [x,y] σ=some (v,σ'):=e;simp only[A.wrap,Bool.false_and,bE,A.cG,this,bZ,jC]
 suffices h:∃v H,MY pd (.ah t) σ=some (.agg (bF v (lT d d.state t)),H)∧Io σ (lT d d.state t) v H by obtain⟨v,H,e,h⟩:=h;exact⟨v,H,apv e,h⟩
 obtain⟨s,hst⟩:∃s,s=d.state:=⟨_,rfl⟩
 rw[←hst]at hs h0 hv ⊢;obtain⟨q,f1,f2⟩:=h0;unfold MY;rw[hd.nc,bS,f1,bS,f2,bS,show A.cells 4 (.agg (bF v0 s))=some (bF v0 s)from rfl,bS];have G0:(σ++[aS.box wv])[σ.length]? =some (.box wv):=by rw[iZ (bD _),Nat.sub_self];rfl
 have S0:A.storeAt (.op σ.length 0) (bF v0 s) (σ++[aS.box wv])=some (σ++[aS.box (bF v0 s)]):=by simp only[A.storeAt,G0];rw[show A.aq 0 (bF v0 s) wv=some (bF v0 s)from rfl,bZ,qu _ _ (bD _),Nat.sub_self];rfl
 rw[S0,bS,show A.aF 0 (.op σ.length 0)=some (.op σ.length 0)from rfl,bS];have hcell:A.cell v0=some v0:=by rcases hv with⟨_,h|h⟩|⟨id,g,h,_⟩<;>rw[h]<;>rfl
 have G1:(σ++[aS.box (bF v0 s)])[σ.length]? =some (.box (bF v0 s)):=by rw[iZ (bD _),Nat.sub_self];rfl
 rw[show((A.deref (.op σ.length 0) (σ++[aS.box (bF v0 s)])).bind λc=>A.ak 0 c)=some v0 from by simp only[A.deref,G1,List.drop_zero,aX,A.ak,bF,List.getElem?_cons_zero,hcell],bS];by_cases hb:s.aD=[]
 ·have hz:G3 [v0] (σ++[aS.box (bF v0 s)])=some (.ez,σ++[aS.box (bF v0 s)]):=by
   rcases hv with⟨_,h|h⟩|⟨id,g,h,_⟩
   ·rw[h];rfl
   ·rw[h];rfl
   ·rw[h,hb];rfl
  rw[hz,bS];simp only[bS]
  have S1:A.storeAt (.op σ.length 0) [.ez] (σ++[aS.box (bF v0 s)])=some (σ++[aS.box (bF .ez s)]):=by simp only[A.storeAt,G1];rw[show A.aq 0 [.ez] (bF v0 s)=some (bF .ez s)from rfl,bZ,qu _ _ (bD _),Nat.sub_self];rfl
  rw[show((A.cell AV.ez).bind λv=>some [v])=some [.ez]from rfl,bS,S1,bS]
  have hF:lT d s t=s:=by unfold lT;rw[hb];rfl
  have G2:(σ++[aS.box (bF .ez s)])[σ.length]? =some (.box (bF .ez s)):=by rw[iZ (bD _),Nat.sub_self];rfl
  refine⟨.ez,σ++[aS.box (bF .ez s)],?_,.inl ⟨by rw[hF];exact hb,rfl,by rw[hF]⟩⟩;rw[hF];refine C9 (Ih (ou (Q:=λq=>q=(.ret,[.lbx (bF .ez s)],σ++[aS.box (bF .ez s)])) (λz v w=>v=[.lbx wv]∧w=σ++[aS.box (bF .ez s)]) ?_ (n:=0) ⟨rfl,rfl⟩) ?_)
  ·rintro z v w ⟨rfl,rfl⟩;refine .inr ⟨_,?_,by simp,rfl⟩;rw[show((A.deref (.op σ.length 0) (σ++[aS.box (bF .ez s)])).bind λc=>A.ak 0 c)=some .ez from by simp only[A.deref,G2];rfl,bS,show A.bR .ez=some (.ah 0)from rfl,bS];refine C9 (Ih (ou (Q:=λq=>q=(.exit 2,[.lbx wv,.ah (-1),.ah 0,.ah 0],σ++[aS.box (bF .ez s)])) (λz v w=>v=[.lbx wv,.ah (-1),.ah 0,.ah 0]∧w=σ++[aS.box (bF .ez s)]) ?_ (n:=0) ⟨rfl,rfl⟩) ?_)
   ·rintro z v w ⟨rfl,rfl⟩;exact .inr ⟨_,rfl,by simp,rfl⟩
   ·rintro q rfl;simp only[oa,bW,cA];rw[l8,bS,cz (by decide),dr,show((A.deref (.op σ.length 0) (σ++[aS.box (bF .ez s)])).bind λc=>A.aB 0 4 c)=some (.agg (bF .ez s))from by simp only[A.deref,G2];rfl,bS,ji,bS];exact⟨_,rfl,rfl⟩
  ·rintro q rfl;exact⟨_,rfl,rfl⟩
 ·rcases hv with⟨h,_⟩|⟨id,g,hv,hg⟩
  ·exact absurd h hb
  obtain⟨n,hn⟩:∃n,s.aD.length=n+1:=by
   cases h:s.aD with
   |nil=>exact absurd h hb
   |cons b l=>exact⟨l.length,rfl⟩
  have ad8:=(bM.1 hg).1;have hlen:=hs.len;have G2:(σ++[aS.box (bF v0 s)])[id]? =some (.arr g 10 (s.aD.map aN)):=by rw[jg ad8];exact hg
  have hz:G3 [v0] (σ++[aS.box (bF v0 s)])=some (.os (σ.length+1) s.aD.length 10 0 s.aD.length,(σ++[aS.box (bF v0 s)])++[.arr s.aD.length 10 (s.aD.map aN)]):=by
   have e0:G3 [v0] (σ++[aS.box (bF v0 s)])=A.wrap false [] .k (A.dH G4) [v0] (σ++[aS.box (bF v0 s)]):=by rw[hv,hn];rfl
   rw[e0]
   have e1:A.dH G4 [v0] (σ++[aS.box (bF v0 s)])=some (.os (σ.length+1) s.aD.length 10 0 s.aD.length,(σ++[aS.box (bF v0 s)])++[.arr s.aD.length 10 (s.aD.map aN)]):=by
    show G4 v0 (σ++[aS.box (bF v0 s)])=_;unfold G4;rw[show A.sY v0 .az=some (.bool false)from by rw[hv];rfl,bS,cR]
    have hel:A.elems 10 v0 (σ++[aS.box (bF v0 s)])=some (s.aD.map aN):=by rw[hv]at G2 ⊢;simp only[A.elems];rw[G2];simp [yF]
    have hne:s.aD.map aN≠[]:=by simpa using hb
    have hap:A.append 10 (140737488355328 / 96) .ez v0 (σ++[aS.box (bF v0 s)])=some (.os (σ.length+1) s.aD.length 10 0 s.aD.length,(σ++[aS.box (bF v0 s)])++[.arr s.aD.length 10 (s.aD.map aN)]):=by unfold A.append;rw[hel,bS];simp only[A.vO,aP hne,List.length_map,List.length_append,List.length_cons,List.length_nil];rw[aQ (by omega)]
    rw[hap,bS]
   simp only[A.wrap,Bool.false_and,bE,A.cG,e1,bZ,jC]
  rw[hz,bS];simp only[bS];rw[show((A.cell (AV.os (σ.length+1) s.aD.length 10 0 s.aD.length)).bind λv=>some [v])=some [.os (σ.length+1) s.aD.length 10 0 s.aD.length]from rfl,bS]
  have S1:A.storeAt (.op σ.length 0) [.os (σ.length+1) s.aD.length 10 0 s.aD.length] ((σ++[aS.box (bF v0 s)])++[.arr s.aD.length 10 (s.aD.map aN)])=some (sP σ s.aD.length s):=by rw[lU];simp only[A.storeAt];rw[iZ (bD _),Nat.sub_self];show(Option.map (λcs=>(σ++[aS.box (bF v0 s),aS.arr s.aD.length 10 (s.aD.map aN)]).set σ.length (.box cs)) (A.aq 0 [.os (σ.length+1) s.aD.length 10 0 s.aD.length] (bF v0 s)))=_;rw[show A.aq 0 [.os (σ.length+1) s.aD.length 10 0 s.aD.length] (bF v0 s)=some (bF (.os (σ.length+1) s.aD.length 10 0 s.aD.length) s)from rfl,bZ,acf]
  rw[S1,bS];refine⟨_,_,?_,.inr ⟨s.aD.length,rfl,rfl⟩⟩;refine(congrArg (λz=>Option.bind z _) (aiS hI hd h2 hs h1 s.aD.length)).trans ?_;rw[bS];rfl
end
section
set_option maxRecDepth 100000
open HP
theorem WZ(dyn:Nat→au→Heap→aH)(l:List bn)(hl:l.length≤bg)(n:Nat)(caps:au)(p:bn→Bool)(σ:Heap)(hd:∀x∈l,dyn n ((.agg (aN x):AV)::caps) σ=some (.bool (p x),σ)):Du dyn [sl 10 aN l,.fn n caps] σ=some (.ah (lg p l),σ):=by
 refine wrap_eq rfl ?_ rfl;show MB dyn (sl 10 aN l) (.fn n caps) σ=_;unfold MB;simp only[aW,reduceCtorEq]
 refine(rQ (S:=Unit) (R:=Int) l (λpre x _=>if p x=true then .out (pre.length:Int)else .go ())
  (λpre _=>[.ah 0,.ah (pre.length:Int)]) (λ_ _=>σ) (λ_=>(.exit 0,[.ah 0,.ah (l.length:Int)],σ)) (λpre _ r=>(.ret,[.ah (pre.length:Int),.ah (pre.length:Int)],σ))
  (λ_ _=>True) () (λ_=>some (AV.ah (-1),σ)) (λr=>some (AV.ah r,σ)) ?_ ?_ trivial (λ_ _ _ _ _ _ _ _=>trivial) ?_ ?_).trans ?_
 ·intro pre x rest u hl' _;have hx:=rS hl';have hlt:=uR hl';have hi1:IntKind.i64.wrap ((pre.length:Int)+1)=(pre.length:Int)+1:=cL (by unfold aV;unfold bg at hl;omega);have hlt':(pre.length:Int)<(l.length:Int):=by omega
  have lP:=nQ 10 aN l hx;have qP:=hd x (by rw[hl'];simp);simp only[aW,reduceCtorEq,SJ,hlt',lP,A.lJ,nI,List.nil_append,qP,hi1];cases p x<;>simp [aW,reduceCtorEq]
 ·intro u _;simp only[aW,reduceCtorEq,Int.lt_irrefl]
 ·intro u _;simp only[aW,reduceCtorEq]
 ·intro pre x rest s q hl' _ hb
  have:q=(pre.length:Int):=by
   cases hpx:p x
   ·rw[hpx]at hb;cases hb
   ·rw[hpx]at hb;simp at hb;exact hb.symm
  simp only[aW,reduceCtorEq,this]
 ·rw[Fi p _ _ l [] (by simp)];simp only[List.nil_append];split
  ·rename_i h;rw[h]
  ·rfl
noncomputable def yT (d:bV) (s:cQ) (i:Nat) (b:bn) (to t:Int):cQ×Int:=match b.bH[to.toNat]? with
 |none=>(s,0)
 |some x=>({s with aC:=IntKind.i64.wrap (s.aC+1),aD:=s.aD.set i (nv d {s with aC:=IntKind.i64.wrap (s.aC+1)} b x to t)},0)
def IP(s:cQ)(i:Nat)(b:bn):cQ:={s with aC:=IntKind.i64.wrap (s.aC+1),aD:=s.aD.set i b}
noncomputable def asy (d:bV) (s:cQ) (i:Nat) (b:bn) (a:fR):cQ:={s with aC:=IntKind.i64.wrap (s.aC+1),aD:=s.aD.set i (wq d {s with aC:=IntKind.i64.wrap (s.aC+1)} b a)}
noncomputable def Iz (d:bV) (s:cQ) (a:fR) (i:Nat) (b:bn):cQ×Int:=
 if a.kind=1 then(if b.cm+1=(b.bH.length:Int)then(s,8)else yT d s i b (b.cm+1) a.time)
 else if a.kind=2 then(if b.cm-1<0 then(s,8)else yT d s i b (b.cm-1) a.time)
 else if a.kind=3 then(if lg (λc:bz=>decide (c.aC=a.cm)) b.bH<0 then(s,8)else yT d s i b (lg (λc:bz=>decide (c.aC=a.cm)) b.bH) a.time)
 else if a.kind=4 then(if b.aI.jv=true∨b.cm<0 then(s,10)else(IP s i {b with aI:=⟨dL b.aI a.time,a.time,true⟩},0))
 else if a.kind=5 then(if b.aI.jv=false then(s,10)else(IP s i {b with aI:=⟨b.aI.shown,a.time,false⟩},0))
 else if a.kind=6 then(if b.cm<0 then(s,10)else(asy d s i b a,0))
 else(IP s i {b with iK:=a.level},0)
noncomputable def l9 (d:bV) (s:cQ) (a:fR):cQ×Int:=
 if a.kind=8 then({s with aC:=IntKind.i64.wrap (s.aC+1),oN:=a.level},0)
 else if a.kind=9 then({s with aC:=IntKind.i64.wrap (s.aC+1),black:=decide (a.level=1)},0)
 else match s.aD[(lg (λb:bn=>decide (b.aC=a.jV)) s.aD).toNat]? with
  |none=>(s,0)
  |some b=>Iz d s a (lg (λb:bn=>decide (b.aC=a.jV)) s.aD).toNat b
structure SA (σ W : Heap) (ids bk g : Nat) (s : cQ) : Prop where
 b1:W[ids]? =some (.box (bF (.os bk g 10 0 s.aD.length) s))
 b2:W[bk]? =some (.arr g 10 (s.aD.map aN))
 ex:∃ex,W=σ++ex
 i1:σ.length≤ids
 i2:σ.length≤bk
section
variable {σ W : Heap} {ids bk g : Nat} {s : cQ}
theorem SA.ne(h:SA σ W ids bk g s):ids≠bk:=by intro e;have h1:=h.b1;have h2:=h.b2;rw[e,h2]at h1;cases h1
theorem TP{σ W:Heap}(h:∃ex,W=σ++ex){i:Nat}(hi:σ.length≤i)(b:aS):∃ex,W.set i b=σ++ex:=by obtain⟨ex,rfl⟩:=h;exact⟨_,qu _ _ hi⟩
theorem SA.eS(h:SA σ W ids bk g s)(i:Nat)(b':bn):SA σ (W.set bk (.arr g 10 ((s.aD.set i b').map aN))) ids bk g {s with aD:=s.aD.set i b'}:=by
 refine⟨?_,?_,TP h.ex h.i2 _,h.i1,h.i2⟩
 ·rw[List.getElem?_set_ne (λe=>h.ne e.symm)];show _=some (aS.box (bF (.os bk g 10 0 (s.aD.set i b').length) _));rw[List.length_set];exact h.b1
 ·exact pZ (bM.1 h.b2).1
theorem SA.asF(h:SA σ W ids bk g s)(s':cQ)(hs:s'.aD=s.aD):SA σ (W.set ids (.box (bF (.os bk g 10 0 s'.aD.length) s'))) ids bk g s':=by refine⟨pZ (bM.1 h.b1).1,?_,TP h.ex h.i1 _,h.i1,h.i2⟩;rw[List.getElem?_set_ne h.ne,hs];exact h.b2
theorem SA.num(h:SA σ W ids bk g s)(n:Int):∃W',A.storeAt (.op ids 1) [.ah n] W=some W'∧SA σ W' ids bk g {s with aC:=n}:=by refine⟨_,?_,h.asF {s with aC:=n} rfl⟩;simp only[A.storeAt,h.b1];rfl
theorem SA.put(h:SA σ W ids bk g s){i o:Nat}{b b':bn}{new:au}(hb:s.aD[i]? =some b)(hs:A.aq o new (aN b)=some (aN b')):∃W',A.storeAt (.oe bk g i o) new W=some W'∧SA σ W' ids bk g {s with aD:=s.aD.set i b'}:=by refine⟨_,?_,h.eS i b'⟩;rw[Kn h.b2 (by rw[sy,hb];rfl) hs,List.map_set]
theorem SA.rdB(h:SA σ W ids bk g s){i:Nat}{b:bn}(hb:s.aD[i]? =some b)(o:Nat):A.deref (.oe bk g i o) W=some ((aN b).drop o):=by simp only[A.deref,h.b2,if_true,sy,hb,bZ]
theorem SA.BL(h:SA σ W ids bk g s):((A.deref (.op ids 1) W).bind λc=>A.ak 0 c)=some (.ah s.aC):=by simp only[A.deref,h.b1];rfl
theorem SA.rdV(h:SA σ W ids bk g s):((A.deref (.op ids 0) W).bind λc=>A.ak 0 c)=some (.os bk g 10 0 s.aD.length):=by simp only[A.deref,h.b1];rfl
theorem SA.go{d:bV}{pd:AV}(hI:vZ d)(hd:vf pd d σ)(h:SA σ W ids bk g s){N t:Int}(hs:kZ N s)(hN:N≤t)(ht:t≤36000000){i to:Nat}{b:bn}{x:bz}(hb:s.aD[i]? =some b)(hx:b.bH[to]? =some x):
  ∃W',vL [pd,.op ids 0,.ah (i:Int),.ah (to:Int),.ah t] W=some (.aM [],W')∧SA σ W' ids bk g {s with aD:=s.aD.set i (nv d s b x (to:Int) t)}:=by
 obtain⟨ex,e⟩:=h.ex;have hB:=hs.bs b (cS hb);have xR:=S8 b x;refine⟨_,acz (by rw[e];exact hd.ext ex) h.b1 h.b2 hb hx (by have:=hs.len;unfold bg;omega) (λb hb=>(hs.bs b hb).ok hN ht) hI.pre hB.uA xR.1 (by have:=xR.2;unfold bg;omega) (λb hb=>(hs.bs b hb).can),h.eS i _⟩
theorem SA.rel{d:bV}{pd:AV}(hd:vf pd d σ)(h:SA σ W ids bk g s){a:fR}{N:Int}(hs:kZ N s)(hN:N≤a.time)(ht:a.time≤36000000){i:Nat}{b:bn}(hb:s.aD[i]? =some b):
  ∃W',Jr [pd,.op ids 0,.oe bk g i 0,.agg (cg a)] W=some (.aM [],W')∧SA σ W' ids bk g {s with aD:=s.aD.set i (wq d s b a)}:=by
 obtain⟨ex,e⟩:=h.ex;have hB:=hs.bs b (cS hb);exact⟨_,ak3 (by rw[e];exact hd.ext ex) h.b1 h.b2 hb (hB.ok hN ht) (λb hb=>(hs.bs b hb).can),h.eS i _⟩
end
theorem bex{β:Type}{X:aH}{v:AV×Heap}{f:AV×Heap→Option β}{Q:Heap→Prop}(e:X=some v){r:Heap→Option β}(k:∃W',f v=r W'∧Q W'):∃W',X.bind f=r W'∧Q W':=by rw[e];exact k
theorem aj9(b:bn)(a:fR)(σ:Heap):Dv [.agg (aN b),.rp (cg a)] σ=some (.bool (decide (b.aC=a.jV)),σ):=by refine Fk (z:=.az) (by unfold aN;cases b.runs<;>rfl) (kI (sL (by unfold aN;cases b.runs<;>rfl)) rfl) (jC _) ?_;unfold Xm;rw[NH,bS,YA,bS,mR,bS,oD,bS,show A.ak 0 ((cg a).drop 2)=some (.ah a.jV)from rfl,bS,jQ,bS];exact bP _ _
theorem aka(c:bz)(a:fR)(σ:Heap):Dw [.agg (br c),.rp (cg a)] σ=some (.bool (decide (c.aC=a.cm)),σ):=by refine Fk (z:=.az) rfl (kI (sL rfl) rfl) (jC _) ?_;unfold Xn;rw[Oo,bS,SG,bS,mR,bS,oD,bS,show A.ak 0 ((cg a).drop 3)=some (.ah a.cm)from rfl,bS,jQ,bS];exact bP _ _
theorem akL{W:Heap}{bk g:Nat}{l:List bn}(h:W[bk]? =some (.arr g 10 (l.map aN))):Lt W (.s 10) (.os bk g 10 0 l.length) (sl 10 aN l):=
 ⟨⟨sl 10 aN l,Kt AT h (by omega) 7,rfl,rfl⟩,rfl,λh=>by cases h⟩
noncomputable abbrev OJ : Nat → au → Heap → aH := A.tab (fun _ _ => none) [(352, Dv), (354, Dw)]
theorem aje{W:Heap}{bk g:Nat}{l:List bn}(h:W[bk]? =some (.arr g 10 (l.map aN)))(hl:l.length≤bg)(a:fR):Du OJ [.os bk g 10 0 l.length,.fn 352 [.rp (cg a)]] W=some (.ah (lg (λb:bn=>decide (b.aC=a.jV)) l),W):=
 zY (dG:=[.os bk g 10 0 l.length,.fn 352 [.rp (cg a)]]) (ts:=[sl 10 aN l,.fn 352 [.rp (cg a)]]) ⟨akL h,KC (adx (bQ (ady (YT a)) nR)) rfl,trivial⟩ (λσ=>WZ OJ l hl _ _ _ σ (λb _=>aj9 b a σ)) rfl
theorem abD(c t:Int)(q:Bool):((((A.cell (.ah c)).bind λv=>some [v]).bind λUz=>(A.aq 0 Uz [(AV.ah 0),(AV.ah 0),aO]).bind λzN=>((A.cell (.ah t)).bind λv=>some [v]).bind λKN=>(A.aq 1 KN zN).bind λzO=>((A.cell (AV.bool q)).bind λv=>some [v]).bind λUA=>(A.aq 2 UA zO).bind λxx=>some xx).bind λcs=>some (AV.agg cs))=some (.agg (wU ⟨c,t,q⟩)):=rfl
theorem ac0(b:bn)(c:B7):A.aq 0 (wU c) (aN b)=some (aN {b with aI:=c}):=rfl
theorem amA(b:bn)(n:Int):A.aq 7 [.ah n] (aN b)=some (aN {b with iK:=n}):=rfl
theorem apG{d:bV}{pd:AV}(hI:vZ d){σ W:Heap}(hd:vf pd d σ){ids bk g:Nat}{s:cQ}(h:SA σ W ids bk g s){a:fR}(hs:kZ a.time s)(hk:1≤a.kind∧a.kind≤7)(hp:∃b∈s.aD,b.aC=a.jV):
  ∃W',Jw [pd,.op ids 0,.agg (cg a)] W=some (.ah (l9 d s a).2,W')∧SA σ W' ids bk g (l9 d s a).1:=by
 have aox:∀{r:AV→AV→AV→Heap→aH}{x y z v:AV}{σ σ':Heap},r x y z σ=some (v,σ')→A.wrap false [] .k (A.mU r) [x,y,z] σ=some (v,σ'):=by intro r x y z v σ σ' e;exact Kv (jC _) e
 suffices h:∃W',Hh pd (.op ids 0) (.agg (cg a)) W=some (.ah (l9 d s a).2,W')∧SA σ W' ids bk g (l9 d s a).1 by obtain⟨W',e,h⟩:=h;exact⟨W',aox e,h⟩
 have V9:s.aD.length≤bg:=by have:=hs.len;unfold bg;omega
 have ht:=hs.n.2;have Me:∀(k:Nat)(W:Heap),A.deref (.rp ((cg a).drop k)) W=some ((cg a).drop k):=λk W=>rfl
 unfold Hh l9;rw[aP (by omega),aP (by omega)];rw[show((A.cells 5 (.agg (cg a))).bind λcs=>some (AV.rp cs))=some (.rp (cg a))from rfl,bS];simp only[mR,bS,Me,show A.ak 0 ((cg a).drop 1)=some (.ah a.kind)from rfl,show A.ak 0 ((cg a).drop 0)=some (.ah a.time)from rfl,show A.ak 0 ((cg a).drop 4)=some (.ah a.level)from rfl,jQ,oD,Nz];rw[cD (show ¬a.kind=8 by omega),cR,cD (show ¬a.kind=9 by omega),cR];simp only[show A.aU (.op ids 0)=some (.op ids 0)from rfl,bS,show ∀o,A.aF o (.op ids 0)=some (.op ids o)from λo=>by simp [A.aF],h.rdV];refine bex (aje h.b2 V9 a) ?_;simp only[h.rdV,bS]
 obtain⟨i,b,e1,e2,e3⟩:∃(i:Nat)(b:bn),s.aD[i]? =some b∧lg (λb:bn=>decide (b.aC=a.jV)) s.aD=(i:Int)∧b∈s.aD:=by
  rcases zj (λb:bn=>decide (b.aC=a.jV)) s.aD with⟨_,q,_⟩|⟨i,b,q1,_,q2,_,_⟩
  ·obtain⟨b,hb,vq⟩:=hp;have:=q b hb;rw[cz vq]at this;cases this
  ·exact⟨i,b,q1,q2,cS q1⟩
 have hi:=(bM.1 e1).1;rw[e2];simp only[Int.toNat_natCast];rw[e1];simp only;rw[Ug hi,bS];have hB:=hs.bs b e3;have hc:=hB.cm;have LP:b.bH.length≤bg:=hB.uA.1;have fo:∀o,A.aF o (.oe bk g i 0)=some (.oe bk g i o):=λo=>by simp [A.aF]
 have fo2:∀o,A.aF 0 (.oe bk g i o)=some (.oe bk g i o):=λo=>by simp [A.aF]
 have fo3:∀o,A.aF o (.oe bk g i 0)=some (.oe bk g i o):=λo=>by simp [A.aF]
 have c6:A.ak 0 ((aN b).drop 6)=some (.ah b.cm):=rfl;have c5:A.ak 0 ((aN b).drop 5)=some (sl 11 br b.bH):=rfl;have c2:A.ak 0 ((aN b).drop 2)=some (.bool b.aI.jv):=rfl;have c0:A.ak 0 ((aN b).drop 0)=some (.ah b.aI.shown):=rfl;have c03:A.aB 0 3 ((aN b).drop 0)=some (.agg (wU b.aI)):=rfl;simp only[show A.aU (.oe bk g i 0)=some (.oe bk g i 0)from rfl,bS,fo,h.rdB e1,c6,c5,c2,c0,c03,gH];obtain⟨W1,n1,n2⟩:=h.num (IntKind.i64.wrap (s.aC+1));have hs1:kZ a.time {s with aC:=IntKind.i64.wrap (s.aC+1)}:=Ta hs _
 have go:∀(to:Nat)(x:bz),b.bH[to]? =some x→∃W',vL [pd,.op ids 0,.ah (i:Int),.ah (to:Int),.ah a.time] W1=some (.aM [],W')∧SA σ W' ids bk g (yT d s i b (to:Int) a.time).1∧(yT d s i b (to:Int) a.time).2=0:=by
  intro to x hx;obtain⟨W',q1,q2⟩:=n2.go hI hd hs1 (Int.le_refl _) ht e1 hx;refine⟨W',q1,?_,?_⟩
  ·unfold yT;rw[Int.toNat_natCast,hx];exact q2
  ·unfold yT;rw[Int.toNat_natCast,hx]
 have no:((A.cell (AV.ah (IntKind.i64.wrap (s.aC+1)))).bind λv=>some [v])=some [.ah (IntKind.i64.wrap (s.aC+1))]:=rfl;unfold Iz;by_cases k1:a.kind=1
 ·rw[aQ k1,cz k1,dr,mz,bS,show IntKind.i64.wrap (b.cm+1)=b.cm+1 from cL (by unfold aV;unfold bg at LP;omega),jQ,bS];by_cases hz:b.cm+1=(b.bH.length:Int)
  ·rw[cz hz,dr,aQ hz];exact⟨W,rfl,h⟩
  ·rw[cD hz,cR,aP hz,h.BL,bS,mz,bS,no,bS,n1,bS,uc,bS,cz (by omega),dr];obtain⟨to,hto⟩:∃to:Nat,b.cm+1=(to:Int):=⟨(b.cm+1).toNat,by omega⟩
   obtain⟨W',q1,q2,q3⟩:=go to _ (bT (show to<b.bH.length by omega));rw[hto];simp only[q1,bS,q3];exact⟨W',rfl,q2⟩
 rw[aP k1,cD k1,cR];by_cases k2:a.kind=2
 ·rw[aQ k2,cz k2,dr,sA,bS,show IntKind.i64.wrap (b.cm-1)=b.cm-1 from cL (by unfold aV;unfold bg at LP;omega),l8,bS];by_cases hz:b.cm-1<0
  ·rw[cz hz,dr,aQ hz];exact⟨W,rfl,h⟩
  ·rw[cD hz,cR,aP hz,h.BL,bS,mz,bS,no,bS,n1,bS,uc,bS,cz (by omega),dr];obtain⟨to,hto⟩:∃to:Nat,b.cm-1=(to:Int):=⟨(b.cm-1).toNat,by omega⟩
   obtain⟨W',q1,q2,q3⟩:=go to _ (bT (show to<b.bH.length by omega));rw[hto];simp only[q1,bS,q3];exact⟨W',rfl,q2⟩
 rw[aP k2,cD k2,cR];by_cases k3:a.kind=3
 ·rw[aQ k3,cz k3,dr];have Gv:Jl OJ [sl 11 br b.bH,.fn 354 [.rp (cg a)]] W=some (.ah (lg (λc:bz=>decide (c.aC=a.cm)) b.bH),W):=aeT OJ b.bH LP _ _ _ W (λc _=>aka c a W);refine bex Gv ?_;simp only;rw[l8,bS];rcases zj (λc:bz=>decide (c.aC=a.cm)) b.bH with⟨q,_,_⟩|⟨to,x,q1,_,q2,_,_⟩
  ·rw[q,cz (by decide),dr,aQ (by decide)];exact⟨W,rfl,h⟩
  ·rw[q2,cD (by omega),cR,aP (by omega),h.BL,bS,mz,bS,no,bS,n1,bS,uc,bS,cz (by omega),dr];obtain⟨W',g1,g2,g3⟩:=go to _ q1;simp only[g1,bS,g3];exact⟨W',rfl,g2⟩
 rw[aP k3,cD k3,cR]
 have Vj:∀(o:Nat)(new:au)(b':bn),A.aq o new (aN b)=some (aN b')→∃W1 W2,A.storeAt (.oe bk g i o) new W=some W1∧((A.deref (.op ids 1) W1).bind λc=>A.ak 0 c)=some (.ah s.aC)∧A.storeAt (.op ids 1) [.ah (IntKind.i64.wrap (s.aC+1))] W1=some W2∧SA σ W2 ids bk g (IP s i b'):=by intro o new b' hsp;obtain⟨W1,w1,w2⟩:=h.put e1 hsp;obtain⟨W2,w3,w4⟩:=w2.num (IntKind.i64.wrap (s.aC+1));exact⟨W1,W2,w1,w2.BL,w3,w4⟩
 by_cases k4:a.kind=4
 ·rw[aQ k4,cz k4,dr];by_cases hst:b.aI.jv=true
  ·rw[hst,aQ (.inl rfl)];simp only[Bz,gU,bS,nw,cT];exact⟨W,rfl,h⟩
  have Lj:b.aI.jv=false:=by simpa using hst
  rw[Lj];simp only[gF,bS,show A.aU (.oe bk g i 0)=some (.oe bk g i 0)from rfl,fo,h.rdB e1,c6,pM,l8];by_cases hz:b.cm<0
  ·rw[cz hz,dr,aQ (.inr hz)];exact⟨W,rfl,h⟩
  ·rw[cD hz,cR,aP (λq=>q.elim (λq=>by cases q) hz),eT (Kz _ _ W),bS,abD,bS,Sw,bS];obtain⟨W1',Ls,w1,w2,w3,w4⟩:=Vj 0 _ _ (ac0 b ⟨dL b.aI a.time,a.time,true⟩);rw[w1,bS,w2,bS,mz,bS,no,bS,w3,bS,uc,bS,cD (by decide),cR,bS];exact⟨Ls,rfl,w4⟩
 rw[aP k4,cD k4,cR];by_cases k5:a.kind=5
 ·rw[aQ k5,cz k5,dr,yJ,bS];by_cases hst:b.aI.jv=true
  case neg=>
   have Lj:b.aI.jv=false:=by simpa using hst
   rw[Lj,aQ rfl];exact⟨W,rfl,h⟩
  ·rw[hst,aP (by simp),show(!true)=false from rfl,cR,abD,bS,Sw,bS];obtain⟨W1',Ls,w1,w2,w3,w4⟩:=Vj 0 _ _ (ac0 b ⟨b.aI.shown,a.time,false⟩);rw[w1,bS,w2,bS,mz,bS,no,bS,w3,bS,uc,bS,cD (by decide),cR,bS];exact⟨Ls,rfl,w4⟩
 rw[aP k5,cD k5,cR];by_cases k6:a.kind=6
 ·rw[aQ k6,cz k6,dr,l8,bS];by_cases hz:b.cm<0
  ·rw[cz hz,dr,aQ hz];exact⟨W,rfl,h⟩
  ·rw[cD hz,cR,aP hz,h.BL,bS,mz,bS,no,bS,n1,bS];obtain⟨W',q1,q2⟩:=n2.rel hd hs1 (Int.le_refl _) ht e1;rw[q1,bS];exact⟨W',rfl,q2⟩
 rw[aP k6,cD k6,cR,cz (show a.kind=7 by omega),dr];obtain⟨W1',Ls,w1,w2,w3,w4⟩:=Vj 7 _ _ (amA b a.level);rw[rX,bS,w1,bS,bS];simp only;rw[w2,bS,mz,bS,no,bS,w3,bS,uc,bS,cD (by decide),cR,bS];exact⟨Ls,rfl,w4⟩
end
section
set_option maxRecDepth 100000
noncomputable def Qp (a0:nO) (a1:fR):Option Bool:=some (decide (a0.aC=a1.jV))
theorem afE{a0:nO}{a1:fR}{σ:Heap}{r:Bool}(h:Qp a0 a1=some r):Jo [(AV.agg (dh a0)),(AV.rp (cg a1))] σ=some ((AV.bool r),σ):=by refine yl (f:=Qo) (y0:=(AV.agg (dh a0))) (y1:=(AV.rp (cg a1))) (enc:=λr:Bool=>(AV.bool r)) (T:=Qp a0 a1) rfl rfl ?_ r h;unfold Qo Qp;refine aA _ rfl<|aA _ rfl<|aA _ rfl<|aA _ rfl<|aA _ (jQ _ _ _) ?_;exact fW _ (bP _ _) ⟨rfl,rfl⟩
noncomputable def ER (a0:fR):Option Int:=
 if(!(bf a0.kind 1 9))=true then
  some 4
 else
 if(((((decide (a0.kind=8))||(decide (a0.kind=9)))&&(decide (¬(a0.jV=0))))||((decide (¬(a0.kind=3)))&&(decide (¬(a0.cm=0)))))||((!((((decide (a0.kind=8))||(decide (a0.kind=9)))||(decide (a0.kind=6)))||(decide (a0.kind=7))))&&(decide (¬(a0.level=0)))))=true then
  some 3
 else
 some 0
theorem afX{a0:fR}{σ:Heap}{r:Int}(h:ER a0=some r):MP [(AV.agg (cg a0))] σ=some ((AV.ah r),σ):=by
 refine AZ (f:=QC) (y0:=(AV.agg (cg a0))) (enc:=λr:Int=>(AV.ah r)) (T:=ER a0) rfl rfl ?_ r h;unfold QC ER;refine aA _ rfl<|aA _ rfl<|aA _ (lZ a0.kind 1 9 σ)<|aA _ rfl ?_;refine kV (c:=(!(bf a0.kind 1 9))) (λc2=>?_) (λc2=>?_)
 ·exact fW _ (bP _ _) ⟨rfl,rfl⟩
 refine aA _ rfl<|aA _ (jQ _ _ _)<|fZ (AV.ah a0.kind) (λhg=>rfl)<|fZ (AV.bool (decide (a0.kind=9))) (λhg=>by(try rw[hg]);exact(jQ _ _ _))<|aA _ (sj _ _)<|fZ (AV.ah a0.kind) (λhg=>rfl)<|fZ (AV.bool (decide (a0.kind=6))) (λhg=>by(try rw[hg]);exact(jQ _ _ _))<|aA _ (sj _ _)<|fZ (AV.ah a0.kind) (λhg=>rfl)<|fZ (AV.bool (decide (a0.kind=7))) (λhg=>by(try rw[hg]);exact(jQ _ _ _))<|aA _ (sj _ _)<|fE (AV.ah a0.jV) (λhg=>rfl)<|fE (AV.bool (decide (¬(a0.jV=0)))) (λhg=>by(try rw[hg]);exact(ij _ _ _))<|aA _ (uQ _ _)<|fZ (AV.ah a0.kind) (λhg=>rfl)<|fZ (AV.bool (decide (¬(a0.kind=3)))) (λhg=>by(try rw[hg]);exact(ij _ _ _))<|fZ (AV.bool (decide (¬(a0.kind=3)))) (λhg=>by(try rw[hg]);exact rfl)<|Ik (AV.ah a0.cm) (λhg=>rfl)<|Ik (AV.bool (decide (¬(a0.cm=0)))) (λhg=>by(try rw[hg]);exact(ij _ _ _))<|fZ (AV.bool ((decide (¬(a0.kind=3)))&&(decide (¬(a0.cm=0))))) (λhg=>by(try rw[hg]);exact(uQ _ _))<|aA _ (sj _ _)<|fZ (AV.bool ((((decide (a0.kind=8))||(decide (a0.kind=9)))||(decide (a0.kind=6)))||(decide (a0.kind=7)))) (λhg=>rfl)<|fZ (AV.bool (!((((decide (a0.kind=8))||(decide (a0.kind=9)))||(decide (a0.kind=6)))||(decide (a0.kind=7))))) (λhg=>by(try rw[hg]);exact rfl)<|fZ (AV.bool (!((((decide (a0.kind=8))||(decide (a0.kind=9)))||(decide (a0.kind=6)))||(decide (a0.kind=7))))) (λhg=>by(try rw[hg]);exact rfl)<|Ik (AV.ah a0.level) (λhg=>rfl)<|Ik (AV.bool (decide (¬(a0.level=0)))) (λhg=>by(try rw[hg]);exact(ij _ _ _))<|fZ (AV.bool ((!((((decide (a0.kind=8))||(decide (a0.kind=9)))||(decide (a0.kind=6)))||(decide (a0.kind=7))))&&(decide (¬(a0.level=0))))) (λhg=>by(try rw[hg]);exact(uQ _ _))<|aA _ (sj _ _) ?_;refine kV (c:=(((((decide (a0.kind=8))||(decide (a0.kind=9)))&&(decide (¬(a0.jV=0))))||((decide (¬(a0.kind=3)))&&(decide (¬(a0.cm=0)))))||((!((((decide (a0.kind=8))||(decide (a0.kind=9)))||(decide (a0.kind=6)))||(decide (a0.kind=7))))&&(decide (¬(a0.level=0)))))) (λc1=>?_) (λc1=>?_)
 ·exact fW _ (bP _ _) ⟨rfl,rfl⟩
 exact fW _ (bP _ _) ⟨rfl,rfl⟩
noncomputable def ES (a0:iQ) (a1:fR):Option Int:=
 (if(!((decide (a1.kind=8))||(decide (a1.kind=9))))=true then tq (a0.bU.length≤bg) (a0.bU.any (λx=>(decide (x.aC=a1.jV))))else some default).bind λr1=>
 if((!((decide (a1.kind=8))||(decide (a1.kind=9))))&&(!r1))=true then
  some 8
 else
 (show Option Int from
   if a1.kind=6 then
    some 36000000
   else
   (show Option Int from
     if a1.kind=9 then
      some 1
     else
     some 65535).bind λj3=>
   some j3).bind λj7=>
 some (if(!(bf a1.level 0 j7))=true then 1 else 0)
theorem afY{a0:iQ}{a1:fR}{σ:Heap}{r:Int}(h:ES a0 a1=some r):MQ [(AV.agg (bK a0)),(AV.agg (cg a1))] σ=some ((AV.ah r),σ):=by
 refine yl (f:=MR) (y0:=(AV.agg (bK a0))) (y1:=(AV.agg (cg a1))) (enc:=λr:Int=>(AV.ah r)) (T:=ES a0 a1) rfl rfl ?_ r h;unfold MR ES;refine aA _ rfl<|aA _ rfl<|aA _ rfl<|aA _ rfl<|aA _ (jQ _ _ _)<|fZ (AV.rp (List.drop 1 (cg a1))) (λhg=>rfl)<|fZ (AV.ah a1.kind) (λhg=>by(try rw[hg]);exact rfl)<|fZ (AV.bool (decide (a1.kind=9))) (λhg=>by(try rw[hg]);exact(jQ _ _ _))<|aA _ (sj _ _)<|aA _ rfl<|fE (sl 3 dh a0.bU) (λhg=>rfl)<|fE (AV.fn 152 [(AV.rp (cg a1))]) (λhg=>rfl) ?_;refine Bd (ω:=Bool) (λr1=>(AV.bool r1)) (λhg r1 mH=>by(try rw[hg]);exact(eT ((zF (e:=λr:Bool=>((AV.bool r),σ)) (λhs=>aeC _ a0.bU hs _ _ (λx=>(decide (x.aC=a1.jV))) σ (λx hx=>afE (σ:=σ) (r:=(decide (x.aC=a1.jV))) rfl))) mH))) (λr1 mH=>?_);refine fE (AV.bool (!r1)) (λhg=>by(try rw[hg]);exact rfl)<|aA _ (uQ _ _) ?_;refine kV (c:=((!((decide (a1.kind=8))||(decide (a1.kind=9))))&&(!r1))) (λfL=>?_) (λfL=>?_)
 ·exact fW _ (bP _ _) ⟨rfl,rfl⟩
 refine aA _ rfl<|aA _ rfl<|aA _ (jQ _ _ _) ?_
 refine Pr (ω:=Int) (λj7 a=>a=(([(AV.ah j7)]:au),σ)) (
   by
    refine ng (p:=a1.kind=6) (λc6=>?_) (λc6=>?_)
    ·exact cV rfl
    refine aA _ (jQ _ _ _) ?_
    refine Pr (ω:=Int) (λj3 a=>a=(([(AV.ah j3)]:au),σ)) (
      by
       refine ng (p:=a1.kind=9) (λc2=>?_) (λc2=>?_)
       ·exact cV rfl
       exact cV rfl
      ) (λj3 a ha=>?_)
    subst ha;exact cV rfl
   ) (λj7 a ha=>?_)
 subst ha;refine aA _ rfl<|aA _ rfl<|aA _ (lZ a1.level 0 j7 σ)<|aA _ rfl<|aA _ (wR (!(bf a1.level 0 j7)) 1 σ) ?_;exact fW _ (bP _ _) ⟨rfl,rfl⟩
end
section
set_option maxRecDepth 100000
open HP
def jl(p:aG×fS):AV×AV:=(.agg (aT p.1),.agg (gA p.2))
abbrev iR(vb:AV)(bl:Nat)(va:AV)(d:bV):au:=[vb,.ah d.state.aC,.ah d.state.oN,.bool d.state.black,sl 3 dm d.setup.aZ.bw,sl 4 cO d.setup.aZ.dB,sl 3 ff d.setup.cq,sl 2 fA d.setup.cM,sl 3 dh d.setup.bU,sl 2 aT d.keys,.om bl,va]
def jW(id:Nat)(vb:AV)(bl:Nat)(va:AV)(d:bV):HP:=blk id (.box (iR vb bl va d))*(Sl (fl aN) 10 vb d.state.aD*(blk bl (.map ((d.params.getD []).map jl))*Sl (fl cg) 5 va d.cC))
def jy(pd:AV)(d:bV):HP:=ex λx:Nat×AV×Nat×AV=>pr (pd=.op x.1 0∧d.params.isSome=true)*jW x.1 x.2.1 x.2.2.1 x.2.2.2 d
section
variable {B : aS → Prop} {aK σ : Heap} {R : HP} {pd : AV} {d : bV}
theorem JY(H:Hs B aK σ (jy pd d*R)):∃id vb bl va,pd=.op id 0∧d.params.isSome=true∧Hs B aK σ (jW id vb bl va d*R):=by unfold jy at H;rw[O0]at H;obtain⟨⟨id,vb,bl,va⟩,H⟩:=H;rw[wO,oO]at H;exact⟨id,vb,bl,va,H.1.1,H.1.2,H.2⟩
theorem Fh{id:Nat}{vb:AV}{bl:Nat}{va:AV}(hp:d.params.isSome=true)(H:Hs B aK σ (jW id vb bl va d*R)):Hs B aK σ (jy (.op id 0) d*R):=by unfold jy;rw[O0];refine⟨⟨id,vb,bl,va⟩,?_⟩;rw[wO,oO];exact⟨⟨rfl,hp⟩,H⟩
theorem TH{vb:AV}{l:List bn}(H:Hs B aK σ (Sl (fl aN) 10 vb l*R)):Uu σ vb l:=by
 rcases wP H with⟨h1,h2,_⟩|⟨id,g,h1,K⟩
 ·exact .inl ⟨h1,h2⟩
 ·exact .inr ⟨id,g,h1,(jx K).2⟩
theorem Tv(H:Hs B aK σ R)(ex:Heap):Hs bY aK (σ++ex) R:=ao2 (TR H) ex (λ_ _=>trivial)
theorem N7{W:Heap}{i:Nat}{b:aS}(H:Hs B aK σ R)(hW:∃ex,W=σ++ex)(hi:σ.length≤i)(hb:W[i]? =some b):Hs bY aK W (blk i b*R):=by
 obtain⟨ex,rfl⟩:=hW;have hl:=acE H;obtain⟨⟨bs,vr,_⟩,h,hr,h2⟩:=H;refine⟨⟨bs++ex,by rw[vr,lU],λ_ _=>trivial⟩,λj=>if j=i then some b else h j,⟨λj=>if j=i then some b else none,h,λj=>rfl,hr,λj=>?_,λj=>?_⟩,λj x hx=>?_⟩
 ·by_cases e:j=i
  ·right;cases hj:h j with
   |none=>rfl
   |some x=>have:=(bM.1 (h2 j x hj).2).1;omega
  ·simp only[e,if_false,true_or]
 ·by_cases e:j=i<;>simp only[e,if_true,if_false,Option.or_some,Option.none_or,Option.some_or]
 ·by_cases e:j=i
  ·subst e;simp only[if_true,Option.some.injEq]at hx;subst hx;exact⟨by omega,hb⟩
  ·simp only[e,if_false]at hx;obtain⟨k1,k2⟩:=h2 j x hx;exact⟨k1,by rw[jg (bM.1 k2).1];exact k2⟩
theorem anq{l:List (aG×fS)}{bl:Nat}(h:σ[bl]? =some (.map (l.map jl)))(d:Nat):A.bG σ 0 (d+1) (.om bl)=some (.fm (l.map jl)):=by simp only[A.bG,Nat.not_lt_zero,if_false,h];rw[Ow d (λp hp=>by obtain⟨q,_,rfl⟩:=gB.1 hp;exact⟨wV (BZ _),wV (SC _)⟩)];rfl
theorem Oz{id:Nat}{vb:AV}{bl:Nat}{va:AV}(hp:d.params.isSome=true)(H:Hs B aK σ (jW id vb bl va d*R)):Lt σ TY (.op id 0) (.rp (tT d)):=by
 obtain⟨ps,hps⟩:=Option.isSome_iff_exists.1 hp;unfold jW at H;have H1:=dw (show _=blk id (.box (iR vb bl va d))*(Sl (fl aN) 10 vb d.state.aD*(blk bl (.map ((d.params.getD []).map jl))*Sl (fl cg) 5 va d.cC)*R) by ac_rfl) H;have H2:=dw (show _=Sl (fl aN) 10 vb d.state.aD*(blk id (.box (iR vb bl va d))*(blk bl (.map ((d.params.getD []).map jl))*Sl (fl cg) 5 va d.cC)*R) by ac_rfl) H;have H3:=dw (show _=blk bl (.map ((d.params.getD []).map jl))*(Sl (fl aN) 10 vb d.state.aD*blk id (.box (iR vb bl va d))*Sl (fl cg) 5 va d.cC*R) by ac_rfl) H;have H4:=dw (show _=Sl (fl cg) 5 va d.cC*(Sl (fl aN) 10 vb d.state.aD*blk id (.box (iR vb bl va d))*blk bl (.map ((d.params.getD []).map jl))*R) by ac_rfl) H;obtain⟨uC,b1,b2,b3⟩:=Fy H2 AT (kY _) 6;obtain⟨Ds,a1,a2,a3⟩:=Fy H4 YT (kY _) 6;have hm:=anq (jx H3).2 6;rw[hps,Option.getD_some]at hm;have hg:=(jx H1).2;refine⟨⟨.rp [uC,.ah d.state.aC,.ah d.state.oN,.bool d.state.black,sl 3 dm d.setup.aZ.bw,sl 4 cO d.setup.aZ.dB,sl 3 ff d.setup.cq,sl 2 fA d.setup.cM,sl 3 dh d.setup.bU,sl 2 aT d.keys,.fm (ps.map jl),Ds],?_,?_,?_⟩,rfl,λh=>by cases h⟩
 ·simp only[A.bG,Nat.not_lt_zero,if_false,hg,List.drop_zero,iR,A.wY,b1,a1,hm,rA aic _ σ 0 7,rA SZ _ σ 0 7,rA YU _ σ 0 7,rA alW _ σ 0 7,rA Rm _ σ 0 7,rA BZ _ σ 0 7,aX,bZ]
 ·rfl
 ·show AV.rp (A.cG Gb _)=AV.rp (A.cG Gb (tT d));congr 1;unfold tT;rw[hps];simp only[A.cG,b3,a3];rfl
theorem TD{id:Nat}{vb:AV}{bl:Nat}{va:AV}(hp:d.params.isSome=true)(H:Hs B aK σ (jW id vb bl va d*R)):vf (.op id 0) d σ:=by
 have K:∀ex,Hs bY aK (σ++ex) (jW id vb bl va d*R):=λex=>Tv H ex
 have hg:∀ex,(σ++ex)[id]? =some (.box (iR vb bl va d)):=λex=>(jx (dw (show _=blk id (.box (iR vb bl va d))*(Sl (fl aN) 10 vb d.state.aD*(blk bl (.map ((d.params.getD []).map jl))*Sl (fl cg) 5 va d.cC)*R) by unfold jW;ac_rfl) (K ex))).2
 have hm:∀ex,(σ++ex)[bl]? =some (.map ((d.params.getD []).map jl)):=λex=>(jx (dw (show _=blk bl (.map ((d.params.getD []).map jl))*(Sl (fl aN) 10 vb d.state.aD*blk id (.box (iR vb bl va d))*Sl (fl cg) 5 va d.cC*R) by unfold jW;ac_rfl) (K ex))).2
 refine⟨rfl,⟨.op id 4,.op id 6,by simp [A.aF],by simp [A.aF],λex=>?_⟩,⟨.op id 10,.om bl,by simp [A.aF],λex=>⟨?_,λk=>?_⟩⟩,λex=>Oz hp (K ex)⟩
 ·simp only[A.deref,hg ex];rfl
 ·simp only[A.deref,hg ex];rfl
 ·simp only[A.look,show A.lq (.s [0,2]) (.agg (aT k))=true from rfl,ck,A.entries,hm ex,aX,show A.find (.s [0,2]) (.agg (aT k)) ((d.params.getD []).map jl)=some ((dM k (d.params.getD [])).map λp=>AV.agg (gA p))from DU (eK:=λk=>AV.agg (aT k)) (eV:=λp=>AV.agg (gA p)) tL k _,bZ];unfold lQ;cases dM k (d.params.getD [])<;>rfl
end
noncomputable def HW (a:fR):Int:=(ER a).getD 0
noncomputable def IU (s:iQ) (a:fR):Int:=(ES s a).getD 0
theorem aaA(a:fR):ER a=some (HW a):=by
 unfold HW ER;split
 ·rfl
 split<;>rfl
theorem aa2{s:iQ}(hl:s.bU.length≤bg)(a:fR):ES s a=some (IU s a):=by
 unfold IU ES;rw[yu hl];have:∀(c:Bool)(x y:Bool),∃r,(if c=true then some x else some y:Option Bool)=some r:=by intro c x y;cases c<;>exact⟨_,rfl⟩
 obtain⟨r,hr⟩:=this (!((decide (a.kind=8))||(decide (a.kind=9)))) (s.bU.any (λx=>(decide (x.aC=a.jV)))) default;rw[hr,aX];split
 ·rfl
 ·split
  ·rfl
  ·split<;>rfl
theorem ace{s:iQ}(hl:s.bU.length≤bg){a:fR}(h1:HW a=0)(h2:IU s a=0):(1≤a.kind∧a.kind≤9)∧(a.kind≤7→∃p∈s.bU,p.aC=a.jV)∧(a.kind≠6→0≤a.level∧a.level≤65535)∧0≤a.level∧a.level≤36000000:=by
 have e1:=aaA a;have e2:=aa2 hl a;rw[h1]at e1;rw[h2]at e2;unfold ER at e1;split at e1
 ·cases e1
 rename_i k1;have hk:1≤a.kind∧a.kind≤9:=sw (by simpa using k1);unfold ES at e2;rw[yu hl]at e2
 have ary:a.kind≤7→∃p∈s.bU,p.aC=a.jV:=by
  intro h;rw[cD (show ¬a.kind=8 by omega),cD (show ¬a.kind=9 by omega)]at e2;simp only[Bool.or_false,Bool.not_false,if_true,aX,Bool.true_and]at e2;by_cases q:s.bU.any (λx=>decide (x.aC=a.jV))=true
  ·obtain⟨p,hp,hp2⟩:=List.any_eq_true.1 q;exact⟨p,hp,by simpa using hp2⟩
  ·rw[aQ (by simpa using q)]at e2;cases e2
 refine⟨hk,ary,?_⟩;have:∀(c:Bool)(x y:Bool),∃r,(if c=true then some x else some y:Option Bool)=some r:=by intro c x y;cases c<;>exact⟨_,rfl⟩
 obtain⟨r,hr⟩:=this (!((decide (a.kind=8))||(decide (a.kind=9)))) (s.bU.any (λx=>(decide (x.aC=a.jV)))) default;rw[hr,aX]at e2;split at e2
 ·cases e2
 by_cases k6:a.kind=6
 ·rw[aQ k6]at e2;simp only[aX]at e2;by_cases q:bf a.level 0 36000000=true
  ·have:=sw q;exact⟨λh=>absurd k6 h,this.1,this.2⟩
  ·rw[aQ (by simpa using q)]at e2;cases e2
 ·rw[aP k6]at e2;by_cases k9:a.kind=9
  ·rw[aQ k9]at e2;simp only[aX]at e2;by_cases q:bf a.level 0 1=true
   ·have:=sw q;exact⟨λ_=>⟨this.1,by omega⟩,this.1,by omega⟩
   ·rw[aQ (by simpa using q)]at e2;cases e2
  ·rw[aP k9]at e2;simp only[aX]at e2;by_cases q:bf a.level 0 65535=true
   ·have:=sw q;exact⟨λ_=>⟨this.1,by omega⟩,this.1,by omega⟩
   ·rw[aQ (by simpa using q)]at e2;cases e2
noncomputable def Gp (d:bV) (a:fR):Int:=
 ([(([(if decide ((d.cC.length:Int)=5000)=true then 2 else 0),HW a,(if(!(bf a.time 0 36000000))=true then 1 else 0),(if decide (a.time<su d.cC)=true then 7 else 0)]:List Int).find? λn=>decide (¬n=0)).getD 0,IU d.setup a].find? λn=>decide (¬n=0)).getD 0
noncomputable def nL (d:bV) (a:fR):bV×Int:=
 if ¬(Gp d a=0)then(d,Gp d a)
 else if ¬((l9 d (lT d d.state a.time) a).2=0)then(d,(l9 d (lT d d.state a.time) a).2)
 else({d with state:=(l9 d (lT d d.state a.time) a).1,cC:=d.cC++[a]},0)
theorem anj{a b:Int}(h:(([a,b]:List Int).find? λn=>decide (¬n=0)).getD 0=0):a=0∧b=0:=by
 by_cases ha:a=0
 ·by_cases hb:b=0
  ·exact⟨ha,hb⟩
  ·simp [List.find?,ha,hb]at h
 ·simp [List.find?,ha]at h
theorem ank{a b c e:Int}(h:(([a,b,c,e]:List Int).find? λn=>decide (¬n=0)).getD 0=0):a=0∧b=0∧c=0∧e=0:=by
 by_cases ha:a=0
 ·by_cases hb:b=0
  ·by_cases hc:c=0
   ·by_cases he:e=0
    ·exact⟨ha,hb,hc,he⟩
    ·simp [List.find?,ha,hb,hc,he]at h
   ·simp [List.find?,ha,hb,hc]at h
  ·simp [List.find?,ha,hb]at h
 ·simp [List.find?,ha]at h
theorem acn{d:bV}{a:fR}(h:Gp d a=0):¬((d.cC.length:Int)=5000)∧HW a=0∧(0≤a.time∧a.time≤36000000)∧su d.cC≤a.time∧IU d.setup a=0:=by
 obtain⟨h1,h2⟩:=anj h;obtain⟨k1,k2,k3,k4⟩:=ank h1;refine⟨λq=>?_,k2,?_,?_,h2⟩
 ·rw[cz q,aQ rfl]at k1;cases k1
 ·by_cases q:bf a.time 0 36000000=true
  ·exact sw q
  ·rw[aQ (by simpa using q)]at k3;cases k3
 ·by_cases q:a.time<su d.cC
  ·rw[cz q,aQ rfl]at k4;cases k4
  ·omega
structure tZ (d : bV) : Prop where
 di:vZ d
 si:kZ (su d.cC) d.state
 Vg:d.state.aD.map (·.aC)=d.setup.bU.map (·.aC)
 len:d.cC.length≤5000
 par:d.params.isSome=true
theorem tZ.pl{d:bV}(h:tZ d):d.setup.bU.length≤bg:=by have e:=congrArg List.length h.Vg;simp only[List.length_map]at e;have:=h.si.len;unfold bg;omega
theorem Oc{l:List bn}{i:Nat}{b b':bn}(h:l[i]? =some b)(e:b'.aC=b.aC):(l.set i b').map (·.aC)=l.map (·.aC):=by
 rw[List.map_set];refine List.ext_getElem? λj=>?_
 rw[kW];split
 ·rename_i q;have hl:=(bM.1 h).1;rw[aQ (by simpa [←q]using hl),sy,←q,h,bZ,e]
 ·rfl
theorem akP{d:bV}{t:Int}{s s':cQ}(h:D7 d t s=some s'):s'.aD.map (·.aC)=s.aD.map (·.aC):=by
 unfold D7 at h;split at h
 ·cases h
 obtain⟨b,hb,h⟩:=bO.1 h;obtain⟨x,hx,rfl⟩:=eG.1 h;exact Oc hb rfl
theorem Yj{d:bV}{t:Int}:∀(n:Nat)(s:cQ),(B8 d t n s).aD.map (·.aC)=s.aD.map (·.aC)
 |0,s=>rfl
 |n+1,s=>by
  unfold B8;cases h:D7 d t s with
  |none=>rfl
  |some s'=>simp only;rw[Yj n s',akP h]
theorem JO(d:bV)(s:cQ)(t:Int):(lT d s t).aD.map (·.aC)=s.aD.map (·.aC):=Yj _ s
theorem akn:rq ⟨1,[]⟩=0:=by decide
theorem amN{d:bV}(hI:vZ d){s:cQ}{a:fR}(hs:kZ a.time s)(hk:1≤a.kind∧a.kind≤9)(hl:a.kind≠6→0≤a.level∧a.level≤65535)(qd:0≤a.level∧a.level≤36000000):kZ a.time (l9 d s a).1∧(l9 d s a).1.aD.map (·.aC)=s.aD.map (·.aC):=by
 have ht:=hs.n;unfold l9;by_cases k8:a.kind=8
 ·rw[aQ k8];exact⟨⟨hs.n,hs.len,hs.bs,hl (by omega)⟩,rfl⟩
 rw[aP k8];by_cases k9:a.kind=9
 ·rw[aQ k9];exact⟨⟨hs.n,hs.len,hs.bs,hs.oN⟩,rfl⟩
 rw[aP k9];generalize (lg (λb:bn=>decide (b.aC=a.jV)) s.aD).toNat=i;cases hb:s.aD[i]? with
 |none=>exact⟨hs,rfl⟩
 |some b=>
  simp only;have yV:=cS hb;have hB:=hs.bs b yV;have iN:=Fo hB.sX (Int.le_refl _) ht.2;have put:∀b':bn,vY a.time b'→b'.aC=b.aC→kZ a.time (IP s i b')∧(IP s i b').aD.map (·.aC)=s.aD.map (·.aC):=λb' h1 h2=>⟨Od hs i h1 _,Oc hb h2⟩
  have go:∀to:Int,0≤to→kZ a.time (yT d s i b to a.time).1∧(yT d s i b to a.time).1.aD.map (·.aC)=s.aD.map (·.aC):=by
   intro to h0;unfold yT;cases hx:b.bH[to.toNat]? with
   |none=>exact⟨hs,rfl⟩
   |some x=>
    have e:to=((to.toNat:Nat):Int):=by omega
    have:=abz hI (Ta hs (IntKind.i64.wrap (s.aC+1))) (Int.le_refl _) ht.2 yV hx;rw[←e]at this;exact⟨Od hs i this _,Oc hb rfl⟩
  have at5:=hB.cm;unfold Iz;split
  ·split
   ·exact⟨hs,rfl⟩
   ·exact go _ (by omega)
  split
  ·split
   ·exact⟨hs,rfl⟩
   ·exact go _ (by omega)
  split
  ·split
   ·exact⟨hs,rfl⟩
   ·exact go _ (by omega)
  split
  ·split
   ·exact⟨hs,rfl⟩
   ·refine put _ ⟨hB.uA,hB.eo,hB.can,hB.runs,hB.iK,⟨iN.2.1,iN.2.2,Int.le_refl _⟩,hB.cm,?_⟩ rfl;rcases hB.Ew with h|⟨h1,h2,h3⟩
    ·exact .inl h
    ·exact .inr ⟨h1,h2,h3⟩
  split
  ·split
   ·exact⟨hs,rfl⟩
   ·rename_i hst;have Lj:b.aI.jv=true:=by simpa using hst
    obtain⟨c1,c2,c3⟩:=hB.sX;refine put _ ⟨hB.uA,hB.eo,hB.can,hB.runs,hB.iK,⟨c1,by show b.aI.shown≤a.time;omega,Int.le_refl _⟩,hB.cm,?_⟩ rfl;rcases hB.Ew with h|⟨h1,h2,h3⟩
    ·exact .inl h
    ·refine .inr ⟨h1,?_,h3⟩;rw[iN.1,aQ Lj]at h2;show IntKind.i64.wrap (IntKind.i64.wrap (b.aI.shown+a.time) -a.time)≤b.eA;rw[show IntKind.i64.wrap (b.aI.shown+a.time)=b.aI.shown+a.time from cL (by unfold aV;omega),cL (by unfold aV;omega)];omega
  split
  ·split
   ·exact⟨hs,rfl⟩
   ·refine⟨Od hs i (b:=wq d {s with aC:=IntKind.i64.wrap (s.aC+1)} b a) ⟨hB.uA,hB.eo,aaq (NS (Nt hB)),λk r hkr=>?_,hB.iK,⟨iN.2.1,iN.2.2,Int.le_refl _⟩,⟨by show(-1:Int)≤-1;omega,by show(-1:Int)<_;omega⟩,.inl (by show(-1:Int)<0;decide)⟩ _,Oc hb rfl⟩;have hm:(k,r)∈Kl d {s with aC:=IntKind.i64.wrap (s.aC+1)} b a:=(Su _).mem_iff.1 hkr;obtain⟨p,hp,q⟩:=List.mem_filterMap.1 hm;obtain⟨r',hr',q⟩:=eG.1 q;injection q with q1 q2
    subst q2;refine⟨?_,by rw[←q1];exact(hB.runs p.1 p.2 hp).2⟩;unfold Bc at hr';split at hr'
    ·cases hr'
    ·rename_i hq;injection hr' with hr'
     subst hr'
     have oh:(dU b p.1 (dL b.aI a.time)).2=true:=by
      cases h:(dU b p.1 (dL b.aI a.time)).2
      ·exact absurd (.inl h) hq
      ·rfl
     have hfo:=B9 (hB.ok (Int.le_refl _) ht.2) oh;exact Ou (Ij hfo _) (by simp) ⟨iN.2.1,by show dL b.aI a.time≤_;omega⟩ (by simp) qd akn
  ·exact put _ ⟨hB.uA,hB.eo,hB.can,hB.runs,hl (by assumption),hB.sX,hB.cm,hB.Ew⟩ rfl
theorem aco{d:bV}(h:tZ d)(a:fR):tZ (nL d a).1:=by
 unfold nL;split
 ·exact h
 rename_i h0;have h0:Gp d a=0:=by simpa using h0
 obtain⟨k1,k2,k3,k4,k5⟩:=acn h0;obtain⟨a1,a2,a3,a4⟩:=ace h.pl k2 k5;split
 ·exact h
 ·have hA:=NG h.di h.si k4 k3.2;obtain⟨b1,b2⟩:=amN h.di hA a1 a3 a4;refine⟨⟨h.di.pre,h.di.lev,h.di.par⟩,?_,?_,?_,h.par⟩
  ·have:su (d.cC++[a])=a.time:=by unfold su;simp
   show kZ (su (d.cC++[a])) _;rw[this];exact b1
  ·show(l9 d (lT d d.state a.time) a).1.aD.map (·.aC)=_;rw[b2,JO];exact h.Vg
  ·show(d.cC++[a]).length≤5000;rw[List.length_append,List.length_singleton];exact Nat.lt_of_le_of_ne h.len (λq=>k1 (by rw[q];rfl))
end
section
set_option maxRecDepth 100000
open HP
section
variable {aK σ : Heap} {R : HP} {pd : AV} {d : bV}
theorem ase(a b c e:Int):((((A.cell (.ah a)).bind λv=>some [v]).bind λiM=>(A.aq 0 iM [(AV.ah 0),(AV.ah 0),(AV.ah 0),(AV.ah 0)]).bind λjR=>((A.cell (.ah b)).bind λv=>some [v]).bind λlB=>(A.aq 1 lB jR).bind λiU=>((A.cell (.ah c)).bind λv=>some [v]).bind λgd=>(A.aq 2 gd iU).bind λiB=>((A.cell (.ah e)).bind λv=>some [v]).bind λgE=>(A.aq 3 gE iB).bind λiC=>some iC).bind λcs=>some (AV.sl 1 (fI 1 4 cs)))=some (sl 1 nV [a,b,c,e]):=rfl
theorem aqc(a b:Int):((((A.cell (.ah a)).bind λv=>some [v]).bind λgr=>(A.aq 0 gr [(AV.ah 0),(AV.ah 0)]).bind λjJ=>((A.cell (.ah b)).bind λv=>some [v]).bind λiu=>(A.aq 1 iu jJ).bind λlY=>some lY).bind λcs=>some (AV.sl 1 (fI 1 2 cs)))=some (sl 1 nV [a,b]):=rfl
theorem ajL(a:fR):(((A.cells 5 (.agg (cg a))).bind λrJ=>(A.aq 0 rJ [(AV.ah 0),(AV.ah 0),(AV.ah 0),(AV.ah 0),(AV.ah 0)]).bind λnj=>some nj).bind λcs=>some (AV.sl 5 (fI 5 1 cs)))=some (.sl 5 [cg a]):=rfl
theorem ab4{r:AV→AV→Heap→aH}{x y v:AV}{σ σ':Heap}(e:r x y σ=some (v,σ')):A.wrap false [] .k (A.dI r) [x,y] σ=some (v,σ'):=by have:A.dI r [x,y] σ=some (v,σ'):=e;simp only[A.wrap,Bool.false_and,bE,A.cG,this,bZ,jC]
theorem DS{α:Type}{c:α→au}{sz:Nat}{B:aS→Prop}{v:AV}{l:List α}(H:Hs B aK σ (Sl (fl c) sz v l*R)):A.cell v=some v:=by rcases wP H with⟨_,rfl|rfl,_⟩|⟨id,g,rfl,_⟩<;>rfl
theorem ab9{id:Nat}{vb:AV}{bl:Nat}{va:AV}(hp:d.params.isSome=true)(hl:d.cC.length≤bg)(H:Hs bY aK σ (jW id vb bl va d*R)):qV [.op id 0] σ=some (.ah (su d.cC),σ):=
 zY (dG:=[.op id 0]) (ts:=[.rp (tT d)]) ⟨Oz hp H,trivial⟩ (λσ=>acd d hl σ) rfl
theorem ac2{id:Nat}{vb:AV}{bl:Nat}{va:AV}(hp:d.params.isSome=true)(hl:d.cC.length≤bg)(H:Hs bY aK σ (jW id vb bl va d*R))(t:Int):EU [.op id 0,.ah t] σ=some (.ah (vV d.cC t),σ):=
 zY (dG:=[.op id 0,.ah t]) (ts:=[.rp (tT d),.ah t]) ⟨Oz hp H,TS t,trivial⟩ (λσ=>apu d hl t σ) rfl
theorem Ko{id:Nat}{vb:AV}{bl:Nat}{va:AV}{B:aS→Prop}(H:Hs B aK σ (jW id vb bl va d*R)):σ[id]? =some (.box (iR vb bl va d)):=
 (jx (dw (show _=blk id (.box (iR vb bl va d))*(Sl (fl aN) 10 vb d.state.aD*(blk bl (.map ((d.params.getD []).map jl))*Sl (fl cg) 5 va d.cC)*R) by unfold jW;ac_rfl) H)).2
theorem TK{s:cQ}{v:AV}{H:Heap}(h:Io σ s v H):(∃ex,H=σ++ex)∧A.storeAt (.op H.length 0) (bF v s) (H++[aS.box wv])=some (H++[aS.box (bF v s)])∧(H++[aS.box (bF v s)])[H.length]? =some (.box (bF v s))∧((s.aD=[]∧v=.ez)∨∃g,v=.os (σ.length+1) g 10 0 s.aD.length∧SA σ (H++[aS.box (bF v s)]) H.length (σ.length+1) g s):=by
 obtain⟨⟨ex,hex⟩,_⟩:=h.ex;have hlen:σ.length≤H.length:=by rw[hex];simp
 have G0:(H++[aS.box wv])[H.length]? =some (.box wv):=by rw[iZ (bD _),Nat.sub_self];rfl
 have G1:(H++[aS.box (bF v s)])[H.length]? =some (.box (bF v s)):=by rw[iZ (bD _),Nat.sub_self];rfl
 refine⟨⟨ex,hex⟩,?_,G1,?_⟩
 ·simp only[A.storeAt,G0];rw[show A.aq 0 (bF v s) wv=some (bF v s)from rfl,bZ,qu _ _ (bD _),Nat.sub_self];rfl
 ·rcases h with⟨h1,h2,h3⟩|⟨g,h1,h2⟩
  ·exact .inl ⟨h1,h2⟩
  ·refine .inr ⟨g,h1,⟨by rw[←h1];exact G1,?_,⟨ex++[aS.box (bF v s)],by rw[hex,lU]⟩,hlen,Nat.le_succ _⟩⟩;have hl:σ.length+1<H.length:=by rw[h2];simp
   rw[jg hl,h2];exact Ky σ g s
theorem amM{d:bV}{pd:AV}(hI:vZ d){σ H:Heap}(hd:vf pd d σ){s:cQ}{v:AV}(h:Io σ s v H){a:fR}(hs:kZ a.time s)(hk:1≤a.kind∧a.kind≤9)(hp:a.kind≤7→∃b∈s.aD,b.aC=a.jV):
  ∃W',Jw [pd,.op H.length 0,.agg (cg a)] (H++[aS.box (bF v s)])=some (.ah (l9 d s a).2,W')∧(∃ex,W'=σ++ex)∧W'[H.length]? =some (.box (bF v (l9 d s a).1))∧((((l9 d s a).1).aD=[]∧v=.ez)∨∃g,v=.os (σ.length+1) g 10 0 (l9 d s a).1.aD.length∧W'[σ.length+1]? =some (.arr g 10 ((l9 d s a).1.aD.map aN))):=by
 obtain⟨hex,_,G1,hc⟩:=TK h;have Lf:∃ex,H++[aS.box (bF v s)]=σ++ex:=by obtain⟨ex,rfl⟩:=hex;exact⟨_,lU _ _ _⟩
 have hlen:σ.length≤H.length:=by obtain⟨ex,rfl⟩:=hex;simp
 by_cases k7:a.kind≤7
 ·rcases hc with⟨h1,h2⟩|⟨g,h1,Ao⟩
  ·obtain⟨b,hb,_⟩:=hp k7;rw[h1]at hb;cases hb
  ·obtain⟨W',w1,w2⟩:=apG hI hd Ao hs ⟨hk.1,k7⟩ (hp k7)
   have hle:(l9 d s a).1.aD.length=s.aD.length:=by
    have:=w2.b1;have e:∀l1 l2:List bn,l1.map (·.aC)=l2.map (·.aC)→l1.length=l2.length:=λl1 l2 h=>by simpa using congrArg List.length h
    unfold l9;rw[aP (by omega),aP (by omega)];generalize (lg (λb:bn=>decide (b.aC=a.jV)) s.aD).toNat=i;cases hb:s.aD[i]? with
    |none=>rfl
    |some b=>
     simp only
     have hgo:∀to,(yT d s i b to a.time).1.aD.length=s.aD.length:=by intro to;unfold yT;cases b.bH[to.toNat]? <;>simp
     unfold Iz;repeat (first|rfl|exact hgo _|exact List.length_set|split)
   refine⟨W',w1,w2.ex,?_,.inr ⟨g,by rw[hle];exact h1,w2.b2⟩⟩;rw[w2.b1,hle,←h1]
 ·have BL:((A.deref (.op H.length 1) (H++[aS.box (bF v s)])).bind λc=>A.ak 0 c)=some (.ah s.aC):=by simp only[A.deref,G1];rfl
  have Me:∀(k:Nat)(W:Heap),A.deref (.rp ((cg a).drop k)) W=some ((cg a).drop k):=λk W=>rfl
  obtain⟨W0,uv⟩:∃W0,W0=H++[aS.box (bF v s)]:=⟨_,rfl⟩
  have hHl:H.length<W0.length:=by rw[uv];simp
  rw[←uv]at BL G1 Lf ⊢
  have st:∀(s1 s2:cQ)(o:Nat)(new:au),A.aq o new (bF v s1)=some (bF v s2)→A.storeAt (.op H.length o) new (W0.set H.length (.box (bF v s1)))=some (W0.set H.length (.box (bF v s2))):=by intro s1 s2 o new hsp;simp only[A.storeAt,pZ hHl,hsp,bZ,List.set_set]
  have st0:A.storeAt (.op H.length 1) [.ah (IntKind.i64.wrap (s.aC+1))] W0=some (W0.set H.length (.box (bF v {s with aC:=IntKind.i64.wrap (s.aC+1)}))):=by simp only[A.storeAt,G1];rfl
  have fin:∀s':cQ,s'.aD=s.aD→(∃ex,W0.set H.length (.box (bF v s'))=σ++ex)∧(W0.set H.length (.box (bF v s')))[H.length]? =some (.box (bF v s'))∧((s'.aD=[]∧v=.ez)∨∃g,v=.os (σ.length+1) g 10 0 s'.aD.length∧(W0.set H.length (.box (bF v s')))[σ.length+1]? =some (.arr g 10 (s'.aD.map aN))):=by
   intro s' hs';refine⟨TP Lf hlen _,pZ hHl,?_⟩;rcases hc with⟨h1,h2⟩|⟨g,h1,Ao⟩
   ·exact .inl ⟨by rw[hs'];exact h1,h2⟩
   ·rw[←uv]at Ao;refine .inr ⟨g,by rw[hs'];exact h1,?_⟩;rw[List.getElem?_set_ne Ao.ne,hs'];exact Ao.b2
  have run:∃W',Hh pd (.op H.length 0) (.agg (cg a)) W0=some (.ah (l9 d s a).2,W')∧W'=W0.set H.length (.box (bF v (l9 d s a).1))∧(l9 d s a).1.aD=s.aD:=by
   unfold Hh l9;rw[show((A.cells 5 (.agg (cg a))).bind λcs=>some (AV.rp cs))=some (.rp (cg a))from rfl,bS];simp only[mR,bS,Me,show A.ak 0 ((cg a).drop 1)=some (.ah a.kind)from rfl,show A.ak 0 ((cg a).drop 4)=some (.ah a.level)from rfl,jQ,show A.aU (.op H.length 0)=some (.op H.length 0)from rfl,show ∀o,A.aF o (.op H.length 0)=some (.op H.length o)from λo=>by simp [A.aF],BL,mz];by_cases k8:a.kind=8
   ·rw[aQ k8,cz k8,dr,rX,bS,st0,bS,rX,bS,st _ {s with aC:=IntKind.i64.wrap (s.aC+1),oN:=a.level} 2 _ rfl,bS];exact⟨_,rfl,rfl,rfl⟩
   ·have k9:a.kind=9:=by omega
    rw[aP k8,cD k8,cR,aQ k9,cz k9,dr,rX,bS,st0,bS,show((A.cell (AV.bool (decide (a.level=1)))).bind λv=>some [v])=some [.bool (decide (a.level=1))]from rfl,bS,st _ {s with aC:=IntKind.i64.wrap (s.aC+1),black:=decide (a.level=1)} 3 _ rfl,bS];exact⟨_,rfl,rfl,rfl⟩
  obtain⟨W',e1,e2,e3⟩:=run;subst e2;exact⟨_,Kv (jC _) e1,fin _ e3⟩
theorem adW(hK:tZ d)(a:fR)(H:Hs bY aK σ (jy pd d*R)):∃σ',BP [pd,.agg (cg a)] σ=some (.ah (nL d a).2,σ')∧Hs bY aK σ' (jy pd (nL d a).1*R):=by
 suffices h:∃σ',M5 pd (.agg (cg a)) σ=some (.ah (nL d a).2,σ')∧Hs bY aK σ' (jy pd (nL d a).1*R) by obtain⟨σ',e,h⟩:=h;exact⟨σ',ab4 e,h⟩
 obtain⟨id,vb,bl,va,rfl,hp,H⟩:=JY H;have kq:=Ko H;have ad8:=(bM.1 kq).1;have Ez:d.cC.length≤bg:=by have:=hK.len;unfold bg;omega
 have tc:=dw (show _=Sl (fl cg) 5 va d.cC*(Sl (fl aN) 10 vb d.state.aD*blk id (.box (iR vb bl va d))*blk bl (.map ((d.params.getD []).map jl))*R) by unfold jW;ac_rfl) H;have EE:=dw (show _=Sl (fl aN) 10 vb d.state.aD*(blk id (.box (iR vb bl va d))*(blk bl (.map ((d.params.getD []).map jl))*Sl (fl cg) 5 va d.cC)*R) by unfold jW;ac_rfl) H;have ca:=DS tc;have cb:=DS EE;unfold M5;rw[show A.cells 5 (.agg (cg a))=some (cg a)from rfl,bS];simp only[show A.aU (.op id 0)=some (.op id 0)from rfl,bS,show ∀o,A.aF o (.op id 0)=some (.op id o)from λo=>by simp [A.aF]];rw[show((A.deref (.op id 11) σ).bind λc=>A.ak 0 c)=some va from by simp only[A.deref,kq];exact ca,bS,acY tc,bS,jQ,bS,eT (wR _ _ σ),bS,Nz,bS,eT (afX (aaA a)),bS,ahJ,bS,eT (aaL _ σ),bS,yJ,bS,eT (wR _ _ σ),bS,bS,eT (ab9 hp Ez H),bS,l8,bS,eT (wR _ _ σ),bS,ase,bS,eT (DG _ (by show 4≤bg;decide) σ),bS];rw[show((A.deref (.op id 4) σ).bind λc=>A.aB 0 5 c)=some (.agg (bK d.setup))from by simp only[A.deref,kq];rfl,bS,bS,eT (afY (aa2 hK.pl a)),bS,aqc,bS,eT (DG _ (by show 2≤bg;decide) σ),bS];have hE:(([(([(if decide ((d.cC.length:Int)=5000)=true then 2 else 0),HW a,(if(!(bf a.time 0 36000000))=true then 1 else 0),(if decide (a.time<su d.cC)=true then 7 else 0)]:List Int).find? λn=>decide (¬n=0)).getD 0,IU d.setup a]:List Int).find? λn=>decide (¬n=0)).getD 0=Gp d a:=rfl;rw[hE,ij,bS];unfold nL;by_cases h0:Gp d a=0
 case neg=>
  rw[cz h0,dr,aQ h0];exact⟨σ,rfl,Fh hp H⟩
 rw[cD (λq=>q h0),cR,aP (λq=>q h0),bS];obtain⟨k1,k2,k3,k4,k5⟩:=acn h0;obtain⟨a1,a2,a3,a4⟩:=ace hK.pl k2 k5;have hrd:=TD hp H;obtain⟨v,W,e1,e2⟩:=Th hK.di hrd k3.2 hK.si k4 ⟨.op id 0,by simp [A.aF],by simp only[A.deref,kq];rfl⟩ (TH EE);have LG:=NG hK.di hK.si k4 k3.2;obtain⟨s1,hs1⟩:∃s1,s1=lT d d.state a.time:=⟨_,rfl⟩
 have hpl:a.kind≤7→∃b∈s1.aD,b.aC=a.jV:=by
  intro h;obtain⟨p,hp1,hp2⟩:=a2 h;have hn:s1.aD.map (·.aC)=d.setup.bU.map (·.aC):=by rw[hs1,JO];exact hK.Vg
  have:a.jV∈s1.aD.map (·.aC):=by rw[hn,←hp2];exact gB.2 ⟨p,hp1,rfl⟩
  obtain⟨b,hb,vq⟩:=gB.1 this;exact⟨b,hb,vq⟩
 rw[←hs1]at e1 e2 LG ⊢;rw[e1,bS];simp only;rw[show A.cells 4 (.agg (bF v s1))=some (bF v s1)from rfl,bS];obtain⟨x1,x2,x3,x4⟩:=TK e2;rw[x2,bS,bS];obtain⟨W',w1,w2,w3,w4⟩:=amM hK.di hrd e2 LG a1 hpl;rw[w1,bS];simp only;rw[ij,bS];by_cases hr:(l9 d s1 a).2=0
 case neg=>
  rw[cz hr,dr,aQ hr];obtain⟨ex,rfl⟩:=w2;exact⟨_,rfl,Fh hp (Tv H ex)⟩
 rw[cD (λq=>q hr),cR,aP (λq=>q hr)];obtain⟨s2,hs2⟩:∃s2,s2=(l9 d s1 a).1:=⟨_,rfl⟩
 rw[←hs2]at w3 w4 ⊢;rw[show((A.deref (.op W.length 0) W').bind λc=>A.aB 0 4 c)=some (.agg (bF v s2))from by simp only[A.deref,w3];rfl,bS,show A.cells 4 (.agg (bF v s2))=some (bF v s2)from rfl,bS]
 -- the new boards are the desk's own
 have K:Hs bY aK W' (blk id (.box (iR vb bl va d))*(Sl (fl aN) 10 v s2.aD*(blk bl (.map ((d.params.getD []).map jl))*(Sl (fl cg) 5 va d.cC*R)))):=by
  obtain⟨ex,hex⟩:=w2
  have H':Hs bY aK W' (blk id (.box (iR vb bl va d))*(blk bl (.map ((d.params.getD []).map jl))*(Sl (fl cg) 5 va d.cC*R))):=by rw[hex];exact Tv (ym (dw (show _=Sl (fl aN) 10 vb d.state.aD*(blk id (.box (iR vb bl va d))*(blk bl (.map ((d.params.getD []).map jl))*(Sl (fl cg) 5 va d.cC*R))) by unfold jW;ac_rfl) H)) ex
  rcases w4 with⟨q1,q2⟩|⟨g,q1,q2⟩
  ·rw[q1,q2];exact dw (show _=_ by ac_rfl) (td (v:=.ez) (E:=fl aN) (sz:=10) H' (.inr rfl))
  ·rw[q1];have H'':=ym (dw (show _=Sl (fl aN) 10 vb d.state.aD*(blk id (.box (iR vb bl va d))*(blk bl (.map ((d.params.getD []).map jl))*(Sl (fl cg) 5 va d.cC*R))) by unfold jW;ac_rfl) H);have A1:=N7 H'' ⟨ex,hex⟩ (Nat.le_succ _) q2;exact dw (show _=_ by ac_rfl) (OT (n:=s2.aD.length) A1)
 have K1:=Cb (b':=.box (iR v bl va {d with state:=s2})) K trivial;have arA:=(jx K).2;rw[show A.storeAt (.op id 0) (bF v s2) W'=some (W'.set id (.box (iR v bl va {d with state:=s2})))from by simp only[A.storeAt,arA];rfl,bS];have arC:=(jx K1).2;rw[show((A.deref (.op id 11) (W'.set id (.box (iR v bl va {d with state:=s2})))).bind λc=>A.ak 0 c)=some va from by simp only[A.deref,arC];exact ca,bS,bS,ajL,bS]
 have K2:=dw (show _=Sl (fl cg) 5 va d.cC*(els (fl cg) [cg a] [a]*(blk id (.box (iR v bl va {d with state:=s2}))*(Sl (fl aN) 10 v s2.aD*(blk bl (.map ((d.params.getD []).map jl))*R)))) by
  rw[show els (fl cg) [cg a] [a]=pr (cg a=cg a)*emp from rfl];ac_rfl) (oO.2 ⟨(rfl:cg a=cg a),dw (BU _).symm K1⟩)
 obtain⟨Ds,W2,f1,f2⟩:=Im (most:=140737488355328 / 40) K2 (by have:=hK.len;simp;omega) (λ_ _ _ _=>trivial);rw[f1,bS];simp only;have ca':=DS f2;have K3:=dw (show _=blk id (.box (iR v bl va {d with state:=s2}))*(Sl (fl cg) 5 Ds (d.cC++[a])*(Sl (fl aN) 10 v s2.aD*(blk bl (.map ((d.params.getD []).map jl))*R))) by ac_rfl) f2;have arD:=(jx K3).2;have K4:=Cb (b':=.box (iR v bl Ds {d with state:=s2,cC:=d.cC++[a]})) K3 trivial;rw[show((A.cell Ds).bind λv=>some [v])=some [Ds]from by rw[ca'];rfl,bS,show A.storeAt (.op id 11) [Ds] W2=some (W2.set id (.box (iR v bl Ds {d with state:=s2,cC:=d.cC++[a]})))from by simp only[A.storeAt,arD];rfl,bS];exact⟨_,rfl,Fh (d:={d with state:=s2,cC:=d.cC++[a]}) hp (dw (show _=jW id v bl Ds {d with state:=s2,cC:=d.cC++[a]}*R by unfold jW;ac_rfl) K4)⟩
end
end
section
set_option maxRecDepth 100000
open HP
noncomputable def wk (d:bV) (s:cQ) (k:aG) (t:Int):Int:=if ¬(gC d k).1=1 then(vB d s.aD k t).out else if s.black=true then 0 else BN (vB d s.aD k t).out s.oN
noncomputable def yI (d:bV) (t:Int):List nP×Int:=
 if ¬(vV d.cC t=0)then([],vV d.cC t)else(d.keys.map (λk=>⟨k,wk d (lT d d.state t) k t⟩),0)
theorem Tc{l:List fR}{t:Int}(h:vV l t=0):(0≤t∧t≤36000000)∧su l≤t:=by
 unfold vV at h;split at h
 ·rename_i q;refine⟨sw q,?_⟩;by_cases q2:t<su l
  ·rw[cz q2,aQ rfl]at h;cases h
  ·omega
 ·cases h
section
variable {aK σ : Heap} {R : HP} {pd : AV} {d : bV} {B : aS → Prop}
theorem akM{ids:Nat}{v:AV}{s:cQ}(H:Hs B aK σ (blk ids (.box (bF v s))*(Sl (fl aN) 10 v s.aD*R))):Lt σ TF (.op ids 0) (.rp (uP s)):=by
 obtain⟨uC,b1,b2,b3⟩:=Fy (dw (show _=Sl (fl aN) 10 v s.aD*(blk ids (.box (bF v s))*R) by ac_rfl) H) AT (kY _) 6;have hg:=(jx H).2;refine⟨⟨.rp [uC,.ah s.aC,.ah s.oN,.bool s.black],?_,rfl,?_⟩,rfl,λh=>by cases h⟩
 ·simp only[A.bG,Nat.not_lt_zero,if_false,hg,List.drop_zero,bF,A.wY,b1,aX,bZ]
 ·show AV.rp (A.cG [(.s 10),.k,.k,.k] _)=AV.rp (A.cG [(.s 10),.k,.k,.k] (uP s));congr 1;unfold uP;simp only[A.cG,b3];rfl
theorem anu{id:Nat}{vb:AV}{bl:Nat}{va:AV}(hp:d.params.isSome=true){ids:Nat}{v:AV}{s:cQ}(H:Hs B aK σ (jW id vb bl va d*(blk ids (.box (bF v s))*(Sl (fl aN) 10 v s.aD*R))))(hI:vZ d){t:Int}(hs:kZ t s)(k:aG):ET [.op id 0,.op ids 0,.agg (aT k),.ah t] σ=some (.ah (wk d s k t),σ):=by
 have LX:∀b∈s.aD,uS b t:=λb hb=>(hs.bs b hb).ok (Int.le_refl _) hs.n.2
 exact zY (dG:=[.op id 0,.op ids 0,.agg (aT k),.ah t]) (ts:=[.rp (tT d),.rp (uP s),.agg (aT k),.ah t]) ⟨Oz hp H,akM (ym H),KC (wV (BZ k)) rfl,TS t,trivial⟩ (λσ=>anv (by have:=hs.len;unfold bg;omega) LX hs.oN (λ_=>acI hI LX) σ) rfl
theorem anK(k:aG)(n:Int):(((A.cells 2 (.agg (aT k))).bind λgd=>(A.aq 0 gd [(AV.ah 0),bA,(AV.ah 0)]).bind λiB=>((A.cell (.ah n)).bind λv=>some [v]).bind λgE=>(A.aq 2 gE iB).bind λiC=>some iC).bind λcs=>some (AV.agg cs))=some (.agg (fD ⟨k,n⟩)):=rfl
theorem aof(x:nP):(((A.cells 3 (.agg (fD x))).bind λlM=>(A.aq 0 lM [(AV.ah 0),bA,(AV.ah 0)]).bind λum=>some um).bind λcs=>some (AV.sl 3 (fI 3 1 cs)))=some (.sl 3 [fD x]):=rfl
theorem aii{id:Nat}{vb:AV}{bl:Nat}{va:AV}(hp:d.params.isSome=true){ids:Nat}{v:AV}{s:cQ}(hI:vZ d){t:Int}(hs:kZ t s)(hk:d.keys.length≤1000000){i:Nat}{k:aG}(hi:d.keys[i]? =some k){vo:AV}{out:List nP}(ho:out.length≤1000000)(H:Hs bY aK σ (jW id vb bl va d*(blk ids (.box (bF v s))*(Sl (fl aN) 10 v s.aD*(Sl (fl fD) 3 vo out*R))))):
  ∃ gy σ', ((λv11 mK =>
    (A.lss (aj v11 1) (AV.ah (d.keys.length:Int))).bind λdY=>
    A.cond dY (
     (A.aY 2 (sl 2 aT d.keys) (aj v11 1)).bind λdK=>
     ((A.deref dK mK).bind λpg=>A.aB 0 2 pg).bind λdD=>
     (A.cells 2 dD).bind λjm=>
     (A.aq 0 jm [(AV.ah 0),bA]).bind λiM=>
     (A.aB 0 2 iM).bind λep=>
     (A.aB 0 2 iM).bind λcN=>
     (A.quiet (ET [(AV.op id 0),(AV.op ids 0),cN,(AV.ah t)] mK) mK).bind λeu=>
     (((A.cells 2 ep).bind λgd=>(A.aq 0 gd [(AV.ah 0),bA,(AV.ah 0)]).bind λiB=>((A.cell eu).bind λv=>some [v]).bind λgE=>(A.aq 2 gE iB).bind λiC=>some iC).bind λcs=>some (AV.agg cs)).bind λeU=>
     (((A.cells 3 eU).bind λlM=>(A.aq 0 lM [(AV.ah 0),bA,(AV.ah 0)]).bind λum=>some um).bind λcs=>some (AV.sl 3 (fI 3 1 cs))).bind λdO=>
     (A.append 3 (140737488355328 / 32) (aj v11 0) dO mK).bind λvE=>
     (A.add (aj v11 1) (AV.ah 1)).bind λx32=>
     some (AX.normal,[vE.1,x32],vE.2)) (
     some (AX.exit 0,[(aj v11 0),(aj v11 1)],mK)))) [vo,.ah (i:Int)] σ=some (.normal,[gy,.ah ((i+1:Nat):Int)],σ')∧Hs bY aK σ' (jW id vb bl va d*(blk ids (.box (bF v s))*(Sl (fl aN) 10 v s.aD*(Sl (fl fD) 3 gy (out++[⟨k,wk d s k t⟩])*R)))):=by
 simp only[bW,cA];rw[kU hi,bS,dr,jG hi,bS,oD,bS,qZ,bS,DJ,bS,H8 _ _ rfl,bS,qZ,bS,bS,eT (anu hp H hI hs k),bS,anK,bS,aof,bS]
 have K2:=dw (show _=Sl (fl fD) 3 vo out*(els (fl fD) [fD ⟨k,wk d s k t⟩] [⟨k,wk d s k t⟩]*(jW id vb bl va d*(blk ids (.box (bF v s))*(Sl (fl aN) 10 v s.aD*R)))) by
  rw[show els (fl fD) [fD ⟨k,wk d s k t⟩] [⟨k,wk d s k t⟩]=pr (fD ⟨k,wk d s k t⟩=fD ⟨k,wk d s k t⟩)*emp from rfl];ac_rfl) (oO.2 ⟨(rfl:fD ⟨k,wk d s k t⟩=fD ⟨k,wk d s k t⟩),dw (BU _).symm H⟩)
 obtain⟨gy,σ',f1,f2⟩:=Im (most:=140737488355328 / 32) K2 (by simp;omega) (λ_ _ _ _=>trivial);rw[f1,bS];simp only;rw[gY hi (by unfold bg;omega),bS];exact⟨gy,σ',rfl,dw (by ac_rfl) f2⟩
theorem Sp(hK:tZ d)(hk:d.keys.length≤1000000)(t:Int)(H:Hs bY aK σ (jy pd d*R)):∃v σ',AN [pd,.ah t] σ=some (.aM [v,.ah (yI d t).2],σ')∧Hs bY aK σ' (Sl (fl fD) 3 v (yI d t).1*(jy pd d*R)):=by
 suffices h:∃v σ',MS pd (.ah t) σ=some (.aM [v,.ah (yI d t).2],σ')∧Hs bY aK σ' (Sl (fl fD) 3 v (yI d t).1*(jy pd d*R)) by obtain⟨v,σ',e,h⟩:=h;exact⟨v,σ',ab4 e,h⟩
 obtain⟨id,vb,bl,va,rfl,hp,H⟩:=JY H;have Ez:d.cC.length≤bg:=by have:=hK.len;unfold bg;omega
 have kq:=Ko H;have EE:=dw (show _=Sl (fl aN) 10 vb d.state.aD*(blk id (.box (iR vb bl va d))*(blk bl (.map ((d.params.getD []).map jl))*Sl (fl cg) 5 va d.cC)*R) by unfold jW;ac_rfl) H;unfold MS yI;rw[ac2 hp Ez H,bS];simp only;rw[ij,bS];by_cases h0:vV d.cC t=0
 case neg=>
  rw[cz h0,dr,aQ h0];exact⟨.az,σ,rfl,td (Fh hp H) (.inl rfl)⟩
 rw[cD (λq=>q h0),cR,aP (λq=>q h0)];obtain⟨t1,t2⟩:=Tc h0;have hrd:=TD hp H;obtain⟨v,W,e1,e2⟩:=Th hK.di hrd t1.2 hK.si t2 ⟨.op id 0,by simp [A.aF],by simp only[A.deref,kq];rfl⟩ (TH EE);have LG:=NG hK.di hK.si t2 t1.2;obtain⟨s1,hs1⟩:∃s1,s1=lT d d.state t:=⟨_,rfl⟩
 rw[←hs1]at e1 e2 LG ⊢;rw[e1,bS];simp only;rw[show A.cells 4 (.agg (bF v s1))=some (bF v s1)from rfl,bS];obtain⟨x1,x2,x3,x4⟩:=TK e2;rw[x2,bS];obtain⟨ids,U1⟩:∃ids,ids=W.length:=⟨_,rfl⟩
 obtain⟨W0,uv⟩:∃W0,W0=W++[aS.box (bF v s1)]:=⟨_,rfl⟩
 rw[←U1]at x3 x4 ⊢;rw[←uv]at x3 x4 ⊢;have Lf:∃ex,W0=σ++ex:=by rw[uv];obtain⟨ex,rfl⟩:=x1;exact⟨_,lU _ _ _⟩
 have hlen:σ.length≤ids:=by rw[U1];obtain⟨ex,rfl⟩:=x1;simp
 have K:Hs bY aK W0 (jW id vb bl va d*(blk ids (.box (bF v s1))*(Sl (fl aN) 10 v s1.aD*(Sl (fl fD) 3 .az []*R)))):=by
  rcases x4 with⟨q1,q2⟩|⟨g,q1,q2⟩
  ·have A1:=N7 H Lf hlen x3;rw[q2,q1];rw[q2]at A1;have A2:=td (v:=.ez) (E:=fl aN) (sz:=10) (td (v:=.az) (E:=fl fD) (sz:=3) A1 (.inl rfl)) (.inr rfl);exact dw (by ac_rfl) A2
  ·obtain⟨ex,hex⟩:=Lf;obtain⟨exW,arJ⟩:=x1
   -- the boards first, then the box
   have hA:∃ex',W=σ++ex':=⟨exW,arJ⟩
   have vq:W[σ.length+1]? =some (.arr g 10 (s1.aD.map aN)):=by
    have:=q2.b2;rcases e2 with⟨z1,z2,_⟩|⟨g',z1,z2⟩
    ·rw[q1]at z2;cases z2
    ·have hl:σ.length+1<W.length:=by rw[z2];simp
     rw[uv,jg hl]at this;exact this
   have A1:=N7 H hA (Nat.le_succ _) vq;have A2:=N7 A1 (W:=W0) ⟨_,uv⟩ (by rw[U1];exact bD _) x3;rw[q1];rw[q1]at A2;have A3:=td (v:=.az) (E:=fl fD) (sz:=3) A2 (.inl rfl);have A4:=dw (show _=blk (σ.length+1) (.arr g 10 (s1.aD.map aN))*(jW id vb bl va d*(blk ids (.box (bF (.os (σ.length+1) g 10 0 s1.aD.length) s1))*(Sl (fl fD) 3 .az []*R))) by ac_rfl) A3;exact dw (by ac_rfl) (OT (n:=s1.aD.length) A4)
 simp only[show A.aU (.op id 0)=some (.op id 0)from rfl,bS,show ∀o,A.aF o (.op id 0)=some (.op id o)from λo=>by simp [A.aF]];have arB:=Ko K;rw[show((A.deref (.op id 9) W0).bind λc=>A.ak 0 c)=some (sl 2 aT d.keys)from by simp only[A.deref,arB];rfl,bS,gH,bS]
 have hL:∃q,A.loop ((λv11 mK=>
    (A.lss (aj v11 1) (AV.ah (d.keys.length:Int))).bind λdY=>
    A.cond dY (
     (A.aY 2 (sl 2 aT d.keys) (aj v11 1)).bind λdK=>
     ((A.deref dK mK).bind λpg=>A.aB 0 2 pg).bind λdD=>
     (A.cells 2 dD).bind λjm=>
     (A.aq 0 jm [(AV.ah 0),bA]).bind λiM=>
     (A.aB 0 2 iM).bind λep=>
     (A.aB 0 2 iM).bind λcN=>
     (A.quiet (ET [(AV.op id 0),(AV.op ids 0),cN,(AV.ah t)] mK) mK).bind λeu=>
     (((A.cells 2 ep).bind λgd=>(A.aq 0 gd [(AV.ah 0),bA,(AV.ah 0)]).bind λiB=>((A.cell eu).bind λv=>some [v]).bind λgE=>(A.aq 2 gE iB).bind λiC=>some iC).bind λcs=>some (AV.agg cs)).bind λeU=>
     (((A.cells 3 eU).bind λlM=>(A.aq 0 lM [(AV.ah 0),bA,(AV.ah 0)]).bind λum=>some um).bind λcs=>some (AV.sl 3 (fI 3 1 cs))).bind λdO=>
     (A.append 3 (140737488355328 / 32) (aj v11 0) dO mK).bind λvE=>
     (A.add (aj v11 1) (AV.ah 1)).bind λx32=>
     some (AX.normal,[vE.1,x32],vE.2)) (
     some (AX.exit 0,[(aj v11 0),(aj v11 1)],mK)))) [.az,.ah 0] W0=some q∧∃vo u W',q=(.exit 0,[vo,u],W')∧Hs bY aK W' (jW id vb bl va d*(blk ids (.box (bF v s1))*(Sl (fl aN) 10 v s1.aD*(Sl (fl fD) 3 vo (d.keys.map (λk=>⟨k,wk d s1 k t⟩))*R)))):=by
  refine ou (λz u w=>∃(i:Nat)(vo:AV),i≤d.keys.length∧u=[vo,.ah (i:Int)]∧z=d.keys.length-i∧Hs bY aK w (jW id vb bl va d*(blk ids (.box (bF v s1))*(Sl (fl aN) 10 v s1.aD*(Sl (fl fD) 3 vo ((d.keys.take i).map (λk=>⟨k,wk d s1 k t⟩))*R))))) ?_ (n:=d.keys.length) ⟨0,.az,kY _,rfl,rfl,K⟩;rintro z u w ⟨i,vo,hi,rfl,hz,K⟩;by_cases h:i<d.keys.length
  ·have hx:d.keys[i]? =some d.keys[i]:=bT h;obtain⟨gy,σ',f1,f2⟩:=aii hp hK.di LG hk hx (by simp;omega) K;refine .inl ⟨d.keys.length-(i+1),_,_,by omega,f1,i+1,gy,h,rfl,rfl,?_⟩;rw[List.take_add_one,hx,Option.toList_some,List.map_append,ef,List.map_nil];exact f2
  ·have:i=d.keys.length:=by omega
   subst this;rw[List.take_length]at K;refine .inr ⟨(.exit 0,[vo,.ah (d.keys.length:Int)],w),?_,by simp,vo,_,w,rfl,K⟩;simp only[bW,cA];rw[kS,bS,cR]
 obtain⟨q,l1,vo,u,W',rfl,K'⟩:=hL;refine⟨vo,W',?_,?_⟩
 ·refine(congrArg (λz=>Option.bind z _) l1).trans ?_;rw[bS];simp only[oa,bW]
 ·have K2:=ym (dw (show _=(blk ids (.box (bF v s1))*Sl (fl aN) 10 v s1.aD)*(jW id vb bl va d*(Sl (fl fD) 3 vo (d.keys.map (λk=>⟨k,wk d s1 k t⟩))*R)) by ac_rfl) K');have K3:=Fh hp K2;exact dw (by ac_rfl) K3
theorem am0{α:Type}{c:α→au}{sz most:Nat}{v:AV}{l:List α}(hl:l.length≤most)(H:Hs bY aK σ (Sl (fl c) sz v l*R)){r0:AV→Heap→aH}(hr:∀a σ,r0 a σ=(A.sY a AV.az).bind λx1=>A.cond x1 (some (AV.az,σ)) ((A.append sz most AV.ez a σ).bind λr2=>some (r2.1,r2.2))):
  ∃v' σ',A.tM (A.wrap false [] .k (A.dH r0)) [v] σ=some (v',σ')∧Hs bY aK σ' (Sl (fl c) sz v' l*(Sl (fl c) sz v l*R)):=by
 rcases wP H with⟨rfl,hv,K⟩|⟨id,g,rfl,K⟩
 ·refine⟨.ez,σ,?_,td H (.inr rfl)⟩;rcases hv with rfl|rfl<;>rfl
 ·by_cases h0:l=[]
  ·subst h0;exact⟨.ez,σ,rfl,td H (.inr rfl)⟩
  obtain⟨n,hn⟩:∃n,l.length=n+1:=by
   cases h:l with
   |nil=>exact absurd h h0
   |cons b l=>exact⟨l.length,rfl⟩
  have hg:=(jx K).2;have e0:A.tM (A.wrap false [] .k (A.dH r0)) [.os id g sz 0 l.length] σ=A.wrap false [] .k (A.dH r0) [.os id g sz 0 l.length] σ:=by rw[hn];rfl
  have e1:A.dH r0 [.os id g sz 0 l.length] σ=some (.os σ.length l.length sz 0 l.length,σ++[.arr l.length sz (l.map c)]):=by
   show r0 (.os id g sz 0 l.length) σ=_;rw[hr,show A.sY (.os id g sz 0 l.length) .az=some (.bool false)from rfl,bS,cR]
   have hel:A.elems sz (.os id g sz 0 l.length) σ=some (l.map c):=by simp only[A.elems,hg];simp [yF]
   have hne:l.map c≠[]:=by simpa using h0
   have hap:A.append sz most .ez (.os id g sz 0 l.length) σ=some (.os σ.length l.length sz 0 l.length,σ++[.arr l.length sz (l.map c)]):=by unfold A.append;rw[hel,bS];simp only[A.vO,aP hne,List.length_map];rw[aQ hl]
   rw[hap,bS]
  refine⟨.os σ.length l.length sz 0 l.length,σ++[.arr l.length sz (l.map c)],?_,?_⟩
  ·rw[e0];simp only[A.wrap,Bool.false_and,bE,A.cG,e1,bZ,jC]
  ·exact OT (n:=l.length) (Fq H trivial)
theorem aj8(hl:d.cC.length≤5000)(H:Hs bY aK σ (jy pd d*R)):∃v σ',ML [pd] σ=some (v,σ')∧Hs bY aK σ' (Sl (fl cg) 5 v d.cC*(jy pd d*R)):=by
 obtain⟨id,vb,bl,va,rfl,hp,H⟩:=JY H;have kq:=Ko H;have tc:=dw (show _=Sl (fl cg) 5 va d.cC*(Sl (fl aN) 10 vb d.state.aD*blk id (.box (iR vb bl va d))*blk bl (.map ((d.params.getD []).map jl))*R) by unfold jW;ac_rfl) H;obtain⟨v',σ',f1,f2⟩:=am0 (most:=140737488355328 / 40) (by omega) tc (r0:=Qf) (λ_ _=>rfl);refine⟨v',σ',?_,?_⟩
 ·have e:G9 (.op id 0) σ=some (v',σ'):=by unfold G9;rw[show A.aU (.op id 0)=some (.op id 0)from rfl,bS,show A.aF 11 (.op id 0)=some (.op id 11)from by simp [A.aF],bS,show((A.deref (.op id 11) σ).bind λc=>A.ak 0 c)=some va from by simp only[A.deref,kq];exact DS tc,bS,show MG [va] σ=some (v',σ')from f1,bS]
  have:A.dH G9 [.op id 0] σ=some (v',σ'):=e;show A.wrap false [] .k (A.dH G9) [.op id 0] σ=_;simp only[A.wrap,Bool.false_and,bE,A.cG,this,bZ,jC]
 ·have K:=dw (show _=jW id vb bl va d*(Sl (fl cg) 5 v' d.cC*R) by unfold jW;ac_rfl) f2;exact dw (by ac_rfl) (Fh hp K)
theorem ab8(hl:d.cC.length≤5000)(H:Hs bY aK σ (jy pd d*R)):qV [pd] σ=some (.ah (su d.cC),σ):=by obtain⟨id,vb,bl,va,rfl,hp,H⟩:=JY H;exact ab9 hp (by unfold bg;omega) H
end
end
section
set_option maxRecDepth 100000
open HP
structure Iq (s : iQ) : Prop where
 jq:s.aZ.bw.length≤1000000
 par:∀p∈s.aZ.bw,p.params.length≤1000000∧∀q∈p.params,q.ranges.length≤1000000
 un:s.aZ.dB.length≤1000000
 pre:s.cq.length≤1000000∧∀p∈s.cq,p.lS.length≤1000000
 PU:s.cM.length≤1000000
 cm:∀l∈s.cM,l.bH.length≤1000000∧∀c∈l.bH,c.dW.length≤1000000∧c.fB.bL.length≤1000000
 pl:s.bU.length≤1000000
theorem E5{α:Type}{c:α→au}{sz most:Nat}{l:List α}{m:au→Heap→aH}{r0:AV→Heap→aH}(hc:∀x,jP (c x))(hm:m=A.tM (A.wrap true [(.s sz)] .k (A.dH r0)))(hr:∀a σ,r0 a σ=(A.sY a .az).bind λx1=>A.cond x1 (some (.az,σ)) ((A.append sz most .ez a σ).bind λr2=>some (r2.1,r2.2))) (hl:l.length≤most) (σ:Heap):A.jB (.s sz) m [sl sz c l] σ=some (sl sz c l,σ):=by obtain⟨v,σ',e1,_,K⟩:=Tl (B:=bY) (r:=λ_ _=>none) hm hr hl (λ_ _ _ _=>trivial) (Ig σ);obtain⟨v',e2,e3⟩:=ani hc K;unfold A.jB;rw[e1,aX];simp only;rw[e2,bZ];simp only;rw[e3]
theorem aqk{σ:Heap}{id:Nat}{b:aS}(h:σ[id]? =some b):σ.set id b=σ:=by obtain⟨hl,rfl⟩:=bM.1 h;exact List.set_getElem_self hl
theorem aj3{W:Heap}{id g sz i o:Nat}{rows:List au}{row new:au}(h:W[id]? =some (.arr g sz rows))(hr:rows[i]? =some row)(hs:A.aq o new row=some row):A.storeAt (.oe id g i o) new W=some W:=by simp only[A.storeAt,h,if_true,hr,aX,hs,bZ];obtain⟨hl,rfl⟩:=bM.1 hr;rw[List.set_getElem_self hl,aqk h]
def FJ{α:Type}(c:α→au)(sz:Nat)(W:Heap)(v:AV)(l:List α):Prop:=(l=[]∧(v=.az∨v=.ez))∨∃id g,v=.os id g sz 0 l.length∧W[id]? =some (.arr g sz (l.map c))
theorem abZ{α:Type}{c:α→au}{sz:Nat}{B:aS→Prop}{aK σ:Heap}{R:HP}{v:AV}{l:List α}(H:Hs B aK σ (Sl (fl c) sz v l*R)):FJ c sz σ v l:=by
 rcases wP H with⟨h1,h2,_⟩|⟨id,g,h1,K⟩
 ·exact .inl ⟨h1,h2⟩
 ·exact .inr ⟨id,g,h1,(jx K).2⟩
theorem FJ.len{α:Type}{c:α→au}{sz:Nat}{W:Heap}{v:AV}{l:List α}(h:FJ c sz W v l):A.bR v=some (.ah (l.length:Int)):=by rcases h with⟨rfl,rfl|rfl⟩|⟨id,g,rfl,_⟩<;>rfl
theorem FJ.at{α:Type}{c:α→au}{sz:Nat}{W:Heap}{v:AV}{l:List α}(h:FJ c sz W v l){i:Nat}{x:α}(hx:l[i]? =some x):∃id g,A.aY sz v (.ah (i:Int))=some (.oe id g i 0)∧(∀o,A.deref (.oe id g i o) W=some ((c x).drop o))∧∀o new,A.aq o new (c x)=some (c x)→A.storeAt (.oe id g i o) new W=some W:=by
 have hi:=(bM.1 hx).1;rcases h with⟨rfl,_⟩|⟨id,g,rfl,hg⟩
 ·simp at hx
 ·have hr:(l.map c)[i]? =some (c x):=by rw[sy,hx];rfl
  refine⟨id,g,?_,λo=>?_,λo new hs=>aj3 hg hr hs⟩
  ·have:((i:Int)<(l.length:Int)):=by omega
   simp [A.aY,A.idx,this]
  ·simp only[A.deref,hg,if_true,hr,bZ]
theorem Ts{α:Type}{c:α→au}{sz:Nat}{B:aS→Prop}{aK σ:Heap}{R:HP}{v:AV}{l:List α}(H:Hs B aK σ (Sl (fl c) sz v l*R))(hc:∀x,jP (c x)){n:Nat}(hn:n≤aK.length)(d:Nat):∃v',A.bG σ n (d+1) v=some v'∧((l=[]∧(v'=.az∨v'=.ez))∨v'=sl sz c l):=by
 rcases wP H with⟨rfl,rfl|rfl,_⟩|⟨id,g,rfl,K⟩
 ·exact⟨.az,by simp [A.bG],.inl ⟨rfl,.inl rfl⟩⟩
 ·exact⟨.ez,by simp [A.bG],.inl ⟨rfl,.inr rfl⟩⟩
 ·obtain⟨h1,h2⟩:=jx K;exact⟨_,Kt hc h2 (by omega) d,.inr rfl⟩
def yx:au→dZ→HP:=λe x=>ex λvp=>pr (e=[.str x.name,.ah x.size,vp])*Sl (fl gA) 7 vp x.params
def yw:au→kL→HP:=λe x=>ex λvc=>pr (e=[.ah x.aC,vc])*Sl (fl br) 11 vc x.bH
section
variable {B : aS → Prop} {aK σ : Heap} {R : HP} {e : au}
theorem adI{x:dZ}:Hs B aK σ (yx e x*R)↔∃vp,e=[.str x.name,.ah x.size,vp]∧Hs B aK σ (Sl (fl gA) 7 vp x.params*R):=by
 unfold yx;rw[O0];constructor
 ·rintro⟨vp,H⟩;rw[wO,oO]at H;exact⟨vp,H⟩
 ·rintro⟨vp,H⟩;exact⟨vp,by rw[wO,oO];exact H⟩
theorem adG{x:kL}:Hs B aK σ (yw e x*R)↔∃vc,e=[.ah x.aC,vc]∧Hs B aK σ (Sl (fl br) 11 vc x.bH*R):=by
 unfold yw;rw[O0];constructor
 ·rintro⟨vp,H⟩;rw[wO,oO]at H;exact⟨vp,H⟩
 ·rintro⟨vp,H⟩;exact⟨vp,by rw[wO,oO];exact H⟩
abbrev O8:List Sh:=[.k,.k,.k,.k,.k,.k,(.s 3)]
theorem Zy:∀{seg:List au}{l:List dZ}{R:HP},Hs B aK σ (els yx seg l*R)→∀{n:Nat},n≤aK.length→∀(d:Nat),∃xA,A.kT σ n (d+1) seg=some xA∧xA.map (A.cG [.k,.k,(.e 7 O8)])=l.map dm
 |[],[],R,H,n,hn,d=>⟨[],by simp [A.kT],rfl⟩
 |[],_::_,R,H,n,hn,d=>(oO.1 H).1.elim
 |_::_,[],R,H,n,hn,d=>(oO.1 H).1.elim
 |e::seg,x::l,R,H,n,hn,d=>by
  rw[els,wO]at H;obtain⟨vp,he,K⟩:=adI.1 H;obtain⟨v',h1,h2⟩:=Ts K SC hn d;obtain⟨xA,k1,k2⟩:=Zy (ym H) hn d;refine⟨[.str x.name,.ah x.size,v']::xA,?_,?_⟩
  ·rw[he];simp [A.kT,A.ga,A.bG,h1,k1]
  ·have:A.nn (.e 7 O8) v'=sl 7 gA x.params:=by
    rcases h2 with⟨h2,rfl|rfl⟩|rfl
    ·rw[h2];rfl
    ·rw[h2];rfl
    ·exact xy (λ_=>rfl) _
   rw[ef,k2,ef];congr 1;simp only[A.cG,jC,this];rfl
theorem Zx:∀{seg:List au}{l:List kL}{R:HP},Hs B aK σ (els yw seg l*R)→∀{n:Nat},n≤aK.length→∀(d:Nat),∃xA,A.kT σ n (d+1) seg=some xA∧xA.map (A.cG [.k,(.e 11 Iu)])=l.map fA
 |[],[],R,H,n,hn,d=>⟨[],by simp [A.kT],rfl⟩
 |[],_::_,R,H,n,hn,d=>(oO.1 H).1.elim
 |_::_,[],R,H,n,hn,d=>(oO.1 H).1.elim
 |e::seg,x::l,R,H,n,hn,d=>by
  rw[els,wO]at H;obtain⟨vp,he,K⟩:=adG.1 H;obtain⟨v',h1,h2⟩:=Ts K Ox hn d;obtain⟨xA,k1,k2⟩:=Zx (ym H) hn d;refine⟨[.ah x.aC,v']::xA,?_,?_⟩
  ·rw[he];simp [A.kT,A.ga,A.bG,h1,k1]
  ·have:A.nn (.e 11 Iu) v'=sl 11 br x.bH:=by
    rcases h2 with⟨h2,rfl|rfl⟩|rfl
    ·rw[h2];rfl
    ·rw[h2];rfl
    ·exact xy (λ_=>rfl) _
   rw[ef,k2,ef];congr 1;simp only[A.cG,jC,this];rfl
theorem aml{v:AV}{l:List dZ}(H:Hs B aK σ (Sl yx 3 v l*R)){n:Nat}(hn:n≤aK.length)(d:Nat):∃v',A.bG σ n (d+2) v=some v'∧A.nn (.e 3 [.k,.k,(.e 7 O8)]) v'=sl 3 dm l:=by
 rcases BX H with⟨rfl,rfl|rfl,_⟩|⟨id,g,seg,rfl,hl,H⟩
 ·exact⟨.az,by simp [A.bG],rfl⟩
 ·exact⟨.ez,by simp [A.bG],rfl⟩
 ·obtain⟨h1,h2⟩:=jx H;obtain⟨xA,k1,k2⟩:=Zy (dw (show _=els yx seg l*(blk id (.arr g 3 seg)*R) by ac_rfl) H) hn d;refine⟨.sl 3 xA,?_,?_⟩
  ·simp only[A.bG,aP (show ¬id<n by omega),h2];rw[aQ (by simp;omega),List.drop_zero,yF (by omega),HM,k1];rfl
  ·simp only[A.nn,k2];rfl
theorem al4{v:AV}{l:List kL}(H:Hs B aK σ (Sl yw 2 v l*R)){n:Nat}(hn:n≤aK.length)(d:Nat):∃v',A.bG σ n (d+2) v=some v'∧A.nn (.e 2 [.k,(.e 11 Iu)]) v'=sl 2 fA l:=by
 rcases BX H with⟨rfl,rfl|rfl,_⟩|⟨id,g,seg,rfl,hl,H⟩
 ·exact⟨.az,by simp [A.bG],rfl⟩
 ·exact⟨.ez,by simp [A.bG],rfl⟩
 ·obtain⟨h1,h2⟩:=jx H;obtain⟨xA,k1,k2⟩:=Zx (dw (show _=els yw seg l*(blk id (.arr g 2 seg)*R) by ac_rfl) H) hn d;refine⟨.sl 2 xA,?_,?_⟩
  ·simp only[A.bG,aP (show ¬id<n by omega),h2];rw[aQ (by simp;omega),List.drop_zero,yF (by omega),HM,k1];rfl
  ·simp only[A.nn,k2];rfl
end
section
variable {aK σ : Heap} {R : HP}
theorem La{α β A1 A2:Type}{X:Option α}{v:α}{f:α→Option β}{g:A1→A2→β}{Q:A1→A2→Prop}(e:X=some v)(k:∃a b,f v=some (g a b)∧Q a b):∃a b,X.bind f=some (g a b)∧Q a b:=by rw[e];exact k
theorem UM{α β A1:Type}{X:Option α}{v:α}{f:α→Option β}{g:A1→β}{Q:A1→Prop}(e:X=some v)(k:∃a,Q a∧f v=some (g a)):∃a,Q a∧X.bind f=some (g a):=by rw[e];exact k
theorem Cj{α:Type}{E:au→α→HP}{sz:Nat}{B:aS→Prop}{v:AV}{l:List α}(H:Hs B aK σ (Sl E sz v l*R)):A.cell v=some v:=by rcases BX H with⟨_,rfl|rfl,_⟩|⟨id,g,seg,rfl,_⟩<;>rfl
theorem am3{W:Heap}{x:dZ}{pv:AV}(hx:∀q∈x.params,q.ranges.length≤1000000)(hl:x.params.length≤1000000)(h:FJ gA 7 W pv x.params)(u0 u1 u2:AV):A.loop ((λv30 gJ=>
      (A.lss (aj v30 4) (AV.ah (x.params.length:Int))).bind λeW=>
      A.cond eW (
       ((A.lb (aj v30 3)).bind λ_=>some (2)).bind λAu=>
       ((A.lb (aj v30 3)).bind λgr=>A.ak Au gr).bind λfG=>
       ((A.lb (aj v30 3)).bind λ_=>some (2)).bind λDi=>
       ((A.lb (aj v30 3)).bind λlY=>A.ak Di lY).bind λgj=>
       (A.aY 7 gj (aj v30 4)).bind λdV=>
       (A.aF 6 dV).bind λeX=>
       ((A.deref eX gJ).bind λmB=>A.ak 0 mB).bind λfk=>
       (A.quiet ((A.jB (.s 3) EM) [fk] gJ) gJ).bind λeY=>
       (A.aY 7 fG (aj v30 4)).bind λfO=>
       (A.aF 6 fO).bind λgP=>
       ((A.cell eY).bind λv=>some [v]).bind λiD=>
       (A.storeAt gP iD gJ).bind λsQ=>
       (A.add (aj v30 4) (AV.ah 1)).bind λeZ=>
       some (AX.normal,[(aj v30 0),(aj v30 1),(aj v30 2),(aj v30 3),eZ],sQ)) (
       some (AX.exit 2,[(aj v30 0),(aj v30 1),(aj v30 2),(aj v30 3),(aj v30 4)],gJ)))) [u0,u1,u2,.lbx [.str x.name,.ah x.size,pv],.ah 0] W=some (.exit 2,[u0,u1,u2,.lbx [.str x.name,.ah x.size,pv],.ah (x.params.length:Int)],W):=by
 refine C9 (ou (Q:=λq=>q=(.exit 2,[u0,u1,u2,.lbx [.str x.name,.ah x.size,pv],.ah (x.params.length:Int)],W)) (λz v w=>∃i:Nat,i≤x.params.length∧v=[u0,u1,u2,.lbx [.str x.name,.ah x.size,pv],.ah (i:Int)]∧w=W∧z=x.params.length-i) ?_ (n:=x.params.length) ⟨0,kY _,rfl,rfl,rfl⟩);have hc:A.cell pv=some pv:=by rcases h with⟨_,rfl|rfl⟩|⟨id,g,rfl,_⟩<;>rfl
 rintro z v w ⟨i,hi,rfl,rfl,hz⟩;by_cases hlt:i<x.params.length
 ·have hq:x.params[i]? =some x.params[i]:=bT hlt;obtain⟨id,g,e1,e2,e3⟩:=h.at hq;refine .inl ⟨x.params.length-(i+1),_,_,by omega,?_,i+1,hlt,rfl,rfl,rfl⟩;simp only[bW,cA];have hp2:A.ak 2 [.str x.name,.ah x.size,pv]=some pv:=hc;rw[kU hq,bS,dr];simp only[ji,bS,hp2,e1,show ∀o,A.aF o (.oe id g i 0)=some (.oe id g i o)from λo=>by simp [A.aF],e2];rw[show A.ak 0 ((gA x.params[i]).drop 6)=some (sl 3 oM x.params[i].ranges)from rfl,bS,eT (E5 (most:=140737488355328 / 32) (m:=EM) (r0:=Qg) ZM rfl (λ_ _=>rfl) (by have:=hx _ (List.getElem_mem hlt);omega) w),bS,show((A.cell (sl 3 oM x.params[i].ranges)).bind λv=>some [v])=some [sl 3 oM x.params[i].ranges]from rfl,bS,e3 6 _ rfl,bS,gY hq (by unfold bg;omega),bS]
 ·have:i=x.params.length:=by omega
  subst this;refine .inr ⟨_,?_,by simp,rfl⟩;simp only[bW,cA];rw[kS,bS,cR]
theorem am4{W : Heap}{x : kL}{pv : AV}(hx : ∀ c ∈ x.bH, c.dW.length ≤ 1000000 ∧ c.fB.bL.length ≤ 1000000)(hl : x.bH.length ≤ 1000000)(h : FJ br 11 W pv x.bH)(u0 u1 : AV) : A.loop ((λeE iL =>
        (A.lss (aj eE 3) (AV.ah (x.bH.length:Int))).bind λAd=>
        A.cond Ad (
         ((A.lb (aj eE 2)).bind λ_=>some (1)).bind λCO=>
         ((A.lb (aj eE 2)).bind λqw=>A.ak CO qw).bind λxB=>
         (A.aY 11 xB (aj eE 3)).bind λmh=>
         (A.aU mh).bind λAe=>
         (A.aF 10 Ae).bind λAf=>
         ((A.deref Af iL).bind λnU=>A.ak 0 nU).bind λp7=>
         (A.quiet ((A.jB (.s 8) EN) [p7] iL) iL).bind λu9=>
         (A.aU mh).bind λxC=>
         (A.aF 6 xC).bind λoU=>
         (A.aF 1 oU).bind λqF=>
         ((A.deref qF iL).bind λqx=>A.ak 0 qx).bind λxD=>
         (A.quiet ((A.jB (.s 2) wL) [xD] iL) iL).bind λqG=>
         (A.aU mh).bind λxE=>
         (A.aF 10 xE).bind λoV=>
         ((A.cell u9).bind λv=>some [v]).bind λzL=>
         (A.storeAt oV zL iL).bind λzM=>
         (A.aU mh).bind λxF=>
         (A.aF 6 xF).bind λAh=>
         (A.aF 1 Ah).bind λoW=>
         ((A.cell qG).bind λv=>some [v]).bind λCE=>
         (A.storeAt oW CE zM).bind λCF=>
         (A.add (aj eE 3) (AV.ah 1)).bind λCZ=>
         some (AX.normal,[(aj eE 0),(aj eE 1),(aj eE 2),CZ],CF)) (
         some (AX.exit 8,[(aj eE 0),(aj eE 1),(aj eE 2),(aj eE 3)],iL)))) [u0,u1,.lbx [.ah x.aC,pv],.ah 0] W=some (.exit 8,[u0,u1,.lbx [.ah x.aC,pv],.ah (x.bH.length:Int)],W):=by
 refine C9 (ou (Q:=λq=>q=(.exit 8,[u0,u1,.lbx [.ah x.aC,pv],.ah (x.bH.length:Int)],W)) (λz v w=>∃i:Nat,i≤x.bH.length∧v=[u0,u1,.lbx [.ah x.aC,pv],.ah (i:Int)]∧w=W∧z=x.bH.length-i) ?_ (n:=x.bH.length) ⟨0,kY _,rfl,rfl,rfl⟩);have hc:A.cell pv=some pv:=by rcases h with⟨_,rfl|rfl⟩|⟨id,g,rfl,_⟩<;>rfl
 rintro z v w ⟨i,hi,rfl,rfl,hz⟩;by_cases hlt:i<x.bH.length
 ·have hq:x.bH[i]? =some x.bH[i]:=bT hlt;obtain⟨id,g,e1,e2,e3⟩:=h.at hq;have hb:=hx _ (List.getElem_mem hlt);refine .inl ⟨x.bH.length-(i+1),_,_,by omega,?_,i+1,hlt,rfl,rfl,rfl⟩;simp only[bW,cA];have hp2:A.ak 1 [.ah x.aC,pv]=some pv:=hc;rw[kU hq,bS,dr];simp only[ji,bS,hp2,e1,show A.aU (.oe id g i 0)=some (.oe id g i 0)from rfl,show ∀o,A.aF o (.oe id g i 0)=some (.oe id g i o)from λo=>by simp [A.aF],show A.aF 1 (.oe id g i 6)=some (.oe id g i 7)from rfl,e2];rw[show A.ak 0 ((br x.bH[i]).drop 10)=some (sl 8 gZ x.bH[i].dW)from rfl,bS,eT (E5 (most:=140737488355328 / 64) (m:=EN) (r0:=Qi) aaH rfl (λ_ _=>rfl) (by omega) w),bS,show A.ak 0 ((br x.bH[i]).drop 7)=some (sl 2 iJ x.bH[i].fB.bL)from rfl,bS,eT (E5 (most:=140737488355328 / 16) (m:=wL) (r0:=MH) JW rfl (λ_ _=>rfl) (by omega) w),bS,show((A.cell (sl 8 gZ x.bH[i].dW)).bind λv=>some [v])=some [sl 8 gZ x.bH[i].dW]from rfl,bS,e3 10 _ rfl,bS,show((A.cell (sl 2 iJ x.bH[i].fB.bL)).bind λv=>some [v])=some [sl 2 iJ x.bH[i].fB.bL]from rfl,bS,e3 7 _ rfl,bS,gY hq (by unfold bg;omega),bS]
 ·have:i=x.bH.length:=by omega
  subst this;refine .inr ⟨_,?_,by simp,rfl⟩;simp only[bW,cA];rw[kS,bS,cR]
theorem On{α:Type}{E:au→α→HP}{sz most:Nat}{v:AV}{l:List α}{e:au}{x:α}(hl:l.length+1≤most)(H:Hs bY aK σ (Sl E sz v l*(E e x*R))):∃v' σ',A.append sz most v (.sl sz [e]) σ=some (v',σ')∧Hs bY aK σ' (Sl E sz v' (l++[x])*R):=
 Im (ys:=[e]) (xs:=[x]) (dw (by rw[ane]) H) (by simpa using hl) (λ_ _ _ _=>trivial)
theorem aoP{l:List fS}(hl:l.length≤1000000)(H:Hs bY aK σ R):∃v σ',G5 [sl 7 gA l] σ=some (v,σ')∧A.cell v=some v∧Hs bY aK σ' (Sl (fl gA) 7 v l*R):=
 Tl (most:=140737488355328 / 80) (r:=λ_ _=>none) rfl (λ_ _=>rfl) (by omega) (λ_ _ _ _=>trivial) H
theorem amq(n:ByteArray)(m:Int)(v:AV):(((A.cells 3 (.agg [.str n,.ah m,v])).bind λjo=>(A.aq 0 jo [bA,(AV.ah 0),AV.az]).bind λjh=>some jh).bind λcs=>some (AV.sl 3 (fI 3 1 cs)))=some (.sl 3 [[.str n,.ah m,v]]):=rfl
theorem amp(n:Int)(v:AV):(((A.cells 2 (.agg [.ah n,v])).bind λjo=>(A.aq 0 jo [(AV.ah 0),AV.az]).bind λjh=>some jh).bind λcs=>some (AV.sl 2 (fI 2 1 cs)))=some (.sl 2 [[.ah n,v]]):=rfl
theorem apK{s:iQ}(hb:Iq s)(H:Hs bY aK σ R)(un pl u:AV):∃v W,A.loop ((λeO mL=>
   (A.lss (aj eO 3) (AV.ah (s.aZ.bw.length:Int))).bind λcI=>
   A.cond cI (
    (A.aY 3 (sl 3 dm s.aZ.bw) (aj eO 3)).bind λeC=>
    ((A.deref eC mL).bind λjR=>A.aB 0 3 jR).bind λcN=>
    (A.cells 3 cN).bind λiU=>
    (A.aq 0 iU [bA,(AV.ah 0),AV.az]).bind λgd=>
    (A.ak 2 gd).bind λx24=>
    (G5 [x24] mL).bind λnA=>
    ((A.cell nA.1).bind λv=>some [v]).bind λiC=>
    (A.aq 2 iC gd).bind λko=>
    (A.ak 2 ko).bind λx28=>
    (A.bR x28).bind λx29=>
    (A.loop (λv30 gJ=>
      (A.lss (aj v30 4) x29).bind λeW=>
      A.cond eW (
       ((A.lb (aj v30 3)).bind λ_=>some (2)).bind λAu=>
       ((A.lb (aj v30 3)).bind λgr=>A.ak Au gr).bind λfG=>
       ((A.lb (aj v30 3)).bind λ_=>some (2)).bind λDi=>
       ((A.lb (aj v30 3)).bind λlY=>A.ak Di lY).bind λgj=>
       (A.aY 7 gj (aj v30 4)).bind λdV=>
       (A.aF 6 dV).bind λeX=>
       ((A.deref eX gJ).bind λmB=>A.ak 0 mB).bind λfk=>
       (A.quiet ((A.jB (.s 3) EM) [fk] gJ) gJ).bind λeY=>
       (A.aY 7 fG (aj v30 4)).bind λfO=>
       (A.aF 6 fO).bind λgP=>
       ((A.cell eY).bind λv=>some [v]).bind λiD=>
       (A.storeAt gP iD gJ).bind λsQ=>
       (A.add (aj v30 4) (AV.ah 1)).bind λeZ=>
       some (AX.normal,[(aj v30 0),(aj v30 1),(aj v30 2),(aj v30 3),eZ],sQ)) (
       some (AX.exit 2,[(aj v30 0),(aj v30 1),(aj v30 2),(aj v30 3),(aj v30 4)],gJ))) [(aj eO 0),(aj eO 1),(aj eO 2),(AV.lbx ko),(AV.ah 0)] nA.2).bind λdN=>
    bif dN.1==AX.exit 2 then(
     ((A.lb (aj dN.2.1 2)).bind λ_=>some (0)).bind λGF=>
     ((A.lb (aj dN.2.1 2)).bind λ_=>some (GF)).bind λGG=>
     ((A.lb (aj dN.2.1 2)).bind λqK=>A.ak GG qK).bind λgL=>
     ((A.lb (aj dN.2.1 3)).bind λjS=>A.aB 0 3 jS).bind λfH=>
     (((A.cells 3 fH).bind λjo=>(A.aq 0 jo [bA,(AV.ah 0),AV.az]).bind λjh=>some jh).bind λcs=>some (AV.sl 3 (fI 3 1 cs))).bind λfK=>
     (A.append 3 (140737488355328 / 48) gL fK dN.2.2).bind λql=>
     ((A.lb (aj dN.2.1 2)).bind λ_=>some (0)).bind λGH=>
     ((A.lb (aj dN.2.1 2)).bind λ_=>some (GH)).bind λGI=>
     (A.lb (aj dN.2.1 2)).bind λAk=>
     ((A.cell ql.1).bind λv=>some [v]).bind λqL=>
     (A.aq GI qL Ak).bind λsS=>
     (A.add (aj eO 3) (AV.ah 1)).bind λgG=>
     some (AX.normal,[(aj dN.2.1 0),(aj dN.2.1 1),(AV.lbx sS),gG],ql.2))else
    none) (
    some (AX.exit 0,[(aj eO 0),(aj eO 1),(aj eO 2),(aj eO 3)],mL)))) [.lbx (bK s),u,.lbx [.az,un,.az,.az,pl],.ah 0] σ=some (.exit 0,[.lbx (bK s),u,.lbx [v,un,.az,.az,pl],.ah (s.aZ.bw.length:Int)],W)∧Hs bY aK W (Sl yx 3 v s.aZ.bw*R):=by
 suffices h:∃q,A.loop ((λeO mL=>
   (A.lss (aj eO 3) (AV.ah (s.aZ.bw.length:Int))).bind λcI=>
   A.cond cI (
    (A.aY 3 (sl 3 dm s.aZ.bw) (aj eO 3)).bind λeC=>
    ((A.deref eC mL).bind λjR=>A.aB 0 3 jR).bind λcN=>
    (A.cells 3 cN).bind λiU=>
    (A.aq 0 iU [bA,(AV.ah 0),AV.az]).bind λgd=>
    (A.ak 2 gd).bind λx24=>
    (G5 [x24] mL).bind λnA=>
    ((A.cell nA.1).bind λv=>some [v]).bind λiC=>
    (A.aq 2 iC gd).bind λko=>
    (A.ak 2 ko).bind λx28=>
    (A.bR x28).bind λx29=>
    (A.loop (λv30 gJ=>
      (A.lss (aj v30 4) x29).bind λeW=>
      A.cond eW (
       ((A.lb (aj v30 3)).bind λ_=>some (2)).bind λAu=>
       ((A.lb (aj v30 3)).bind λgr=>A.ak Au gr).bind λfG=>
       ((A.lb (aj v30 3)).bind λ_=>some (2)).bind λDi=>
       ((A.lb (aj v30 3)).bind λlY=>A.ak Di lY).bind λgj=>
       (A.aY 7 gj (aj v30 4)).bind λdV=>
       (A.aF 6 dV).bind λeX=>
       ((A.deref eX gJ).bind λmB=>A.ak 0 mB).bind λfk=>
       (A.quiet ((A.jB (.s 3) EM) [fk] gJ) gJ).bind λeY=>
       (A.aY 7 fG (aj v30 4)).bind λfO=>
       (A.aF 6 fO).bind λgP=>
       ((A.cell eY).bind λv=>some [v]).bind λiD=>
       (A.storeAt gP iD gJ).bind λsQ=>
       (A.add (aj v30 4) (AV.ah 1)).bind λeZ=>
       some (AX.normal,[(aj v30 0),(aj v30 1),(aj v30 2),(aj v30 3),eZ],sQ)) (
       some (AX.exit 2,[(aj v30 0),(aj v30 1),(aj v30 2),(aj v30 3),(aj v30 4)],gJ))) [(aj eO 0),(aj eO 1),(aj eO 2),(AV.lbx ko),(AV.ah 0)] nA.2).bind λdN=>
    bif dN.1==AX.exit 2 then(
     ((A.lb (aj dN.2.1 2)).bind λ_=>some (0)).bind λGF=>
     ((A.lb (aj dN.2.1 2)).bind λ_=>some (GF)).bind λGG=>
     ((A.lb (aj dN.2.1 2)).bind λqK=>A.ak GG qK).bind λgL=>
     ((A.lb (aj dN.2.1 3)).bind λjS=>A.aB 0 3 jS).bind λfH=>
     (((A.cells 3 fH).bind λjo=>(A.aq 0 jo [bA,(AV.ah 0),AV.az]).bind λjh=>some jh).bind λcs=>some (AV.sl 3 (fI 3 1 cs))).bind λfK=>
     (A.append 3 (140737488355328 / 48) gL fK dN.2.2).bind λql=>
     ((A.lb (aj dN.2.1 2)).bind λ_=>some (0)).bind λGH=>
     ((A.lb (aj dN.2.1 2)).bind λ_=>some (GH)).bind λGI=>
     (A.lb (aj dN.2.1 2)).bind λAk=>
     ((A.cell ql.1).bind λv=>some [v]).bind λqL=>
     (A.aq GI qL Ak).bind λsS=>
     (A.add (aj eO 3) (AV.ah 1)).bind λgG=>
     some (AX.normal,[(aj dN.2.1 0),(aj dN.2.1 1),(AV.lbx sS),gG],ql.2))else
    none) (
    some (AX.exit 0,[(aj eO 0),(aj eO 1),(aj eO 2),(aj eO 3)],mL)))) [.lbx (bK s),u,.lbx [.az,un,.az,.az,pl],.ah 0] σ=some q∧∃v W,q=(.exit 0,[.lbx (bK s),u,.lbx [v,un,.az,.az,pl],.ah (s.aZ.bw.length:Int)],W)∧Hs bY aK W (Sl yx 3 v s.aZ.bw*R) by
  obtain⟨q,e,v,W,rfl,K⟩:=h;exact⟨v,W,e,K⟩
 refine ou (λz v w=>∃(i:Nat)(vo:AV),i≤s.aZ.bw.length∧v=[.lbx (bK s),u,.lbx [vo,un,.az,.az,pl],.ah (i:Int)]∧z=s.aZ.bw.length-i∧Hs bY aK w (Sl yx 3 vo (s.aZ.bw.take i)*R)) ?_ (n:=s.aZ.bw.length) ⟨0,.az,kY _,rfl,rfl,td H (.inl rfl)⟩;rintro z v w ⟨i,vo,hi,rfl,hz,K⟩;by_cases h:i<s.aZ.bw.length
 ·obtain⟨x,dz⟩:∃x,x=s.aZ.bw[i]:=⟨_,rfl⟩
  have hx:s.aZ.bw[i]? =some x:=by rw[dz];exact bT h
  have hpb:=hb.par x (cS hx);have hlb:=hb.jq
  have step:∃gy w',((λeO mL=>
   (A.lss (aj eO 3) (AV.ah (s.aZ.bw.length:Int))).bind λcI=>
   A.cond cI (
    (A.aY 3 (sl 3 dm s.aZ.bw) (aj eO 3)).bind λeC=>
    ((A.deref eC mL).bind λjR=>A.aB 0 3 jR).bind λcN=>
    (A.cells 3 cN).bind λiU=>
    (A.aq 0 iU [bA,(AV.ah 0),AV.az]).bind λgd=>
    (A.ak 2 gd).bind λx24=>
    (G5 [x24] mL).bind λnA=>
    ((A.cell nA.1).bind λv=>some [v]).bind λiC=>
    (A.aq 2 iC gd).bind λko=>
    (A.ak 2 ko).bind λx28=>
    (A.bR x28).bind λx29=>
    (A.loop (λv30 gJ=>
      (A.lss (aj v30 4) x29).bind λeW=>
      A.cond eW (
       ((A.lb (aj v30 3)).bind λ_=>some (2)).bind λAu=>
       ((A.lb (aj v30 3)).bind λgr=>A.ak Au gr).bind λfG=>
       ((A.lb (aj v30 3)).bind λ_=>some (2)).bind λDi=>
       ((A.lb (aj v30 3)).bind λlY=>A.ak Di lY).bind λgj=>
       (A.aY 7 gj (aj v30 4)).bind λdV=>
       (A.aF 6 dV).bind λeX=>
       ((A.deref eX gJ).bind λmB=>A.ak 0 mB).bind λfk=>
       (A.quiet ((A.jB (.s 3) EM) [fk] gJ) gJ).bind λeY=>
       (A.aY 7 fG (aj v30 4)).bind λfO=>
       (A.aF 6 fO).bind λgP=>
       ((A.cell eY).bind λv=>some [v]).bind λiD=>
       (A.storeAt gP iD gJ).bind λsQ=>
       (A.add (aj v30 4) (AV.ah 1)).bind λeZ=>
       some (AX.normal,[(aj v30 0),(aj v30 1),(aj v30 2),(aj v30 3),eZ],sQ)) (
       some (AX.exit 2,[(aj v30 0),(aj v30 1),(aj v30 2),(aj v30 3),(aj v30 4)],gJ))) [(aj eO 0),(aj eO 1),(aj eO 2),(AV.lbx ko),(AV.ah 0)] nA.2).bind λdN=>
    bif dN.1==AX.exit 2 then(
     ((A.lb (aj dN.2.1 2)).bind λ_=>some (0)).bind λGF=>
     ((A.lb (aj dN.2.1 2)).bind λ_=>some (GF)).bind λGG=>
     ((A.lb (aj dN.2.1 2)).bind λqK=>A.ak GG qK).bind λgL=>
     ((A.lb (aj dN.2.1 3)).bind λjS=>A.aB 0 3 jS).bind λfH=>
     (((A.cells 3 fH).bind λjo=>(A.aq 0 jo [bA,(AV.ah 0),AV.az]).bind λjh=>some jh).bind λcs=>some (AV.sl 3 (fI 3 1 cs))).bind λfK=>
     (A.append 3 (140737488355328 / 48) gL fK dN.2.2).bind λql=>
     ((A.lb (aj dN.2.1 2)).bind λ_=>some (0)).bind λGH=>
     ((A.lb (aj dN.2.1 2)).bind λ_=>some (GH)).bind λGI=>
     (A.lb (aj dN.2.1 2)).bind λAk=>
     ((A.cell ql.1).bind λv=>some [v]).bind λqL=>
     (A.aq GI qL Ak).bind λsS=>
     (A.add (aj eO 3) (AV.ah 1)).bind λgG=>
     some (AX.normal,[(aj dN.2.1 0),(aj dN.2.1 1),(AV.lbx sS),gG],ql.2))else
    none) (
    some (AX.exit 0,[(aj eO 0),(aj eO 1),(aj eO 2),(aj eO 3)],mL)))) [.lbx (bK s),u,.lbx [vo,un,.az,.az,pl],.ah (i:Int)] w=some (.normal,[.lbx (bK s),u,.lbx [gy,un,.az,.az,pl],.ah ((i+1:Nat):Int)],w')∧Hs bY aK w' (Sl yx 3 gy (s.aZ.bw.take i++[x])*R):=by
   simp only[bW,cA];rw[kU hx,bS,dr,jG hx,bS,oD,bS,show A.aB 0 3 (dm x)=some (.agg (dm x))from rfl,bS,show A.cells 3 (.agg (dm x))=some (dm x)from rfl,bS,show A.aq 0 (dm x) [bA,(AV.ah 0),AV.az]=some (dm x)from rfl,bS,tv,bS];obtain⟨pv,w1,c1,c2,c3⟩:=aoP hpb.1 K;have Ao:=abZ c3;rw[c1,bS];simp only;rw[show((A.cell pv).bind λv=>some [v])=some [pv]from by rw[c2];rfl,bS,show A.aq 2 [pv] (dm x)=some [.str x.name,.ah x.size,pv]from rfl,bS,show A.ak 2 [.str x.name,.ah x.size,pv]=some pv from c2,bS,Ao.len,bS];refine La (am3 hpb.2 hpb.1 Ao _ _ _) ?_;simp only[oa,bW,cA,ji,bS];have Ly:=Cj K;rw[show A.ak 0 [vo,un,.az,.az,pl]=some vo from Ly,bS,show A.aB 0 3 [.str x.name,.ah x.size,pv]=some (.agg [.str x.name,.ah x.size,pv])from rfl,bS,amq,bS];obtain⟨gy,w2,f1,f2⟩:=On (most:=140737488355328 / 48) (E:=yx) (l:=s.aZ.bw.take i) (v:=vo) (e:=[.str x.name,.ah x.size,pv]) (x:=x) (R:=R) (by rw[qv];omega) (dw (by ac_rfl) (adI.2 ⟨pv,rfl,c3⟩));rw[f1,bS];simp only;rw[show((A.cell gy).bind λv=>some [v])=some [gy]from by rw[Cj f2];rfl,bS,show A.aq 0 [gy] [vo,un,.az,.az,pl]=some [gy,un,.az,.az,pl]from rfl,bS,gY hx (by unfold bg;omega),bS];exact⟨gy,w2,rfl,f2⟩
  obtain⟨gy,w',s1,s2⟩:=step;refine .inl ⟨s.aZ.bw.length-(i+1),_,_,by omega,s1,i+1,gy,h,rfl,rfl,?_⟩;rw[List.take_add_one,hx];exact s2
 ·have:i=s.aZ.bw.length:=by omega
  subst this;rw[List.take_length]at K;refine .inr ⟨(.exit 0,[.lbx (bK s),u,.lbx [vo,un,.az,.az,pl],.ah (s.aZ.bw.length:Int)],w),?_,by simp,vo,w,rfl,K⟩;simp only[bW,cA];rw[kS,bS,cR]
theorem apL{s:iQ}(hb:Iq s)(H:Hs bY aK σ R)(vl un pl u:AV)(hvl:A.cell vl=some vl):∃v W,A.loop ((λv72 vJ=>
    (A.lss (aj v72 3) (AV.ah (s.cq.length:Int))).bind λfP=>
    A.cond fP (
     (A.aY 3 (sl 3 ff s.cq) (aj v72 3)).bind λkD=>
     ((A.deref kD vJ).bind λnY=>A.aB 0 3 nY).bind λkR=>
     (A.cells 3 kR).bind λC4=>
     (A.aq 0 C4 [(AV.ah 0),bA,AV.az]).bind λxJ=>
     (A.ak 2 xJ).bind λnC=>
     ((A.jB (.s 3) GZ) [nC] vJ).bind λAD=>
     ((A.cell AD.1).bind λv=>some [v]).bind λmC=>
     (A.aq 2 mC xJ).bind λjf=>
     ((A.lb (aj v72 2)).bind λ_=>some (2)).bind λGL=>
     ((A.lb (aj v72 2)).bind λqN=>A.ak GL qN).bind λpP=>
     (A.aB 0 3 jf).bind λkG=>
     (((A.cells 3 kG).bind λmD=>(A.aq 0 mD [(AV.ah 0),bA,AV.az]).bind λmE=>some mE).bind λcs=>some (AV.sl 3 (fI 3 1 cs))).bind λx91=>
     (A.append 3 (140737488355328 / 48) pP x91 AD.2).bind λAG=>
     ((A.lb (aj v72 2)).bind λ_=>some (2)).bind λGN=>
     (A.lb (aj v72 2)).bind λGn=>
     ((A.cell AG.1).bind λv=>some [v]).bind λn5=>
     (A.aq GN n5 Gn).bind λlC=>
     (A.add (aj v72 3) (AV.ah 1)).bind λAM=>
     some (AX.normal,[(aj v72 0),(aj v72 1),(AV.lbx lC),AM],AG.2)) (
     some (AX.exit 4,[(aj v72 0),(aj v72 1),(aj v72 2),(aj v72 3)],vJ)))) [.lbx (bK s),u,.lbx [vl,un,.az,.az,pl],.ah 0] σ=some (.exit 4,[.lbx (bK s),u,.lbx [vl,un,v,.az,pl],.ah (s.cq.length:Int)],W)∧Hs bY aK W (Sl (fl ff) 3 v s.cq*R):=by
 suffices h:∃q,A.loop ((λv72 vJ=>
    (A.lss (aj v72 3) (AV.ah (s.cq.length:Int))).bind λfP=>
    A.cond fP (
     (A.aY 3 (sl 3 ff s.cq) (aj v72 3)).bind λkD=>
     ((A.deref kD vJ).bind λnY=>A.aB 0 3 nY).bind λkR=>
     (A.cells 3 kR).bind λC4=>
     (A.aq 0 C4 [(AV.ah 0),bA,AV.az]).bind λxJ=>
     (A.ak 2 xJ).bind λnC=>
     ((A.jB (.s 3) GZ) [nC] vJ).bind λAD=>
     ((A.cell AD.1).bind λv=>some [v]).bind λmC=>
     (A.aq 2 mC xJ).bind λjf=>
     ((A.lb (aj v72 2)).bind λ_=>some (2)).bind λGL=>
     ((A.lb (aj v72 2)).bind λqN=>A.ak GL qN).bind λpP=>
     (A.aB 0 3 jf).bind λkG=>
     (((A.cells 3 kG).bind λmD=>(A.aq 0 mD [(AV.ah 0),bA,AV.az]).bind λmE=>some mE).bind λcs=>some (AV.sl 3 (fI 3 1 cs))).bind λx91=>
     (A.append 3 (140737488355328 / 48) pP x91 AD.2).bind λAG=>
     ((A.lb (aj v72 2)).bind λ_=>some (2)).bind λGN=>
     (A.lb (aj v72 2)).bind λGn=>
     ((A.cell AG.1).bind λv=>some [v]).bind λn5=>
     (A.aq GN n5 Gn).bind λlC=>
     (A.add (aj v72 3) (AV.ah 1)).bind λAM=>
     some (AX.normal,[(aj v72 0),(aj v72 1),(AV.lbx lC),AM],AG.2)) (
     some (AX.exit 4,[(aj v72 0),(aj v72 1),(aj v72 2),(aj v72 3)],vJ)))) [.lbx (bK s),u,.lbx [vl,un,.az,.az,pl],.ah 0] σ=some q∧∃v W,q=(.exit 4,[.lbx (bK s),u,.lbx [vl,un,v,.az,pl],.ah (s.cq.length:Int)],W)∧Hs bY aK W (Sl (fl ff) 3 v s.cq*R) by
  obtain⟨q,e,v,W,rfl,K⟩:=h;exact⟨v,W,e,K⟩
 refine ou (λz v w=>∃(i:Nat)(vo:AV),i≤s.cq.length∧v=[.lbx (bK s),u,.lbx [vl,un,vo,.az,pl],.ah (i:Int)]∧z=s.cq.length-i∧Hs bY aK w (Sl (fl ff) 3 vo (s.cq.take i)*R)) ?_ (n:=s.cq.length) ⟨0,.az,kY _,rfl,rfl,td H (.inl rfl)⟩;rintro z v w ⟨i,vo,hi,rfl,hz,K⟩;by_cases h:i<s.cq.length
 ·obtain⟨x,dz⟩:∃x,x=s.cq[i]:=⟨_,rfl⟩
  have hx:s.cq[i]? =some x:=by rw[dz];exact bT h
  have hpb:=hb.pre.2 x (cS hx);have hlb:=hb.pre.1
  have step:∃gy w',((λv72 vJ=>
    (A.lss (aj v72 3) (AV.ah (s.cq.length:Int))).bind λfP=>
    A.cond fP (
     (A.aY 3 (sl 3 ff s.cq) (aj v72 3)).bind λkD=>
     ((A.deref kD vJ).bind λnY=>A.aB 0 3 nY).bind λkR=>
     (A.cells 3 kR).bind λC4=>
     (A.aq 0 C4 [(AV.ah 0),bA,AV.az]).bind λxJ=>
     (A.ak 2 xJ).bind λnC=>
     ((A.jB (.s 3) GZ) [nC] vJ).bind λAD=>
     ((A.cell AD.1).bind λv=>some [v]).bind λmC=>
     (A.aq 2 mC xJ).bind λjf=>
     ((A.lb (aj v72 2)).bind λ_=>some (2)).bind λGL=>
     ((A.lb (aj v72 2)).bind λqN=>A.ak GL qN).bind λpP=>
     (A.aB 0 3 jf).bind λkG=>
     (((A.cells 3 kG).bind λmD=>(A.aq 0 mD [(AV.ah 0),bA,AV.az]).bind λmE=>some mE).bind λcs=>some (AV.sl 3 (fI 3 1 cs))).bind λx91=>
     (A.append 3 (140737488355328 / 48) pP x91 AD.2).bind λAG=>
     ((A.lb (aj v72 2)).bind λ_=>some (2)).bind λGN=>
     (A.lb (aj v72 2)).bind λGn=>
     ((A.cell AG.1).bind λv=>some [v]).bind λn5=>
     (A.aq GN n5 Gn).bind λlC=>
     (A.add (aj v72 3) (AV.ah 1)).bind λAM=>
     some (AX.normal,[(aj v72 0),(aj v72 1),(AV.lbx lC),AM],AG.2)) (
     some (AX.exit 4,[(aj v72 0),(aj v72 1),(aj v72 2),(aj v72 3)],vJ)))) [.lbx (bK s),u,.lbx [vl,un,vo,.az,pl],.ah (i:Int)] w=some (.normal,[.lbx (bK s),u,.lbx [vl,un,gy,.az,pl],.ah ((i+1:Nat):Int)],w')∧Hs bY aK w' (Sl (fl ff) 3 gy (s.cq.take i++[x])*R):=by
   simp only[bW,cA];rw[kU hx,bS,dr,jG hx,bS,oD,bS,show A.aB 0 3 (ff x)=some (.agg (ff x))from rfl,bS,show A.cells 3 (.agg (ff x))=some (ff x)from rfl,bS,show A.aq 0 (ff x) [(AV.ah 0),bA,AV.az]=some (ff x)from rfl,bS,show A.ak 2 (ff x)=some (sl 3 fD x.lS)from rfl,bS,E5 (most:=140737488355328 / 32) (m:=GZ) (r0:=Qd) Ng rfl (λ_ _=>rfl) (by omega) w,bS];simp only[ji,bS];have Ly:=Cj K;rw[show((A.cell (sl 3 fD x.lS)).bind λv=>some [v])=some [sl 3 fD x.lS]from rfl,bS,show A.aq 2 [sl 3 fD x.lS] (ff x)=some (ff x)from rfl,bS,show A.ak 2 [vl,un,vo,.az,pl]=some vo from Ly,bS,show A.aB 0 3 (ff x)=some (.agg (ff x))from rfl,bS,show(((A.cells 3 (.agg (ff x))).bind λjo=>(A.aq 0 jo [(AV.ah 0),bA,AV.az]).bind λjh=>some jh).bind λcs=>some (AV.sl 3 (fI 3 1 cs)))=some (.sl 3 [ff x])from rfl,bS];obtain⟨gy,w2,f1,f2⟩:=On (most:=140737488355328 / 48) (E:=fl ff) (l:=s.cq.take i) (v:=vo) (e:=ff x) (x:=x) (R:=R) (by rw[qv];omega) (dw (by ac_rfl) (oO.2 ⟨(rfl:ff x=ff x),K⟩));rw[f1,bS];simp only;rw[show((A.cell gy).bind λv=>some [v])=some [gy]from by rw[Cj f2];rfl,bS,show A.aq 2 [gy] [vl,un,vo,.az,pl]=some [vl,un,gy,.az,pl]from rfl,bS,gY hx (by unfold bg;omega),bS];exact⟨gy,w2,rfl,f2⟩
  obtain⟨gy,w',s1,s2⟩:=step;refine .inl ⟨s.cq.length-(i+1),_,_,by omega,s1,i+1,gy,h,rfl,rfl,?_⟩;rw[List.take_add_one,hx];exact s2
 ·have:i=s.cq.length:=by omega
  subst this;rw[List.take_length]at K;refine .inr ⟨(.exit 4,[.lbx (bK s),u,.lbx [vl,un,vo,.az,pl],.ah (s.cq.length:Int)],w),?_,by simp,vo,w,rfl,K⟩;simp only[bW,cA];rw[kS,bS,cR]
theorem aoO{l:List bz}(hl:l.length≤1000000)(H:Hs bY aK σ R):∃v σ',EO [sl 11 br l] σ=some (v,σ')∧A.cell v=some v∧Hs bY aK σ' (Sl (fl br) 11 v l*R):=ark (by omega) H
theorem apM{s:iQ}(hb:Iq s)(H:Hs bY aK σ R)(vl un vp pl u:AV):∃v W,A.loop ((λkj uZ=>
     (A.lss (aj kj 2) (AV.ah (s.cM.length:Int))).bind λqC=>
     A.cond qC (
      (A.aY 2 (sl 2 fA s.cM) (aj kj 2)).bind λqD=>
      ((A.deref qD uZ).bind λFL=>A.aB 0 2 FL).bind λqE=>
      (A.cells 2 qE).bind λFM=>
      (A.aq 0 FM [(AV.ah 0),AV.az]).bind λoQ=>
      (A.ak 1 oQ).bind λx112=>
      (EO [x112] uZ).bind λwo=>
      ((A.cell wo.1).bind λv=>some [v]).bind λFO=>
      (A.aq 1 FO oQ).bind λxq=>
      (A.ak 1 xq).bind λF9=>
      (A.bR F9).bind λsO=>
      (A.loop (λeE iL=>
        (A.lss (aj eE 3) sO).bind λAd=>
        A.cond Ad (
         ((A.lb (aj eE 2)).bind λ_=>some (1)).bind λCO=>
         ((A.lb (aj eE 2)).bind λqw=>A.ak CO qw).bind λxB=>
         (A.aY 11 xB (aj eE 3)).bind λmh=>
         (A.aU mh).bind λAe=>
         (A.aF 10 Ae).bind λAf=>
         ((A.deref Af iL).bind λnU=>A.ak 0 nU).bind λp7=>
         (A.quiet ((A.jB (.s 8) EN) [p7] iL) iL).bind λu9=>
         (A.aU mh).bind λxC=>
         (A.aF 6 xC).bind λoU=>
         (A.aF 1 oU).bind λqF=>
         ((A.deref qF iL).bind λqx=>A.ak 0 qx).bind λxD=>
         (A.quiet ((A.jB (.s 2) wL) [xD] iL) iL).bind λqG=>
         (A.aU mh).bind λxE=>
         (A.aF 10 xE).bind λoV=>
         ((A.cell u9).bind λv=>some [v]).bind λzL=>
         (A.storeAt oV zL iL).bind λzM=>
         (A.aU mh).bind λxF=>
         (A.aF 6 xF).bind λAh=>
         (A.aF 1 Ah).bind λoW=>
         ((A.cell qG).bind λv=>some [v]).bind λCE=>
         (A.storeAt oW CE zM).bind λCF=>
         (A.add (aj eE 3) (AV.ah 1)).bind λCZ=>
         some (AX.normal,[(aj eE 0),(aj eE 1),(aj eE 2),CZ],CF)) (
         some (AX.exit 8,[(aj eE 0),(aj eE 1),(aj eE 2),(aj eE 3)],iL))) [(aj kj 0),(aj kj 1),(AV.lbx xq),(AV.ah 0)] wo.2).bind λkg=>
      bif kg.1==AX.exit 8 then(
       ((A.lb (aj kg.2.1 1)).bind λ_=>some (3)).bind λF3=>
       ((A.lb (aj kg.2.1 1)).bind λzN=>A.ak F3 zN).bind λx150=>
       ((A.lb (aj kg.2.1 2)).bind λzO=>A.aB 0 2 zO).bind λx152=>
       (((A.cells 2 x152).bind λxx=>(A.aq 0 xx [(AV.ah 0),AV.az]).bind λFQ=>some FQ).bind λcs=>some (AV.sl 2 (fI 2 1 cs))).bind λC0=>
       (A.append 2 (140737488355328 / 32) x150 C0 kg.2.2).bind λAb=>
       ((A.lb (aj kg.2.1 1)).bind λ_=>some (3)).bind λF4=>
       (A.lb (aj kg.2.1 1)).bind λzQ=>
       ((A.cell Ab.1).bind λv=>some [v]).bind λwg=>
       (A.aq F4 wg zQ).bind λzP=>
       (A.add (aj kj 2) (AV.ah 1)).bind λGa=>
       some (AX.normal,[(aj kg.2.1 0),(AV.lbx zP),Ga],Ab.2))else
      none) (
      some (AX.exit 6,[(aj kj 0),(aj kj 1),(aj kj 2)],uZ)))) [u,.lbx [vl,un,vp,.az,pl],.ah 0] σ=some (.exit 6,[u,.lbx [vl,un,vp,v,pl],.ah (s.cM.length:Int)],W)∧Hs bY aK W (Sl yw 2 v s.cM*R):=by
 suffices h:∃q,A.loop ((λkj uZ=>
     (A.lss (aj kj 2) (AV.ah (s.cM.length:Int))).bind λqC=>
     A.cond qC (
      (A.aY 2 (sl 2 fA s.cM) (aj kj 2)).bind λqD=>
      ((A.deref qD uZ).bind λFL=>A.aB 0 2 FL).bind λqE=>
      (A.cells 2 qE).bind λFM=>
      (A.aq 0 FM [(AV.ah 0),AV.az]).bind λoQ=>
      (A.ak 1 oQ).bind λx112=>
      (EO [x112] uZ).bind λwo=>
      ((A.cell wo.1).bind λv=>some [v]).bind λFO=>
      (A.aq 1 FO oQ).bind λxq=>
      (A.ak 1 xq).bind λF9=>
      (A.bR F9).bind λsO=>
      (A.loop (λeE iL=>
        (A.lss (aj eE 3) sO).bind λAd=>
        A.cond Ad (
         ((A.lb (aj eE 2)).bind λ_=>some (1)).bind λCO=>
         ((A.lb (aj eE 2)).bind λqw=>A.ak CO qw).bind λxB=>
         (A.aY 11 xB (aj eE 3)).bind λmh=>
         (A.aU mh).bind λAe=>
         (A.aF 10 Ae).bind λAf=>
         ((A.deref Af iL).bind λnU=>A.ak 0 nU).bind λp7=>
         (A.quiet ((A.jB (.s 8) EN) [p7] iL) iL).bind λu9=>
         (A.aU mh).bind λxC=>
         (A.aF 6 xC).bind λoU=>
         (A.aF 1 oU).bind λqF=>
         ((A.deref qF iL).bind λqx=>A.ak 0 qx).bind λxD=>
         (A.quiet ((A.jB (.s 2) wL) [xD] iL) iL).bind λqG=>
         (A.aU mh).bind λxE=>
         (A.aF 10 xE).bind λoV=>
         ((A.cell u9).bind λv=>some [v]).bind λzL=>
         (A.storeAt oV zL iL).bind λzM=>
         (A.aU mh).bind λxF=>
         (A.aF 6 xF).bind λAh=>
         (A.aF 1 Ah).bind λoW=>
         ((A.cell qG).bind λv=>some [v]).bind λCE=>
         (A.storeAt oW CE zM).bind λCF=>
         (A.add (aj eE 3) (AV.ah 1)).bind λCZ=>
         some (AX.normal,[(aj eE 0),(aj eE 1),(aj eE 2),CZ],CF)) (
         some (AX.exit 8,[(aj eE 0),(aj eE 1),(aj eE 2),(aj eE 3)],iL))) [(aj kj 0),(aj kj 1),(AV.lbx xq),(AV.ah 0)] wo.2).bind λkg=>
      bif kg.1==AX.exit 8 then(
       ((A.lb (aj kg.2.1 1)).bind λ_=>some (3)).bind λF3=>
       ((A.lb (aj kg.2.1 1)).bind λzN=>A.ak F3 zN).bind λx150=>
       ((A.lb (aj kg.2.1 2)).bind λzO=>A.aB 0 2 zO).bind λx152=>
       (((A.cells 2 x152).bind λxx=>(A.aq 0 xx [(AV.ah 0),AV.az]).bind λFQ=>some FQ).bind λcs=>some (AV.sl 2 (fI 2 1 cs))).bind λC0=>
       (A.append 2 (140737488355328 / 32) x150 C0 kg.2.2).bind λAb=>
       ((A.lb (aj kg.2.1 1)).bind λ_=>some (3)).bind λF4=>
       (A.lb (aj kg.2.1 1)).bind λzQ=>
       ((A.cell Ab.1).bind λv=>some [v]).bind λwg=>
       (A.aq F4 wg zQ).bind λzP=>
       (A.add (aj kj 2) (AV.ah 1)).bind λGa=>
       some (AX.normal,[(aj kg.2.1 0),(AV.lbx zP),Ga],Ab.2))else
      none) (
      some (AX.exit 6,[(aj kj 0),(aj kj 1),(aj kj 2)],uZ)))) [u,.lbx [vl,un,vp,.az,pl],.ah 0] σ=some q∧∃v W,q=(.exit 6,[u,.lbx [vl,un,vp,v,pl],.ah (s.cM.length:Int)],W)∧Hs bY aK W (Sl yw 2 v s.cM*R) by
  obtain⟨q,e,v,W,rfl,K⟩:=h;exact⟨v,W,e,K⟩
 refine ou (λz v w=>∃(i:Nat)(vo:AV),i≤s.cM.length∧v=[u,.lbx [vl,un,vp,vo,pl],.ah (i:Int)]∧z=s.cM.length-i∧Hs bY aK w (Sl yw 2 vo (s.cM.take i)*R)) ?_ (n:=s.cM.length) ⟨0,.az,kY _,rfl,rfl,td H (.inl rfl)⟩;rintro z v w ⟨i,vo,hi,rfl,hz,K⟩;by_cases h:i<s.cM.length
 ·obtain⟨x,dz⟩:∃x,x=s.cM[i]:=⟨_,rfl⟩
  have hx:s.cM[i]? =some x:=by rw[dz];exact bT h
  have hpb:=hb.cm x (cS hx);have hlb:=hb.PU
  have step:∃gy w',((λkj uZ=>
     (A.lss (aj kj 2) (AV.ah (s.cM.length:Int))).bind λqC=>
     A.cond qC (
      (A.aY 2 (sl 2 fA s.cM) (aj kj 2)).bind λqD=>
      ((A.deref qD uZ).bind λFL=>A.aB 0 2 FL).bind λqE=>
      (A.cells 2 qE).bind λFM=>
      (A.aq 0 FM [(AV.ah 0),AV.az]).bind λoQ=>
      (A.ak 1 oQ).bind λx112=>
      (EO [x112] uZ).bind λwo=>
      ((A.cell wo.1).bind λv=>some [v]).bind λFO=>
      (A.aq 1 FO oQ).bind λxq=>
      (A.ak 1 xq).bind λF9=>
      (A.bR F9).bind λsO=>
      (A.loop (λeE iL=>
        (A.lss (aj eE 3) sO).bind λAd=>
        A.cond Ad (
         ((A.lb (aj eE 2)).bind λ_=>some (1)).bind λCO=>
         ((A.lb (aj eE 2)).bind λqw=>A.ak CO qw).bind λxB=>
         (A.aY 11 xB (aj eE 3)).bind λmh=>
         (A.aU mh).bind λAe=>
         (A.aF 10 Ae).bind λAf=>
         ((A.deref Af iL).bind λnU=>A.ak 0 nU).bind λp7=>
         (A.quiet ((A.jB (.s 8) EN) [p7] iL) iL).bind λu9=>
         (A.aU mh).bind λxC=>
         (A.aF 6 xC).bind λoU=>
         (A.aF 1 oU).bind λqF=>
         ((A.deref qF iL).bind λqx=>A.ak 0 qx).bind λxD=>
         (A.quiet ((A.jB (.s 2) wL) [xD] iL) iL).bind λqG=>
         (A.aU mh).bind λxE=>
         (A.aF 10 xE).bind λoV=>
         ((A.cell u9).bind λv=>some [v]).bind λzL=>
         (A.storeAt oV zL iL).bind λzM=>
         (A.aU mh).bind λxF=>
         (A.aF 6 xF).bind λAh=>
         (A.aF 1 Ah).bind λoW=>
         ((A.cell qG).bind λv=>some [v]).bind λCE=>
         (A.storeAt oW CE zM).bind λCF=>
         (A.add (aj eE 3) (AV.ah 1)).bind λCZ=>
         some (AX.normal,[(aj eE 0),(aj eE 1),(aj eE 2),CZ],CF)) (
         some (AX.exit 8,[(aj eE 0),(aj eE 1),(aj eE 2),(aj eE 3)],iL))) [(aj kj 0),(aj kj 1),(AV.lbx xq),(AV.ah 0)] wo.2).bind λkg=>
      bif kg.1==AX.exit 8 then(
       ((A.lb (aj kg.2.1 1)).bind λ_=>some (3)).bind λF3=>
       ((A.lb (aj kg.2.1 1)).bind λzN=>A.ak F3 zN).bind λx150=>
       ((A.lb (aj kg.2.1 2)).bind λzO=>A.aB 0 2 zO).bind λx152=>
       (((A.cells 2 x152).bind λxx=>(A.aq 0 xx [(AV.ah 0),AV.az]).bind λFQ=>some FQ).bind λcs=>some (AV.sl 2 (fI 2 1 cs))).bind λC0=>
       (A.append 2 (140737488355328 / 32) x150 C0 kg.2.2).bind λAb=>
       ((A.lb (aj kg.2.1 1)).bind λ_=>some (3)).bind λF4=>
       (A.lb (aj kg.2.1 1)).bind λzQ=>
       ((A.cell Ab.1).bind λv=>some [v]).bind λwg=>
       (A.aq F4 wg zQ).bind λzP=>
       (A.add (aj kj 2) (AV.ah 1)).bind λGa=>
       some (AX.normal,[(aj kg.2.1 0),(AV.lbx zP),Ga],Ab.2))else
      none) (
      some (AX.exit 6,[(aj kj 0),(aj kj 1),(aj kj 2)],uZ)))) [u,.lbx [vl,un,vp,vo,pl],.ah (i:Int)] w=some (.normal,[u,.lbx [vl,un,vp,gy,pl],.ah ((i+1:Nat):Int)],w')∧Hs bY aK w' (Sl yw 2 gy (s.cM.take i++[x])*R):=by
   simp only[bW,cA];rw[kU hx,bS,dr,jG hx,bS,oD,bS,show A.aB 0 2 (fA x)=some (.agg (fA x))from rfl,bS,show A.cells 2 (.agg (fA x))=some (fA x)from rfl,bS,show A.aq 0 (fA x) [(AV.ah 0),AV.az]=some (fA x)from rfl,bS,Sd,bS];obtain⟨pv,w1,c1,c2,c3⟩:=aoO hpb.1 K;have Ao:=abZ c3;rw[c1,bS];simp only;rw[show((A.cell pv).bind λv=>some [v])=some [pv]from by rw[c2];rfl,bS,show A.aq 1 [pv] (fA x)=some [.ah x.aC,pv]from rfl,bS,show A.ak 1 [.ah x.aC,pv]=some pv from c2,bS,Ao.len,bS];refine La (am4 hpb.2 hpb.1 Ao _ _) ?_;simp only[oa,bW,cA,ji,bS];have Ly:=Cj K;rw[show A.ak 3 [vl,un,vp,vo,pl]=some vo from Ly,bS,show A.aB 0 2 [.ah x.aC,pv]=some (.agg [.ah x.aC,pv])from rfl,bS,amp,bS];obtain⟨gy,w2,f1,f2⟩:=On (most:=140737488355328 / 32) (E:=yw) (l:=s.cM.take i) (v:=vo) (e:=[.ah x.aC,pv]) (x:=x) (R:=R) (by rw[qv];omega) (dw (by ac_rfl) (adG.2 ⟨pv,rfl,c3⟩));rw[f1,bS];simp only;rw[show((A.cell gy).bind λv=>some [v])=some [gy]from by rw[Cj f2];rfl,bS,show A.aq 3 [gy] [vl,un,vp,vo,pl]=some [vl,un,vp,gy,pl]from rfl,bS,gY hx (by unfold bg;omega),bS];exact⟨gy,w2,rfl,f2⟩
  obtain⟨gy,w',s1,s2⟩:=step;refine .inl ⟨s.cM.length-(i+1),_,_,by omega,s1,i+1,gy,h,rfl,rfl,?_⟩;rw[List.take_add_one,hx];exact s2
 ·have:i=s.cM.length:=by omega
  subst this;rw[List.take_length]at K;refine .inr ⟨(.exit 6,[u,.lbx [vl,un,vp,vo,pl],.ah (s.cM.length:Int)],w),?_,by simp,vo,w,rfl,K⟩;simp only[bW,cA];rw[kS,bS,cR]
end
theorem alj{s:iQ}(hb:Iq s)(σ:Heap):M9 [.agg (bK s)] σ=some (.agg (bK s),σ):=by
 suffices h:∃v,A.nn (.a [(.e 3 FG),(.s 4),(.e 3 [.k,.k,(.s 3)]),(.e 2 [.k,ve]),(.s 3)]) v=.agg (bK s)∧Rk (.agg (bK s)) σ=some (v,σ) by obtain⟨v,h1,h2⟩:=h;exact Fj rfl (kI (sL rfl) rfl) h1 h2
 unfold Rk;have hu:=hb.un;have hpl:=hb.pl;rw[show A.cells 5 (.agg (bK s))=some (bK s)from rfl,bS,show A.ak 4 (bK s)=some (sl 3 dh s.bU)from rfl,bS,E5 (most:=140737488355328 / 24) (m:=Qb) (r0:=Qc) Rm rfl (λ_ _=>rfl) (by omega) σ,bS];simp only;rw[show((((A.cell (sl 3 dh s.bU)).bind λv=>some [v]).bind λc4=>(A.aq 4 c4 Cr).bind λc5=>some c5).bind λcs=>some (AV.agg cs))=some (.agg [AV.az,AV.az,AV.az,AV.az,sl 3 dh s.bU])from rfl,bS,show A.cells 5 (.agg [AV.az,AV.az,AV.az,AV.az,sl 3 dh s.bU])=some [AV.az,AV.az,AV.az,AV.az,sl 3 dh s.bU]from rfl,bS,show A.aq 0 [AV.az,AV.az,AV.az,AV.az,sl 3 dh s.bU] Cr=some [AV.az,AV.az,AV.az,AV.az,sl 3 dh s.bU]from rfl,bS,show A.ak 1 (bK s)=some (sl 4 cO s.aZ.dB)from rfl,bS,E5 (most:=140737488355328 / 40) (m:=Qh) (r0:=Qj) SZ rfl (λ_ _=>rfl) (by omega) σ,bS];simp only;rw[show((A.cell (sl 4 cO s.aZ.dB)).bind λv=>some [v])=some [sl 4 cO s.aZ.dB]from rfl,bS,show A.aq 1 [sl 4 cO s.aZ.dB] [AV.az,AV.az,AV.az,AV.az,sl 3 dh s.bU]=some [AV.az,sl 4 cO s.aZ.dB,AV.az,AV.az,sl 3 dh s.bU]from rfl,bS,YC,bS,gH,bS];obtain⟨v1,W1,l1,K1⟩:=apK hb (R:=emp) (Ig (B:=bY) σ) (sl 4 cO s.aZ.dB) (sl 3 dh s.bU) (.lbx Cr);refine UM l1 ?_;simp only[oa,bW,cA,ji,bS];rw[show A.ak 2 (bK s)=some (sl 3 ff s.cq)from rfl,bS,gH,bS];obtain⟨v2,W2,l2,K2⟩:=apL hb K1 v1 (sl 4 cO s.aZ.dB) (sl 3 dh s.bU) (.lbx Cr) (Cj K1);refine UM l2 ?_;simp only[oa,bW,cA,ji,bS];rw[show A.ak 3 (bK s)=some (sl 2 fA s.cM)from rfl,bS,gH,bS];obtain⟨v3,W3,l3,K3⟩:=apM hb K2 v1 (sl 4 cO s.aZ.dB) v2 (sl 3 dh s.bU) (.lbx Cr);refine UM l3 ?_;simp only[oa,bW,cA,ji,bS];rw[show A.aB 0 5 [v1,sl 4 cO s.aZ.dB,v2,v3,sl 3 dh s.bU]=some (.agg [v1,sl 4 cO s.aZ.dB,v2,v3,sl 3 dh s.bU])from rfl,bS,show A.cells 5 (.agg [v1,sl 4 cO s.aZ.dB,v2,v3,sl 3 dh s.bU])=some [v1,sl 4 cO s.aZ.dB,v2,v3,sl 3 dh s.bU]from rfl,bS,show A.aq 0 [v1,sl 4 cO s.aZ.dB,v2,v3,sl 3 dh s.bU] Cr=some [v1,sl 4 cO s.aZ.dB,v2,v3,sl 3 dh s.bU]from rfl,bS,show A.aB 0 5 [v1,sl 4 cO s.aZ.dB,v2,v3,sl 3 dh s.bU]=some (.agg [v1,sl 4 cO s.aZ.dB,v2,v3,sl 3 dh s.bU])from rfl,bS];have J1:=dw (show _=Sl yx 3 v1 s.aZ.bw*(Sl yw 2 v3 s.cM*(Sl (fl ff) 3 v2 s.cq*emp)) by ac_rfl) K3;have J2:=dw (show _=Sl (fl ff) 3 v2 s.cq*(Sl yw 2 v3 s.cM*(Sl yx 3 v1 s.aZ.bw*emp)) by ac_rfl) K3;obtain⟨v1',a1,a2⟩:=aml J1 (bD _) 6;obtain⟨v2',b1,b2⟩:=Ts J2 YU (bD _) 7;obtain⟨v3',c1,c2⟩:=al4 K3 (bD _) 6;refine⟨.agg [v1',sl 4 cO s.aZ.dB,v2',v3',sl 3 dh s.bU],?_,Kq K3 ?_ ?_⟩
 ·have BE:A.nn (.e 3 [.k,.k,(.s 3)]) v2'=sl 3 ff s.cq:=by
   rcases b2 with⟨h,rfl|rfl⟩|rfl
   ·rw[h];rfl
   ·rw[h];rfl
   ·exact xy (λ_=>rfl) _
  show AV.agg (A.cG [(.e 3 [.k,.k,(.e 7 O8)]),(.s 4),(.e 3 [.k,.k,(.s 3)]),(.e 2 [.k,(.e 11 Iu)]),(.s 3)] _)=_;simp only[A.cG,a2,BE,c2];rfl
 ·simp only[A.bG,A.ga,a1,b1,c1,rA SZ _ W3 σ.length 8,rA Rm _ W3 σ.length 8,aX,bZ]
 ·intro e
  have n1:v1'=v1:=by
   rcases BX J1 with⟨_,rfl|rfl,_⟩|⟨id,g,seg,rfl,hl,K⟩
   ·simp [A.bG]at a1;exact a1.symm
   ·simp [A.bG]at a1;exact a1.symm
   ·obtain⟨k1,k2⟩:=jx K;have:=(bM.1 k2).1;subst e;omega
  have n2:v2'=v2:=by
   rcases BX J2 with⟨_,rfl|rfl,_⟩|⟨id,g,seg,rfl,hl,K⟩
   ·simp [A.bG]at b1;exact b1.symm
   ·simp [A.bG]at b1;exact b1.symm
   ·obtain⟨k1,k2⟩:=jx K;have:=(bM.1 k2).1;subst e;omega
  have n3:v3'=v3:=by
   rcases BX K3 with⟨_,rfl|rfl,_⟩|⟨id,g,seg,rfl,hl,K⟩
   ·simp [A.bG]at c1;exact c1.symm
   ·simp [A.bG]at c1;exact c1.symm
   ·obtain⟨k1,k2⟩:=jx K;have:=(bM.1 k2).1;subst e;omega
  rw[n1,n2,n3]
end
section
set_option maxRecDepth 100000
open HP
theorem ajE{l:List rj}(h:B6 l=0):l.length≤30:=by
 unfold B6 at h;split at h
 ·cases h
 ·omega
theorem abn(size:Int):∀(l pre:List fS),Eg size pre l=0→∀x∈l,(0≤x.default∧x.default≤65535)∧x.ranges.length≤30
 |[],pre,h,x,hx=>by simp at hx
 |y::l,pre,h,x,hx=>by
  rw[akl]at h;by_cases h0:KX size pre y=0;case neg=>rw[aP h0]at h;exact absurd h h0
  rw[aQ h0]at h;rcases jY.1 hx with rfl|hx
  ·unfold KX at h0;split at h0
   ·cases h0
   split at h0
   ·cases h0
   split at h0
   ·cases h0
   split at h0
   ·cases h0
   rename_i h4;split at h0
   ·cases h0
   refine⟨?_,ajE h0⟩;cases q:bf x.default 0 65535
   ·exact absurd (.inr (.inr q)) h4
   ·exact sw q
  ·exact abn size l _ h x hx
theorem abU{p:dZ}(h:tI p=0):p.params.length≤40∧∀x∈p.params,(0≤x.default∧x.default≤65535)∧x.ranges.length≤30:=by
 refine⟨XH h,?_⟩;unfold tI at h;split at h
 ·cases h
 split at h
 ·cases h
 split at h
 ·cases h
 split at h
 ·cases h
 exact abn _ _ _ h
structure Ir (s : iQ) : Prop where
 ok:B4 s
 aZ:mg s.aZ=0
 pre:uL s.aZ s.cq=0
 PU:s.cM.length≤30
 lok:∀l∈s.cM,rY l.bH=0
 pl:s.bU.length≤40
 fnd:∀p∈s.bU,(vR s.cM p.list).2=true
theorem adK{s:iQ}(hs:B4 s)(h:DY s=0):Ir s:=by
 unfold DY at h;by_cases h1:uL s.aZ s.cq=0;case neg=>rw[aQ h1]at h;exact absurd h h1
 rw[aP (λq=>q h1)]at h;split at h
 ·cases h
 rename_i h2;by_cases h3:jZ (Fu s) s.cM 0=0;case neg=>rw[aQ h3]at h;exact absurd h h3
 rw[aP (λq=>q h3)]at h;split at h
 ·cases h
 rename_i h4;refine⟨hs,Rr h1,h1,by omega,λl hl=>?_,by omega,λp hp=>?_⟩
 ·obtain⟨i,hi,e⟩:=List.getElem_of_mem hl;have:=(AR s.cM 0).1 h3 i l (by rw[←e];exact bT hi);unfold Fu at this;split at this
  ·cases this
  split at this
  ·cases this
  unfold O3 at this;rw[aP (λq=>q h1)]at this;by_cases h5:rY l.bH=0
  ·exact h5
  ·rw[aQ h5]at this;exact absurd this h5
 ·obtain⟨i,hi,e⟩:=List.getElem_of_mem hp;have:=(AR s.bU 0).1 h i p (by rw[←e];exact bT hi);unfold O4 at this;split at this
  ·cases this
  split at this
  ·cases this
  split at this
  ·cases this
  rename_i q;simpa using q
theorem aa1{r:je}{cq:List l5}(h:uL r cq=0):cq.length≤200∧∀p∈cq,p.lS.length≤2000∧∀x∈p.lS,0≤x.level∧x.level≤65535:=by
 have hr:=Rr h;unfold uL at h;rw[aP (λq=>q hr)]at h;split at h
 ·cases h
 refine⟨by omega,λp hp=>?_⟩;obtain⟨i,hi,e⟩:=List.getElem_of_mem hp;have h2:=(AR cq 0).1 h i p (by rw[←e];exact bT hi);unfold OF at h2;split at h2
 ·cases h2
 split at h2
 ·cases h2
 split at h2
 ·cases h2
 split at h2
 ·cases h2
 refine⟨by omega,λx hx=>?_⟩;obtain⟨j,hj,e⟩:=List.getElem_of_mem hx;have h3:=(AR p.lS 0).1 h2 j x (by rw[←e];exact bT hj);unfold O7 at h3;split at h3
 ·cases h3
 split at h3
 ·cases h3
 rename_i q;exact sw (by simpa using q)
theorem ao4{r:je}{cq:List l5}(h:uL r cq=0)(k:aG)(v:ow):0≤(zw cq k v).1∧(zw cq k v).1≤65535:=by
 unfold zw;split
 ·simp
 split
 ·simp
 rename_i h2;split
 ·exact sw (by simpa using h2)
 split
 ·simp
 rename_i p hp;split
 ·simp
 rename_i x hx;exact((aa1 h).2 p (Cq hp)).2 x (Cq hx)
theorem Ir.bd{s:iQ}(h:Ir s):Iq s:=by
 have hl:=S7 h.aZ;have hp:=aa1 h.pre;refine⟨?_,λp hp=>?_,?_,⟨by omega,λp q=>by have:=(hp.2 p q).1;omega⟩,by have:=h.PU;omega,λl hl=>?_,by have:=h.pl;omega⟩
 ·unfold zZ at hl;split at hl
  ·cases hl
  ·omega
 ·have:=abU (R6 hl p hp);exact⟨by omega,λq hq=>by have:=(this.2 q hq).2;omega⟩
 ·have hr:=h.aZ;unfold mg at hr;rw[aQ hl]at hr;split at hr
  ·cases hr
  ·omega
 ·have hg:=Oy (h.lok l hl);exact⟨by have:=hg.len;omega,λc hc=>⟨by have:=(hg.mv c hc).1;omega,by have:=hg.pts c hc;omega⟩⟩
def p5(l:List dZ):List (ByteArray×dZ):=l.foldl (λm p=>eH p.name p m) []
def Iv(lm:List (ByteArray×dZ))(u:jH):List fS:=match dM u.kK lm with
 |none=>[]
 |some p=>p.params
def Ul(lm:List (ByteArray×dZ))(m:List (aG×fS))(u:jH):List (aG×fS):=(Iv lm u).foldl (λm x=>eH ⟨u.aC,x.name⟩ x m) m
def CP(r:je):List (aG×fS):=r.dB.foldl (Ul (p5 r.bw)) []
def mZ(s:iQ)(p:nO):bn:=⟨⟨0,0,false⟩,p.aC,p.kH,(vR s.cM p.list).1.bH,-1,65535,-1,none⟩
def mS(s:iQ):bV:=⟨⟨s.bU.map (mZ s),0,65535,false⟩,s,pX s.aZ,some (CP s.aZ),[]⟩
theorem Td{κ ν:Type}[DecidableEq κ]{P:ν→Prop}{k:κ}{v:ν}(hv:P v):∀{l:List (κ×ν)},(∀p∈l,P p.2)→∀p∈eH k v l,P p.2
 |[],_,p,hp=>by simp [eH]at hp;rw[hp];exact hv
 |(k',v')::r,h,p,hp=>by
  rw[eH]at hp;split at hp
  ·rcases jY.1 hp with rfl|hp
   ·exact hv
   ·exact h p (by simp [hp])
  ·rcases jY.1 hp with rfl|hp
   ·exact h _ (by simp)
   ·exact Td hv (λp hp=>h p (by simp [hp])) p hp
theorem NK{α β:Type}{P:β→Prop}{f:β→α→β}:∀(l:List α)(b:β),P b→(∀b,P b→∀x∈l,P (f b x))→P (l.foldl f b)
 |[],b,h,_=>h
 |x::l,b,h,k=>NK l (f b x) (k b h x (by simp)) λb hb y hy=>k b hb y (by simp [hy])
theorem aaP{P:dZ→Prop}{l:List dZ}(h:∀p∈l,P p):∀p∈p5 l,P p.2:=by unfold p5;exact NK (P:=λm:List (ByteArray×dZ)=>∀p∈m,P p.2) l [] (by simp) λm hm x hx=>Td (h x hx) hm
theorem ami{P:fS→Prop}{r:je}(h:∀p∈r.bw,∀x∈p.params,P x):∀p∈CP r,P p.2:=by
 unfold CP;refine NK (P:=λm:List (aG×fS)=>∀p∈m,P p.2) r.dB [] (by simp) λm hm u hu=>?_
 unfold Ul;refine NK (P:=λm:List (aG×fS)=>∀p∈m,P p.2) _ m hm λm hm x hx=>Td ?_ hm
 unfold Iv at hx;cases hf:dM u.kK (p5 r.bw)with
 |none=>rw[hf]at hx;simp at hx
 |some p=>rw[hf]at hx;exact aaP (P:=λp=>∀x∈p.params,P x) h _ (Ix hf) x hx
theorem ajg{l:List kL}{n:Int}(h:(vR l n).2=true):(vR l n).1∈l:=by
 unfold vR at h ⊢;cases hf:l.find? (λx=>decide (x.aC=n))with
 |none=>rw[hf]at h;cases h
 |some x=>exact Cq hf
theorem ame{s:iQ}(h:Ir s):tZ (mS s):=by
 obtain⟨hr,hp,hl,hb⟩:=h.ok;refine⟨⟨hp,ao4 h.pre,λk=>?_⟩,⟨⟨Int.le_refl _,by show(0:Int)≤_;decide⟩,?_,λb hb=>?_,by show(0:Int)≤65535∧(65535:Int)≤65535;decide⟩,?_,by show 0≤5000;decide,rfl⟩
 ·unfold gC;cases hf:dM k ((mS s).params.getD [])with
  |none=>simp
  |some x=>exact ami (P:=λx=>0≤x.default∧x.default≤65535) (λp hp x hx=>((abU (R6 (S7 h.aZ) p hp)).2 x hx).1) _ (Ix hf)
 ·show(s.bU.map (mZ s)).length≤40;rw[List.length_map];exact h.pl
 ·obtain⟨p,hp,rfl⟩:=gB.1 hb;have hm:=ajg (h.fnd p hp);refine{uA:=(hl.2 _ hm).2,eo:=h.lok _ hm,can:=λl e=>?_,runs:=λk r q=>?_,iK:=?_,sX:=?_,cm:=?_,Ew:=?_}
  ·simp [mZ]at e
  ·simp [mZ]at q
  ·show(0:Int)≤65535∧(65535:Int)≤65535;decide
  ·show(0:Int)≤0∧(0:Int)≤0∧(0:Int)≤0;decide
  ·show(-1:Int)≤-1∧(-1:Int)<(((vR s.cM p.list).1.bH.length:Nat):Int);omega
  ·left;show(-1:Int)<0;decide
 ·show(s.bU.map (mZ s)).map (·.aC)=_;rw[List.map_map];rfl
theorem ZR{s:iQ}(h:Ir s):(mS s).keys.length≤1000000:=by have:=S2 h.aZ;show(pX s.aZ).length≤_;omega
section
variable {aK σ : Heap} {R : HP}
section
variable {κ ν : Type} [DecidableEq κ] {ek : A.EK} {eK : κ → AV} {eV : ν → AV} {B : aS → Prop} {id : Nat} {l : List (κ × ν)}
theorem adV(hq:∀a b,A.fM ek (eK a) (eK b)=some (decide (a=b))){x:κ}(hok:A.lq ek (eK x)=true)(v:ν)(H:Hs bY aK σ (blk id (.map (l.map λp=>(eK p.1,eV p.2)))*R)):∃σ',A.fV ek (.om id) (eK x) (eV v) σ=some σ'∧Hs bY aK σ' (blk id (.map ((eH x v l).map λp=>(eK p.1,eV p.2)))*R):=by refine⟨σ.set id (.map ((eH x v l).map λp=>(eK p.1,eV p.2))),?_,Cb H trivial⟩;simp only[A.fV,hok,ck,(jx H).2,FE hq,bZ]
theorem apA(hq:∀a b,A.fM ek (eK a) (eK b)=some (decide (a=b))){x:κ}(hok:A.lq ek (eK x)=true)(z:AV)(H:Hs B aK σ (blk id (.map (l.map λp=>(eK p.1,eV p.2)))*R)):A.look ek (.om id) (eK x) z σ=some (((dM x l).map eV).getD z):=by simp only[A.look,hok,ck,A.entries,(jx H).2,aX,DU hq,bZ]
end
def yH(p:ByteArray×dZ):AV×AV:=(.str p.1,.agg (dm p.2))
theorem aqd{s:iQ}(hl:s.aZ.bw.length≤1000000){oH:Nat}(H:Hs bY aK σ (blk oH (.map (([]:List (ByteArray×dZ)).map yH))*R)):∃W,A.loop ((λv31 vH=>
    (A.lss (aj v31 1) (AV.ah (s.aZ.bw.length:Int))).bind λx34=>
    A.cond x34 (
     (A.aY 3 (sl 3 dm s.aZ.bw) (aj v31 1)).bind λjc=>
     ((A.deref jc vH).bind λjJ=>A.aB 0 3 jJ).bind λcK=>
     (A.cells 3 cK).bind λlY=>
     (A.aq 0 lY [bA,(AV.ah 0),AV.az]).bind λoC=>
     (A.ak 0 oC).bind λdV=>
     (A.aB 0 3 oC).bind λeX=>
     (A.fV .z (AV.om oH) dV eX vH).bind λLD=>
     (A.add (aj v31 1) (AV.ah 1)).bind λfk=>
     some (AX.normal,[(aj v31 0),fk],LD)) (
     some (AX.exit 0,[(aj v31 0),(aj v31 1)],vH)))) [.lbx (bK s),.ah 0] σ=some (.exit 0,[.lbx (bK s),.ah (s.aZ.bw.length:Int)],W)∧Hs bY aK W (blk oH (.map ((p5 s.aZ.bw).map yH))*R):=by
 suffices h:∃q,A.loop ((λv31 vH=>
    (A.lss (aj v31 1) (AV.ah (s.aZ.bw.length:Int))).bind λx34=>
    A.cond x34 (
     (A.aY 3 (sl 3 dm s.aZ.bw) (aj v31 1)).bind λjc=>
     ((A.deref jc vH).bind λjJ=>A.aB 0 3 jJ).bind λcK=>
     (A.cells 3 cK).bind λlY=>
     (A.aq 0 lY [bA,(AV.ah 0),AV.az]).bind λoC=>
     (A.ak 0 oC).bind λdV=>
     (A.aB 0 3 oC).bind λeX=>
     (A.fV .z (AV.om oH) dV eX vH).bind λLD=>
     (A.add (aj v31 1) (AV.ah 1)).bind λfk=>
     some (AX.normal,[(aj v31 0),fk],LD)) (
     some (AX.exit 0,[(aj v31 0),(aj v31 1)],vH)))) [.lbx (bK s),.ah 0] σ=some q∧∃W,q=(.exit 0,[.lbx (bK s),.ah (s.aZ.bw.length:Int)],W)∧Hs bY aK W (blk oH (.map ((p5 s.aZ.bw).map yH))*R) by
  obtain⟨q,e,W,rfl,K⟩:=h;exact⟨W,e,K⟩
 refine ou (λz v w=>∃(i:Nat)(m:List (ByteArray×dZ)),i≤s.aZ.bw.length∧v=[.lbx (bK s),.ah (i:Int)]∧z=s.aZ.bw.length-i∧(s.aZ.bw.drop i).foldl (λm p=>eH p.name p m) m=p5 s.aZ.bw∧Hs bY aK w (blk oH (.map (m.map yH))*R)) ?_ (n:=s.aZ.bw.length) ⟨0,[],kY _,rfl,rfl,rfl,H⟩;rintro z v w ⟨i,m,hi,rfl,hz,hT,K⟩;by_cases h:i<s.aZ.bw.length
 ·obtain⟨x,dz⟩:∃x,x=s.aZ.bw[i]:=⟨_,rfl⟩
  have hx:s.aZ.bw[i]? =some x:=by rw[dz];exact bT h
  rw[List.drop_eq_getElem_cons h,←dz]at hT;obtain⟨w',u1,u2⟩:=adV (ek:=.z) (eK:=λb:ByteArray=>AV.str b) (eV:=λp:dZ=>AV.agg (dm p)) (l:=m) abt (x:=x.name) rfl x K;refine .inl ⟨s.aZ.bw.length-(i+1),_,w',by omega,?_,i+1,eH x.name x m,h,rfl,rfl,hT,u2⟩;simp only[bW,cA];rw[kU hx,bS,dr,jG hx,bS,oD,bS,show A.aB 0 3 (dm x)=some (.agg (dm x))from rfl,bS,show A.cells 3 (.agg (dm x))=some (dm x)from rfl,bS,show A.aq 0 (dm x) [bA,(AV.ah 0),AV.az]=some (dm x)from rfl,bS,tu,bS,show A.aB 0 3 (dm x)=some (.agg (dm x))from rfl,bS,u1,bS,gY hx (by unfold bg;omega),bS]
 ·have:i=s.aZ.bw.length:=by omega
  subst this;rw[List.drop_length]at hT;simp only[List.foldl_nil]at hT;rw[hT]at K;refine .inr ⟨(.exit 0,[.lbx (bK s),.ah (s.aZ.bw.length:Int)],w),?_,by simp,w,rfl,K⟩;simp only[bW,cA];rw[kS,bS,cR]
theorem anJ(n:Int)(b:ByteArray):((((A.cell (.ah n)).bind λv=>some [v]).bind λpH=>(A.aq 0 pH [(AV.ah 0),bA]).bind λnu=>((A.cell (.str b)).bind λv=>some [v]).bind λmC=>(A.aq 1 mC nu).bind λjf=>some jf).bind λcs=>some (AV.agg cs))=some (.agg (aT ⟨n,b⟩)):=rfl
theorem ao9{s : iQ}{u : jH}{ps : List fS}(hl : ps.length ≤ 1000000){id bl : Nat}{cs : au}(hc : cs[10]? = some (.om bl))(m : List (aG × fS))(H : Hs bY aK σ (blk bl (.map (m.map jl)) * (blk id (.box cs) * R))) : ∃ W, A.loop ((λv64 i7 =>
        (A.lss (aj v64 2) (AV.ah (ps.length:Int))).bind λkC=>
        A.cond kC (
         (A.aY 7 (sl 7 gA ps) (aj v64 2)).bind λiI=>
         ((A.deref iI i7).bind λnW=>A.aB 0 7 nW).bind λgM=>
         (A.cells 7 gM).bind λnK=>
         (A.aq 0 nK [bA,(AV.ah 0),(AV.ah 0),(AV.ah 0),(AV.ah 0),aO,AV.az]).bind λlN=>
         (A.aU (AV.op id 0)).bind λiz=>
         (A.aF 10 iz).bind λjr=>
         ((A.deref jr i7).bind λnX=>A.ak 0 nX).bind λkD=>
         ((A.lb (aj v64 1)).bind λ_=>some (0)).bind λpL=>
         ((A.lb (aj v64 1)).bind λnr=>A.ak pL nr).bind λkE=>
         (A.ak 0 lN).bind λgm=>
         ((((A.cell kE).bind λv=>some [v]).bind λpH=>(A.aq 0 pH [(AV.ah 0),bA]).bind λnu=>((A.cell gm).bind λv=>some [v]).bind λmC=>(A.aq 1 mC nu).bind λjf=>some jf).bind λcs=>some (AV.agg cs)).bind λkF=>
         (A.aB 0 7 lN).bind λlH=>
         (A.fV (.s [0,2]) kD kF lH i7).bind λxO=>
         (A.add (aj v64 2) (AV.ah 1)).bind λkG=>
         some (AX.normal,[(aj v64 0),(aj v64 1),kG],xO)) (
         some (AX.exit 4,[(aj v64 0),(aj v64 1),(aj v64 2)],i7)))) [.lbx (bK s),.lbx (cO u),.ah 0] σ=some (.exit 4,[.lbx (bK s),.lbx (cO u),.ah (ps.length:Int)],W)∧Hs bY aK W (blk bl (.map ((ps.foldl (λm x=>eH ⟨u.aC,x.name⟩ x m) m).map jl))*(blk id (.box cs)*R)):=by
 suffices h:∃q,A.loop ((λv64 i7=>
        (A.lss (aj v64 2) (AV.ah (ps.length:Int))).bind λkC=>
        A.cond kC (
         (A.aY 7 (sl 7 gA ps) (aj v64 2)).bind λiI=>
         ((A.deref iI i7).bind λnW=>A.aB 0 7 nW).bind λgM=>
         (A.cells 7 gM).bind λnK=>
         (A.aq 0 nK [bA,(AV.ah 0),(AV.ah 0),(AV.ah 0),(AV.ah 0),aO,AV.az]).bind λlN=>
         (A.aU (AV.op id 0)).bind λiz=>
         (A.aF 10 iz).bind λjr=>
         ((A.deref jr i7).bind λnX=>A.ak 0 nX).bind λkD=>
         ((A.lb (aj v64 1)).bind λ_=>some (0)).bind λpL=>
         ((A.lb (aj v64 1)).bind λnr=>A.ak pL nr).bind λkE=>
         (A.ak 0 lN).bind λgm=>
         ((((A.cell kE).bind λv=>some [v]).bind λpH=>(A.aq 0 pH [(AV.ah 0),bA]).bind λnu=>((A.cell gm).bind λv=>some [v]).bind λmC=>(A.aq 1 mC nu).bind λjf=>some jf).bind λcs=>some (AV.agg cs)).bind λkF=>
         (A.aB 0 7 lN).bind λlH=>
         (A.fV (.s [0,2]) kD kF lH i7).bind λxO=>
         (A.add (aj v64 2) (AV.ah 1)).bind λkG=>
         some (AX.normal,[(aj v64 0),(aj v64 1),kG],xO)) (
         some (AX.exit 4,[(aj v64 0),(aj v64 1),(aj v64 2)],i7)))) [.lbx (bK s),.lbx (cO u),.ah 0] σ=some q∧∃W,q=(.exit 4,[.lbx (bK s),.lbx (cO u),.ah (ps.length:Int)],W)∧Hs bY aK W (blk bl (.map ((ps.foldl (λm x=>eH ⟨u.aC,x.name⟩ x m) m).map jl))*(blk id (.box cs)*R)) by
  obtain⟨q,e,W,rfl,K⟩:=h;exact⟨W,e,K⟩
 obtain⟨fm,hfm⟩:∃fm,fm=ps.foldl (λm x=>eH (⟨u.aC,x.name⟩:aG) x m) m:=⟨_,rfl⟩
 rw[←hfm];refine ou (λz v w=>∃(i:Nat)(m:List (aG×fS)),i≤ps.length∧v=[.lbx (bK s),.lbx (cO u),.ah (i:Int)]∧z=ps.length-i∧(ps.drop i).foldl (λm x=>eH ⟨u.aC,x.name⟩ x m) m=fm∧Hs bY aK w (blk bl (.map (m.map jl))*(blk id (.box cs)*R))) ?_ (n:=ps.length) ⟨0,m,kY _,rfl,rfl,hfm.symm,H⟩;rintro z v w ⟨i,m,hi,rfl,hz,hT,K⟩;by_cases h:i<ps.length
 ·obtain⟨x,dz⟩:∃x,x=ps[i]:=⟨_,rfl⟩
  have hx:ps[i]? =some x:=by rw[dz];exact bT h
  rw[List.drop_eq_getElem_cons h,←dz]at hT;obtain⟨w',u1,u2⟩:=adV (ek:=.s [0,2]) (eK:=λk:aG=>AV.agg (aT k)) (eV:=λp:fS=>AV.agg (gA p)) (l:=m) tL (x:=⟨u.aC,x.name⟩) rfl x K;have hb:=(jx (dw (show _=blk id (.box cs)*(blk bl (.map (m.map jl))*R) by ac_rfl) K)).2;refine .inl ⟨ps.length-(i+1),_,w',by omega,?_,i+1,_,h,rfl,rfl,hT,u2⟩;simp only[bW,cA];rw[kU hx,bS,dr,jG hx,bS,oD,bS,show A.aB 0 7 (gA x)=some (.agg (gA x))from rfl,bS,show A.cells 7 (.agg (gA x))=some (gA x)from rfl,bS,show A.aq 0 (gA x) [bA,(AV.ah 0),(AV.ah 0),(AV.ah 0),(AV.ah 0),aO,AV.az]=some (gA x)from rfl,bS,show A.aU (.op id 0)=some (.op id 0)from rfl,bS,show A.aF 10 (.op id 0)=some (.op id 10)from by simp [A.aF],bS,show((A.deref (.op id 10) w).bind λnX=>A.ak 0 nX)=some (.om bl)from by simp only[A.deref,hb,aX,A.ak,List.getElem?_drop,Nat.add_zero,hc];rfl,bS,ji,bS,bS,bS,show A.ak 0 (cO u)=some (.ah u.aC)from rfl,bS,Nk,bS,anJ,bS,show A.aB 0 7 (gA x)=some (.agg (gA x))from rfl,bS,u1,bS,gY hx (by unfold bg;omega),bS]
 ·have:i=ps.length:=by omega
  subst this;rw[List.drop_length]at hT;simp only[List.foldl_nil]at hT;rw[hT]at K;refine .inr ⟨(.exit 4,[.lbx (bK s),.lbx (cO u),.ah (ps.length:Int)],w),?_,by simp,w,rfl,K⟩;simp only[bW,cA];rw[kS,bS,cR]
theorem aaS{f:au→Heap→Option LS}{v:au}{σ:Heap}{r:LS}(h:f v σ=some r)(hr:r.1≠.normal):A.loop f v σ=some r:=by obtain⟨n,hn⟩:=yf h hr;exact E1 hn
theorem aqw{qU uE xY ze β:Type}{X:Option qU}{f:qU→Option uE}{g:qU→uE→Option xY}{h:qU→uE→xY→Option ze}{v:ze}{k:qU→uE→xY→ze→Option β}{k':ze→Option β}{r:Option β}(e:(X.bind λx=>(f x).bind λy=>(g x y).bind λz=>h x y z)=some v) (hk:k' v=r) (hkk:k=λ_ _ _=>k':=by rfl):(X.bind λx=>(f x).bind λy=>(g x y).bind λz=>(h x y z).bind (k x y z))=r:=by subst hkk;obtain⟨x,hx,e⟩:=bO.1 e;obtain⟨y,hy,e⟩:=bO.1 e;obtain⟨z,hz,e⟩:=bO.1 e;rw[hx,aX,hy,aX,hz,aX,e,aX];exact hk
theorem aqe{s:iQ}(hb:Iq s){id bl oH:Nat}{cs:au}(hc:cs[10]? =some (.om bl))(H:Hs bY aK σ (blk bl (.map (([]:List (aG×fS)).map jl))*(blk id (.box cs)*(blk oH (.map ((p5 s.aZ.bw).map yH))*R)))):∃W,A.loop ((λv50 wJ=>
     (A.lss (aj v50 1) (AV.ah (s.aZ.dB.length:Int))).bind λiy=>
     A.cond iy (
      (A.aY 4 (sl 4 cO s.aZ.dB) (aj v50 1)).bind λgL=>
      ((A.deref gL wJ).bind λjS=>A.aB 0 4 jS).bind λfH=>
      (A.cells 4 fH).bind λjo=>
      (A.aq 0 jo [(AV.ah 0),bA,(AV.ah 0),(AV.ah 0)]).bind λjh=>
      (A.ak 1 jh).bind λfK=>
      (A.look .z (AV.om oH) fK (AV.agg [bA,(AV.ah 0),AV.az]) wJ).bind λjE=>
      ((A.cells 3 jE).bind λnj=>A.ak 2 nj).bind λfc=>
      (A.bR fc).bind λgW=>
      (A.loop (λv64 i7=>
        (A.lss (aj v64 2) gW).bind λkC=>
        A.cond kC (
         (A.aY 7 fc (aj v64 2)).bind λiI=>
         ((A.deref iI i7).bind λnW=>A.aB 0 7 nW).bind λgM=>
         (A.cells 7 gM).bind λnK=>
         (A.aq 0 nK [bA,(AV.ah 0),(AV.ah 0),(AV.ah 0),(AV.ah 0),aO,AV.az]).bind λlN=>
         (A.aU (AV.op id 0)).bind λiz=>
         (A.aF 10 iz).bind λjr=>
         ((A.deref jr i7).bind λnX=>A.ak 0 nX).bind λkD=>
         ((A.lb (aj v64 1)).bind λ_=>some (0)).bind λpL=>
         ((A.lb (aj v64 1)).bind λnr=>A.ak pL nr).bind λkE=>
         (A.ak 0 lN).bind λgm=>
         ((((A.cell kE).bind λv=>some [v]).bind λpH=>(A.aq 0 pH [(AV.ah 0),bA]).bind λnu=>((A.cell gm).bind λv=>some [v]).bind λmC=>(A.aq 1 mC nu).bind λjf=>some jf).bind λcs=>some (AV.agg cs)).bind λkF=>
         (A.aB 0 7 lN).bind λlH=>
         (A.fV (.s [0,2]) kD kF lH i7).bind λxO=>
         (A.add (aj v64 2) (AV.ah 1)).bind λkG=>
         some (AX.normal,[(aj v64 0),(aj v64 1),kG],xO)) (
         some (AX.exit 4,[(aj v64 0),(aj v64 1),(aj v64 2)],i7))) [(aj v50 0),(AV.lbx jh),(AV.ah 0)] wJ).bind λAF=>
      bif AF.1==AX.exit 4 then(
       (A.add (aj v50 1) (AV.ah 1)).bind λx90=>
       some (AX.normal,[(aj AF.2.1 0),x90],AF.2.2))else
      none) (
      some (AX.exit 2,[(aj v50 0),(aj v50 1)],wJ)))) [.lbx (bK s),.ah 0] σ=some (.exit 2,[.lbx (bK s),.ah (s.aZ.dB.length:Int)],W)∧Hs bY aK W (blk bl (.map ((CP s.aZ).map jl))*(blk id (.box cs)*(blk oH (.map ((p5 s.aZ.bw).map yH))*R))):=by
 suffices h:∃q,A.loop ((λv50 wJ=>
     (A.lss (aj v50 1) (AV.ah (s.aZ.dB.length:Int))).bind λiy=>
     A.cond iy (
      (A.aY 4 (sl 4 cO s.aZ.dB) (aj v50 1)).bind λgL=>
      ((A.deref gL wJ).bind λjS=>A.aB 0 4 jS).bind λfH=>
      (A.cells 4 fH).bind λjo=>
      (A.aq 0 jo [(AV.ah 0),bA,(AV.ah 0),(AV.ah 0)]).bind λjh=>
      (A.ak 1 jh).bind λfK=>
      (A.look .z (AV.om oH) fK (AV.agg [bA,(AV.ah 0),AV.az]) wJ).bind λjE=>
      ((A.cells 3 jE).bind λnj=>A.ak 2 nj).bind λfc=>
      (A.bR fc).bind λgW=>
      (A.loop (λv64 i7=>
        (A.lss (aj v64 2) gW).bind λkC=>
        A.cond kC (
         (A.aY 7 fc (aj v64 2)).bind λiI=>
         ((A.deref iI i7).bind λnW=>A.aB 0 7 nW).bind λgM=>
         (A.cells 7 gM).bind λnK=>
         (A.aq 0 nK [bA,(AV.ah 0),(AV.ah 0),(AV.ah 0),(AV.ah 0),aO,AV.az]).bind λlN=>
         (A.aU (AV.op id 0)).bind λiz=>
         (A.aF 10 iz).bind λjr=>
         ((A.deref jr i7).bind λnX=>A.ak 0 nX).bind λkD=>
         ((A.lb (aj v64 1)).bind λ_=>some (0)).bind λpL=>
         ((A.lb (aj v64 1)).bind λnr=>A.ak pL nr).bind λkE=>
         (A.ak 0 lN).bind λgm=>
         ((((A.cell kE).bind λv=>some [v]).bind λpH=>(A.aq 0 pH [(AV.ah 0),bA]).bind λnu=>((A.cell gm).bind λv=>some [v]).bind λmC=>(A.aq 1 mC nu).bind λjf=>some jf).bind λcs=>some (AV.agg cs)).bind λkF=>
         (A.aB 0 7 lN).bind λlH=>
         (A.fV (.s [0,2]) kD kF lH i7).bind λxO=>
         (A.add (aj v64 2) (AV.ah 1)).bind λkG=>
         some (AX.normal,[(aj v64 0),(aj v64 1),kG],xO)) (
         some (AX.exit 4,[(aj v64 0),(aj v64 1),(aj v64 2)],i7))) [(aj v50 0),(AV.lbx jh),(AV.ah 0)] wJ).bind λAF=>
      bif AF.1==AX.exit 4 then(
       (A.add (aj v50 1) (AV.ah 1)).bind λx90=>
       some (AX.normal,[(aj AF.2.1 0),x90],AF.2.2))else
      none) (
      some (AX.exit 2,[(aj v50 0),(aj v50 1)],wJ)))) [.lbx (bK s),.ah 0] σ=some q∧∃W,q=(.exit 2,[.lbx (bK s),.ah (s.aZ.dB.length:Int)],W)∧Hs bY aK W (blk bl (.map ((CP s.aZ).map jl))*(blk id (.box cs)*(blk oH (.map ((p5 s.aZ.bw).map yH))*R))) by
  obtain⟨q,e,W,rfl,K⟩:=h;exact⟨W,e,K⟩
 have hun:=hb.un;refine ou (λz v w=>∃(i:Nat)(m:List (aG×fS)),i≤s.aZ.dB.length∧v=[.lbx (bK s),.ah (i:Int)]∧z=s.aZ.dB.length-i∧(s.aZ.dB.drop i).foldl (Ul (p5 s.aZ.bw)) m=CP s.aZ∧Hs bY aK w (blk bl (.map (m.map jl))*(blk id (.box cs)*(blk oH (.map ((p5 s.aZ.bw).map yH))*R)))) ?_ (n:=s.aZ.dB.length) ⟨0,[],kY _,rfl,rfl,rfl,H⟩;rintro z v w ⟨i,m,hi,rfl,hz,hT,K⟩;by_cases h:i<s.aZ.dB.length
 ·obtain⟨x,dz⟩:∃x,x=s.aZ.dB[i]:=⟨_,rfl⟩
  have hx:s.aZ.dB[i]? =some x:=by rw[dz];exact bT h
  rw[List.drop_eq_getElem_cons h,←dz]at hT
  have hpl:(Iv (p5 s.aZ.bw) x).length≤1000000:=by
   unfold Iv;cases hf:dM x.kK (p5 s.aZ.bw)with
   |none=>simp
   |some p=>exact aaP (P:=λp=>p.params.length≤1000000) (λp hp=>(hb.par p hp).1) _ (Ix hf)
  obtain⟨w',l1,l2⟩:=ao9 (s:=s) (u:=x) hpl hc m K
  have hlk:((A.look .z (AV.om oH) (.str x.kK) (AV.agg [bA,(AV.ah 0),AV.az]) w).bind λjE=>((A.cells 3 jE).bind λnj=>A.ak 2 nj).bind λfc=>(A.bR fc).bind λgW=>(A.loop ((λv64 i7=>
        (A.lss (aj v64 2) gW).bind λkC=>
        A.cond kC (
         (A.aY 7 fc (aj v64 2)).bind λiI=>
         ((A.deref iI i7).bind λnW=>A.aB 0 7 nW).bind λgM=>
         (A.cells 7 gM).bind λnK=>
         (A.aq 0 nK [bA,(AV.ah 0),(AV.ah 0),(AV.ah 0),(AV.ah 0),aO,AV.az]).bind λlN=>
         (A.aU (AV.op id 0)).bind λiz=>
         (A.aF 10 iz).bind λjr=>
         ((A.deref jr i7).bind λnX=>A.ak 0 nX).bind λkD=>
         ((A.lb (aj v64 1)).bind λ_=>some (0)).bind λpL=>
         ((A.lb (aj v64 1)).bind λnr=>A.ak pL nr).bind λkE=>
         (A.ak 0 lN).bind λgm=>
         ((((A.cell kE).bind λv=>some [v]).bind λpH=>(A.aq 0 pH [(AV.ah 0),bA]).bind λnu=>((A.cell gm).bind λv=>some [v]).bind λmC=>(A.aq 1 mC nu).bind λjf=>some jf).bind λcs=>some (AV.agg cs)).bind λkF=>
         (A.aB 0 7 lN).bind λlH=>
         (A.fV (.s [0,2]) kD kF lH i7).bind λxO=>
         (A.add (aj v64 2) (AV.ah 1)).bind λkG=>
         some (AX.normal,[(aj v64 0),(aj v64 1),kG],xO)) (
         some (AX.exit 4,[(aj v64 0),(aj v64 1),(aj v64 2)],i7)))) [.lbx (bK s),.lbx (cO x),.ah 0] w))=some (.exit 4,[.lbx (bK s),.lbx (cO x),.ah ((Iv (p5 s.aZ.bw) x).length:Int)],w'):=by
   rw[apA (ek:=.z) (eK:=λb:ByteArray=>AV.str b) (eV:=λp:dZ=>AV.agg (dm p)) (l:=p5 s.aZ.bw) abt (x:=x.kK) rfl _ (dw (show _=blk oH (.map ((p5 s.aZ.bw).map yH))*(blk bl (.map (m.map jl))*(blk id (.box cs)*R)) by ac_rfl) K),bS];unfold Iv at l1 ⊢;cases hf:dM x.kK (p5 s.aZ.bw)with
   |none=>
    rw[hf]at l1;simp only[Option.map_none,Option.getD_none];rw[show((A.cells 3 (AV.agg [bA,(AV.ah 0),AV.az])).bind λnj=>A.ak 2 nj)=some .az from rfl,bS,show A.bR .az=some (.ah 0)from rfl,bS]
    have hw:w'=w:=by
     have e0:A.loop ((λv64 i7=>
        (A.lss (aj v64 2) (AV.ah ((([]:List fS).length:Nat):Int))).bind λkC=>
        A.cond kC (
         (A.aY 7 (sl 7 gA ([]:List fS)) (aj v64 2)).bind λiI=>
         ((A.deref iI i7).bind λnW=>A.aB 0 7 nW).bind λgM=>
         (A.cells 7 gM).bind λnK=>
         (A.aq 0 nK [bA,(AV.ah 0),(AV.ah 0),(AV.ah 0),(AV.ah 0),aO,AV.az]).bind λlN=>
         (A.aU (AV.op id 0)).bind λiz=>
         (A.aF 10 iz).bind λjr=>
         ((A.deref jr i7).bind λnX=>A.ak 0 nX).bind λkD=>
         ((A.lb (aj v64 1)).bind λ_=>some (0)).bind λpL=>
         ((A.lb (aj v64 1)).bind λnr=>A.ak pL nr).bind λkE=>
         (A.ak 0 lN).bind λgm=>
         ((((A.cell kE).bind λv=>some [v]).bind λpH=>(A.aq 0 pH [(AV.ah 0),bA]).bind λnu=>((A.cell gm).bind λv=>some [v]).bind λmC=>(A.aq 1 mC nu).bind λjf=>some jf).bind λcs=>some (AV.agg cs)).bind λkF=>
         (A.aB 0 7 lN).bind λlH=>
         (A.fV (.s [0,2]) kD kF lH i7).bind λxO=>
         (A.add (aj v64 2) (AV.ah 1)).bind λkG=>
         some (AX.normal,[(aj v64 0),(aj v64 1),kG],xO)) (
         some (AX.exit 4,[(aj v64 0),(aj v64 1),(aj v64 2)],i7)))) [.lbx (bK s),.lbx (cO x),.ah 0] w=some (.exit 4,[.lbx (bK s),.lbx (cO x),.ah 0],w):=
      aaS rfl (by simp)
     have l1:=e0.symm.trans l1;injection l1 with l1
     exact(congrArg (λz:LS=>z.2.2) l1).symm
    rw[hw];exact aaS rfl (by simp)
   |some p=>rw[hf]at l1;simp only[bZ,Option.getD_some];rw[show((A.cells 3 (AV.agg (dm p))).bind λnj=>A.ak 2 nj)=some (sl 7 gA p.params)from rfl,bS,gH,bS];exact l1
  refine .inl ⟨s.aZ.dB.length-(i+1),_,w',by omega,?_,i+1,_,h,rfl,rfl,hT,l2⟩;simp only[bW,cA];rw[kU hx,bS,dr,jG hx,bS,oD,bS,show A.aB 0 4 (cO x)=some (.agg (cO x))from rfl,bS,show A.cells 4 (.agg (cO x))=some (cO x)from rfl,bS,show A.aq 0 (cO x) [(AV.ah 0),bA,(AV.ah 0),(AV.ah 0)]=some (cO x)from rfl,bS,show A.ak 1 (cO x)=some (.str x.kK)from rfl,bS];refine aqw hlk ?_;simp only[oa,bW,cA];rw[gY hx (by unfold bg;omega),bS]
 ·have:i=s.aZ.dB.length:=by omega
  subst this;rw[List.drop_length]at hT;simp only[List.foldl_nil]at hT;rw[hT]at K;refine .inr ⟨(.exit 2,[.lbx (bK s),.ah (s.aZ.dB.length:Int)],w),?_,by simp,w,rfl,K⟩;simp only[bW,cA];rw[kS,bS,cR]
end
end
section
set_option maxRecDepth 100000
open HP
section
variable {aK σ : Heap} {R : HP}
theorem anI(s:iQ)(p:nO):((((A.cell (.ah p.aC)).bind λv=>some [v]).bind λsD=>(A.aq 3 sD [(AV.ah 0),(AV.ah 0),aO,(AV.ah 0),(AV.ah 0),AV.az,(AV.ah 0),(AV.ah 0),(AV.ah 0),AV.nm]).bind λCw=>((A.cell (.ah p.kH)).bind λv=>some [v]).bind λqw=>(A.aq 4 qw Cw).bind λCx=>((A.cell (sl 11 br (vR s.cM p.list).1.bH)).bind λv=>some [v]).bind λzK=>(A.aq 5 zK Cx).bind λxw=>((A.cell (AV.ah (-1))).bind λv=>some [v]).bind λud=>(A.aq 6 ud xw).bind λnU=>((A.cell (AV.ah 65535)).bind λv=>some [v]).bind λCy=>(A.aq 7 Cy nU).bind λCz=>((A.cell (AV.ah (-1))).bind λv=>some [v]).bind λCA=>(A.aq 8 CA Cz).bind λCB=>some CB).bind λcs=>some (AV.agg cs))=some (.agg (aN (mZ s p))):=rfl
theorem aoe(b:bn):(((A.cells 10 (.agg (aN b))).bind λqx=>(A.aq 0 qx [(AV.ah 0),(AV.ah 0),aO,(AV.ah 0),(AV.ah 0),AV.az,(AV.ah 0),(AV.ah 0),(AV.ah 0),AV.nm]).bind λCC=>some CC).bind λcs=>some (AV.sl 10 (fI 10 1 cs)))=some (.sl 10 [aN b]):=rfl
theorem aod(a:fR):A.aq 0 (cg a) [(AV.ah 0),(AV.ah 0),(AV.ah 0),(AV.ah 0),(AV.ah 0)]=some (cg a):=rfl
theorem aqf{s:iQ}(hs:Ir s){id bl:Nat}(H:Hs bY aK σ (blk id (.box (iR .az bl .az (mS s)))*R)):∃vb W,A.loop ((λlF vK=>
      (A.lss (aj lF 1) (AV.ah (s.bU.length:Int))).bind λx99=>
      A.cond x99 (
       (A.aY 3 (sl 3 dh s.bU) (aj lF 1)).bind λqB=>
       ((A.deref qB vK).bind λsC=>A.aB 0 3 sC).bind λx102=>
       (A.cells 3 x102).bind λCv=>
       (A.aq 0 Cv [(AV.ah 0),(AV.ah 0),(AV.ah 0)]).bind λuV=>
       ((A.lb (aj lF 0)).bind λzJ=>A.aB 0 5 zJ).bind λqC=>
       (A.ak 1 uV).bind λqD=>
       (DC [qC,qD] vK).bind λqA=>
       (A.ext 0 qA.1).bind λqE=>
       (A.ext 1 qA.1).bind λCU=>
       (A.cells 2 qE).bind λoQ=>
       (A.aq 0 oQ [(AV.ah 0),AV.az]).bind λFN=>
       (A.aU (AV.op id 0)).bind λx113=>
       (A.aF 0 x113).bind λx114=>
       (A.aF 0 x114).bind λx115=>
       ((A.deref x115 qA.2).bind λxu=>A.ak 0 xu).bind λsO=>
       (A.ak 0 uV).bind λAc=>
       (A.ak 2 uV).bind λCV=>
       (A.ak 1 FN).bind λCW=>
       ((((A.cell Ac).bind λv=>some [v]).bind λsD=>(A.aq 3 sD [(AV.ah 0),(AV.ah 0),aO,(AV.ah 0),(AV.ah 0),AV.az,(AV.ah 0),(AV.ah 0),(AV.ah 0),AV.nm]).bind λCw=>((A.cell CV).bind λv=>some [v]).bind λqw=>(A.aq 4 qw Cw).bind λCx=>((A.cell CW).bind λv=>some [v]).bind λzK=>(A.aq 5 zK Cx).bind λxw=>((A.cell (AV.ah (-1))).bind λv=>some [v]).bind λud=>(A.aq 6 ud xw).bind λnU=>((A.cell (AV.ah 65535)).bind λv=>some [v]).bind λCy=>(A.aq 7 Cy nU).bind λCz=>((A.cell (AV.ah (-1))).bind λv=>some [v]).bind λCA=>(A.aq 8 CA Cz).bind λCB=>some CB).bind λcs=>some (AV.agg cs)).bind λqF=>
       (((A.cells 10 qF).bind λqx=>(A.aq 0 qx [(AV.ah 0),(AV.ah 0),aO,(AV.ah 0),(AV.ah 0),AV.az,(AV.ah 0),(AV.ah 0),(AV.ah 0),AV.nm]).bind λCC=>some CC).bind λcs=>some (AV.sl 10 (fI 10 1 cs))).bind λqG=>
       (A.append 10 (140737488355328 / 96) sO qG qA.2).bind λAa=>
       (A.aU (AV.op id 0)).bind λoV=>
       (A.aF 0 oV).bind λCX=>
       (A.aF 0 CX).bind λCY=>
       ((A.cell Aa.1).bind λv=>some [v]).bind λFP=>
       (A.storeAt CY FP Aa.2).bind λCD=>
       (A.add (aj lF 1) (AV.ah 1)).bind λoW=>
       some (AX.normal,[(aj lF 0),oW],CD)) (
       some (AX.exit 6,[(aj lF 0),(aj lF 1)],vK)))) [.lbx (bK s),.ah 0] σ=some (.exit 6,[.lbx (bK s),.ah (s.bU.length:Int)],W)∧Hs bY aK W (blk id (.box (iR vb bl .az (mS s)))*(Sl (fl aN) 10 vb (s.bU.map (mZ s))*R)):=by
 suffices h:∃q,A.loop ((λlF vK=>
      (A.lss (aj lF 1) (AV.ah (s.bU.length:Int))).bind λx99=>
      A.cond x99 (
       (A.aY 3 (sl 3 dh s.bU) (aj lF 1)).bind λqB=>
       ((A.deref qB vK).bind λsC=>A.aB 0 3 sC).bind λx102=>
       (A.cells 3 x102).bind λCv=>
       (A.aq 0 Cv [(AV.ah 0),(AV.ah 0),(AV.ah 0)]).bind λuV=>
       ((A.lb (aj lF 0)).bind λzJ=>A.aB 0 5 zJ).bind λqC=>
       (A.ak 1 uV).bind λqD=>
       (DC [qC,qD] vK).bind λqA=>
       (A.ext 0 qA.1).bind λqE=>
       (A.ext 1 qA.1).bind λCU=>
       (A.cells 2 qE).bind λoQ=>
       (A.aq 0 oQ [(AV.ah 0),AV.az]).bind λFN=>
       (A.aU (AV.op id 0)).bind λx113=>
       (A.aF 0 x113).bind λx114=>
       (A.aF 0 x114).bind λx115=>
       ((A.deref x115 qA.2).bind λxu=>A.ak 0 xu).bind λsO=>
       (A.ak 0 uV).bind λAc=>
       (A.ak 2 uV).bind λCV=>
       (A.ak 1 FN).bind λCW=>
       ((((A.cell Ac).bind λv=>some [v]).bind λsD=>(A.aq 3 sD [(AV.ah 0),(AV.ah 0),aO,(AV.ah 0),(AV.ah 0),AV.az,(AV.ah 0),(AV.ah 0),(AV.ah 0),AV.nm]).bind λCw=>((A.cell CV).bind λv=>some [v]).bind λqw=>(A.aq 4 qw Cw).bind λCx=>((A.cell CW).bind λv=>some [v]).bind λzK=>(A.aq 5 zK Cx).bind λxw=>((A.cell (AV.ah (-1))).bind λv=>some [v]).bind λud=>(A.aq 6 ud xw).bind λnU=>((A.cell (AV.ah 65535)).bind λv=>some [v]).bind λCy=>(A.aq 7 Cy nU).bind λCz=>((A.cell (AV.ah (-1))).bind λv=>some [v]).bind λCA=>(A.aq 8 CA Cz).bind λCB=>some CB).bind λcs=>some (AV.agg cs)).bind λqF=>
       (((A.cells 10 qF).bind λqx=>(A.aq 0 qx [(AV.ah 0),(AV.ah 0),aO,(AV.ah 0),(AV.ah 0),AV.az,(AV.ah 0),(AV.ah 0),(AV.ah 0),AV.nm]).bind λCC=>some CC).bind λcs=>some (AV.sl 10 (fI 10 1 cs))).bind λqG=>
       (A.append 10 (140737488355328 / 96) sO qG qA.2).bind λAa=>
       (A.aU (AV.op id 0)).bind λoV=>
       (A.aF 0 oV).bind λCX=>
       (A.aF 0 CX).bind λCY=>
       ((A.cell Aa.1).bind λv=>some [v]).bind λFP=>
       (A.storeAt CY FP Aa.2).bind λCD=>
       (A.add (aj lF 1) (AV.ah 1)).bind λoW=>
       some (AX.normal,[(aj lF 0),oW],CD)) (
       some (AX.exit 6,[(aj lF 0),(aj lF 1)],vK)))) [.lbx (bK s),.ah 0] σ=some q∧∃vb W,q=(.exit 6,[.lbx (bK s),.ah (s.bU.length:Int)],W)∧Hs bY aK W (blk id (.box (iR vb bl .az (mS s)))*(Sl (fl aN) 10 vb (s.bU.map (mZ s))*R)) by
  obtain⟨q,e,vb,W,rfl,K⟩:=h;exact⟨vb,W,e,K⟩
 have hpl:=hs.pl;have wC:s.cM.length≤bg:=by have:=hs.PU;unfold bg;omega
 refine ou (λz v w=>∃(i:Nat)(vb:AV),i≤s.bU.length∧v=[.lbx (bK s),.ah (i:Int)]∧z=s.bU.length-i∧Hs bY aK w (blk id (.box (iR vb bl .az (mS s)))*(Sl (fl aN) 10 vb ((s.bU.take i).map (mZ s))*R))) ?_ (n:=s.bU.length) ⟨0,.az,kY _,rfl,rfl,dw (by ac_rfl) (td (v:=.az) (E:=fl aN) (sz:=10) H (.inl rfl))⟩;rintro z v w ⟨i,vb,hi,rfl,hz,K⟩;by_cases h:i<s.bU.length
 ·obtain⟨x,dz⟩:∃x,x=s.bU[i]:=⟨_,rfl⟩
  have hx:s.bU[i]? =some x:=by rw[dz];exact bT h
  have hb:=(jx K).2
  have step:∃uC w',((λlF vK=>
      (A.lss (aj lF 1) (AV.ah (s.bU.length:Int))).bind λx99=>
      A.cond x99 (
       (A.aY 3 (sl 3 dh s.bU) (aj lF 1)).bind λqB=>
       ((A.deref qB vK).bind λsC=>A.aB 0 3 sC).bind λx102=>
       (A.cells 3 x102).bind λCv=>
       (A.aq 0 Cv [(AV.ah 0),(AV.ah 0),(AV.ah 0)]).bind λuV=>
       ((A.lb (aj lF 0)).bind λzJ=>A.aB 0 5 zJ).bind λqC=>
       (A.ak 1 uV).bind λqD=>
       (DC [qC,qD] vK).bind λqA=>
       (A.ext 0 qA.1).bind λqE=>
       (A.ext 1 qA.1).bind λCU=>
       (A.cells 2 qE).bind λoQ=>
       (A.aq 0 oQ [(AV.ah 0),AV.az]).bind λFN=>
       (A.aU (AV.op id 0)).bind λx113=>
       (A.aF 0 x113).bind λx114=>
       (A.aF 0 x114).bind λx115=>
       ((A.deref x115 qA.2).bind λxu=>A.ak 0 xu).bind λsO=>
       (A.ak 0 uV).bind λAc=>
       (A.ak 2 uV).bind λCV=>
       (A.ak 1 FN).bind λCW=>
       ((((A.cell Ac).bind λv=>some [v]).bind λsD=>(A.aq 3 sD [(AV.ah 0),(AV.ah 0),aO,(AV.ah 0),(AV.ah 0),AV.az,(AV.ah 0),(AV.ah 0),(AV.ah 0),AV.nm]).bind λCw=>((A.cell CV).bind λv=>some [v]).bind λqw=>(A.aq 4 qw Cw).bind λCx=>((A.cell CW).bind λv=>some [v]).bind λzK=>(A.aq 5 zK Cx).bind λxw=>((A.cell (AV.ah (-1))).bind λv=>some [v]).bind λud=>(A.aq 6 ud xw).bind λnU=>((A.cell (AV.ah 65535)).bind λv=>some [v]).bind λCy=>(A.aq 7 Cy nU).bind λCz=>((A.cell (AV.ah (-1))).bind λv=>some [v]).bind λCA=>(A.aq 8 CA Cz).bind λCB=>some CB).bind λcs=>some (AV.agg cs)).bind λqF=>
       (((A.cells 10 qF).bind λqx=>(A.aq 0 qx [(AV.ah 0),(AV.ah 0),aO,(AV.ah 0),(AV.ah 0),AV.az,(AV.ah 0),(AV.ah 0),(AV.ah 0),AV.nm]).bind λCC=>some CC).bind λcs=>some (AV.sl 10 (fI 10 1 cs))).bind λqG=>
       (A.append 10 (140737488355328 / 96) sO qG qA.2).bind λAa=>
       (A.aU (AV.op id 0)).bind λoV=>
       (A.aF 0 oV).bind λCX=>
       (A.aF 0 CX).bind λCY=>
       ((A.cell Aa.1).bind λv=>some [v]).bind λFP=>
       (A.storeAt CY FP Aa.2).bind λCD=>
       (A.add (aj lF 1) (AV.ah 1)).bind λoW=>
       some (AX.normal,[(aj lF 0),oW],CD)) (
       some (AX.exit 6,[(aj lF 0),(aj lF 1)],vK)))) [.lbx (bK s),.ah (i:Int)] w=some (.normal,[.lbx (bK s),.ah ((i+1:Nat):Int)],w')∧Hs bY aK w' (blk id (.box (iR uC bl .az (mS s)))*(Sl (fl aN) 10 uC ((s.bU.take i).map (mZ s)++[mZ s x])*R)):=by
   have K1:=dw (show _=Sl (fl aN) 10 vb ((s.bU.take i).map (mZ s))*(blk id (.box (iR vb bl .az (mS s)))*R) by ac_rfl) K;have cvb:=Cj K1;simp only[bW,cA];rw[kU hx,bS,dr,jG hx,bS,oD,bS,show A.aB 0 3 (dh x)=some (.agg (dh x))from rfl,bS,show A.cells 3 (.agg (dh x))=some (dh x)from rfl,bS,show A.aq 0 (dh x) [(AV.ah 0),(AV.ah 0),(AV.ah 0)]=some (dh x)from rfl,bS,ji,bS,show A.aB 0 5 (bK s)=some (.agg (bK s))from rfl,bS,show A.ak 1 (dh x)=some (.ah x.list)from rfl,bS,Yu (acH s wC x.list),bS];simp only;rw[lW,bS,ext1,bS,show A.cells 2 (.agg (fA (vR s.cM x.list).1))=some (fA (vR s.cM x.list).1)from rfl,bS,show A.aq 0 (fA (vR s.cM x.list).1) [(AV.ah 0),AV.az]=some (fA (vR s.cM x.list).1)from rfl,bS];simp only[show A.aU (.op id 0)=some (.op id 0)from rfl,bS,show A.aF 0 (.op id 0)=some (.op id 0)from rfl];rw[show((A.deref (.op id 0) w).bind λxu=>A.ak 0 xu)=some vb from by simp only[A.deref,hb];exact cvb,bS,show A.ak 0 (dh x)=some (.ah x.aC)from rfl,bS,show A.ak 2 (dh x)=some (.ah x.kH)from rfl,bS,Sd,bS,anI,bS,aoe,bS];obtain⟨uC,w2,f1,f2⟩:=On (most:=140737488355328 / 96) (E:=fl aN) (l:=(s.bU.take i).map (mZ s)) (v:=vb) (e:=aN (mZ s x)) (x:=mZ s x) (R:=blk id (.box (iR vb bl .az (mS s)))*R) (by rw[List.length_map,qv];omega) (dw (by rw[show fl aN (aN (mZ s x)) (mZ s x)=pr (aN (mZ s x)=aN (mZ s x))from rfl];ac_rfl) (oO.2 ⟨(rfl:aN (mZ s x)=aN (mZ s x)),K1⟩));rw[f1,bS];simp only;have f3:=dw (show _=blk id (.box (iR vb bl .az (mS s)))*(Sl (fl aN) 10 uC ((s.bU.take i).map (mZ s)++[mZ s x])*R) by ac_rfl) f2;have vq:=(jx f3).2;have f4:=Cb (b':=.box (iR uC bl .az (mS s))) f3 trivial;rw[show((A.cell uC).bind λv=>some [v])=some [uC]from by rw[Cj f2];rfl,bS,show A.storeAt (.op id 0) [uC] w2=some (w2.set id (.box (iR uC bl .az (mS s))))from by simp only[A.storeAt,vq];rfl,bS,gY hx (by unfold bg;omega),bS];exact⟨uC,_,rfl,f4⟩
  obtain⟨uC,w',s1,s2⟩:=step;refine .inl ⟨s.bU.length-(i+1),_,_,by omega,s1,i+1,uC,h,rfl,rfl,?_⟩;rw[List.take_add_one,hx,Option.toList_some,List.map_append,ef,List.map_nil];exact s2
 ·have:i=s.bU.length:=by omega
  subst this;rw[List.take_length]at K;refine .inr ⟨(.exit 6,[.lbx (bK s),.ah (s.bU.length:Int)],w),?_,by simp,vb,w,rfl,K⟩;simp only[bW,cA];rw[kS,bS,cR]
theorem ab5{gD:List Sh}{r:AV→Heap→aH}{x v:AV}{σ σ':Heap}(ho:A.own x=false)(e1:A.cG gD [x]=[x])(e:r x σ=some (v,σ')):A.wrap true gD .k (A.dH r) [x] σ=some (v,σ'):=by have e2:A.dH r [x] σ=some (v,σ'):=e;simp only[A.wrap,List.any_cons,ho,List.any_nil,Bool.or_self,Bool.and_false,bE,e1,e2,bZ,jC]
theorem ab6{s:iQ}(hs:B4 s)(h:¬DY s=0)(σ:Heap):HD [.agg (bK s)] σ=some (.aM [.np,.ah (DY s)],σ):=by refine ab5 rfl (kI (sL rfl) rfl) ?_;unfold JS;rw[show A.cells 5 (.agg (bK s))=some (bK s)from rfl,bS,show A.aB 0 5 (bK s)=some (.agg (bK s))from rfl,bS,Xv (X2 s hs),bS];simp only;rw[ij,bS,cz h,dr]
theorem ac9{s:iQ}(hs:B4 s)(h:DY s=0)(H:Hs bY aK σ R):∃id σ',HD [.agg (bK s)] σ=some (.aM [.op id 0,.ah 0],σ')∧Hs bY aK σ' (jy (.op id 0) (mS s)*R):=by
 suffices hh:∃id σ',JS (.agg (bK s)) σ=some (.aM [.op id 0,.ah 0],σ')∧Hs bY aK σ' (jy (.op id 0) (mS s)*R) by obtain⟨id,σ',e,K⟩:=hh;exact⟨id,σ',ab5 rfl (kI (sL rfl) rfl) e,K⟩
 have hO:=adK hs h;have hB:=hO.bd;unfold JS;rw[show A.cells 5 (.agg (bK s))=some (bK s)from rfl,bS,show A.aB 0 5 (bK s)=some (.agg (bK s))from rfl,bS,Xv (X2 s hs),bS];simp only;rw[ij,bS,cD (λq=>q h),cR,bS,alj hB,bS];simp only;rw[show A.cells 5 (.agg (bK s))=some (bK s)from rfl,bS,show A.aq 0 (bK s) (bK s)=some (bK s)from rfl,bS,show A.aB 0 5 (bK s)=some (.agg (bK s))from rfl,bS];obtain⟨bl,ad6⟩:∃bl,bl=σ.length:=⟨_,rfl⟩
 obtain⟨id,hid⟩:∃id,id=(σ++[aS.map []]).length:=⟨_,rfl⟩
 rw[←ad6,←hid];rw[show(((A.cells 5 (.agg (bK s))).bind λfL=>(A.aq 4 fL [AV.az,(AV.ah 0),(AV.ah 0),aO,AV.az,AV.az,AV.az,AV.az,AV.az,AV.az,AV.nm,AV.az]).bind λiq=>((A.cell (AV.om bl)).bind λv=>some [v]).bind λfJ=>(A.aq 10 fJ iq).bind λkn=>some kn).bind λcs=>some (AV.agg cs))=some (.agg [AV.az,(AV.ah 0),(AV.ah 0),aO,sl 3 dm s.aZ.bw,sl 4 cO s.aZ.dB,sl 3 ff s.cq,sl 2 fA s.cM,sl 3 dh s.bU,AV.az,.om bl,AV.az])from rfl,bS];rw[show A.cells 12 (.agg [AV.az,(AV.ah 0),(AV.ah 0),aO,sl 3 dm s.aZ.bw,sl 4 cO s.aZ.dB,sl 3 ff s.cq,sl 2 fA s.cM,sl 3 dh s.bU,AV.az,.om bl,AV.az])=some [AV.az,(AV.ah 0),(AV.ah 0),aO,sl 3 dm s.aZ.bw,sl 4 cO s.aZ.dB,sl 3 ff s.cq,sl 2 fA s.cM,sl 3 dh s.bU,AV.az,.om bl,AV.az]from rfl,bS];have K0:=Fq (b:=aS.map (([]:List (aG×fS)).map jl)) H trivial;rw[←ad6]at K0;have K1:=Fq (b:=aS.box [AV.az,(AV.ah 0),(AV.ah 0),aO,sl 3 dm s.aZ.bw,sl 4 cO s.aZ.dB,sl 3 ff s.cq,sl 2 fA s.cM,sl 3 dh s.bU,AV.az,.om bl,AV.az]) K0 trivial;rw[show(σ++[aS.map (([]:List (aG×fS)).map jl)]).length=id from hid.symm]at K1;have BA:=(jx K1).2;have K2:=Cb (b':=.box [AV.az,(AV.ah 0),(AV.ah 65535),aO,sl 3 dm s.aZ.bw,sl 4 cO s.aZ.dB,sl 3 ff s.cq,sl 2 fA s.cM,sl 3 dh s.bU,AV.az,.om bl,AV.az]) K1 trivial;rw[List.map_nil]at BA K2;simp only[show A.aU (.op id 0)=some (.op id 0)from rfl,bS,show A.aF 0 (.op id 0)=some (.op id 0)from rfl,show A.aF 2 (.op id 0)=some (.op id 2)from by simp [A.aF],rX];rw[show A.storeAt (.op id 2) [.ah 65535] ((σ++[aS.map []])++[aS.box [AV.az,(AV.ah 0),(AV.ah 0),aO,sl 3 dm s.aZ.bw,sl 4 cO s.aZ.dB,sl 3 ff s.cq,sl 2 fA s.cM,sl 3 dh s.bU,AV.az,.om bl,AV.az]])=some (((σ++[aS.map []])++[aS.box [AV.az,(AV.ah 0),(AV.ah 0),aO,sl 3 dm s.aZ.bw,sl 4 cO s.aZ.dB,sl 3 ff s.cq,sl 2 fA s.cM,sl 3 dh s.bU,AV.az,.om bl,AV.az]]).set id (.box [AV.az,(AV.ah 0),(AV.ah 65535),aO,sl 3 dm s.aZ.bw,sl 4 cO s.aZ.dB,sl 3 ff s.cq,sl 2 fA s.cM,sl 3 dh s.bU,AV.az,.om bl,AV.az]))from by simp only[A.storeAt,BA];rfl,bS];generalize (((σ++[aS.map []])++[aS.box [AV.az,(AV.ah 0),(AV.ah 0),aO,sl 3 dm s.aZ.bw,sl 4 cO s.aZ.dB,sl 3 ff s.cq,sl 2 fA s.cM,sl 3 dh s.bU,AV.az,.om bl,AV.az]]).set id (.box [AV.az,(AV.ah 0),(AV.ah 65535),aO,sl 3 dm s.aZ.bw,sl 4 cO s.aZ.dB,sl 3 ff s.cq,sl 2 fA s.cM,sl 3 dh s.bU,AV.az,.om bl,AV.az]))=W2 at K2 ⊢;rw[show A.aB 0 2 (bK s)=some (.agg (lV s.aZ))from rfl,bS,Tg s.aZ hs.1,bS,aQ hO.aZ];simp only;rw[lW,bS,ext1,bS];have vq:=(jx K2).2;have K3:=Cb (b':=.box (iR .az bl .az (mS s))) K2 trivial;simp only[show A.aF 9 (.op id 0)=some (.op id 9)from by simp [A.aF],bS];rw[show((A.cell (sl 2 aT (pX s.aZ))).bind λv=>some [v])=some [sl 2 aT (pX s.aZ)]from rfl,bS,show A.storeAt (.op id 9) [sl 2 aT (pX s.aZ)] W2=some (W2.set id (.box (iR .az bl .az (mS s))))from by simp only[A.storeAt,vq];rfl,bS];generalize W2.set id (.box (iR .az bl .az (mS s)))=W3 at K3 ⊢;rw[YC,bS,gH,bS];obtain⟨oH,arM⟩:∃oH,oH=W3.length:=⟨_,rfl⟩
 have K4:=Fq (b:=aS.map (([]:List (ByteArray×dZ)).map yH)) K3 trivial;rw[←arM]at K4 ⊢;rw[List.map_nil]at K4;obtain⟨W4,l1,K5⟩:=aqd (s:=s) hB.jq K4;refine La l1 ?_;simp only[oa,bW,cA,ji,bS];rw[show A.ak (0+1) (bK s)=some (sl 4 cO s.aZ.dB)from rfl,bS,gH,bS];obtain⟨W5,l2,K6⟩:=aqe (s:=s) hB (id:=id) (bl:=bl) (oH:=oH) (cs:=iR .az bl .az (mS s)) (R:=R) rfl (dw (by ac_rfl) K5);refine La l2 ?_;simp only[oa,bW,cA,ji,bS];rw[show A.ak 4 (bK s)=some (sl 3 dh s.bU)from rfl,bS,gH,bS];obtain⟨vb,W6,l3,K7⟩:=aqf (s:=s) hO (id:=id) (bl:=bl) (R:=blk bl (.map ((CP s.aZ).map jl))*(blk oH (.map ((p5 s.aZ.bw).map yH))*R)) (dw (by ac_rfl) K6);refine La l3 ?_;simp only[oa];refine⟨id,W6,rfl,Fh (vb:=vb) (bl:=bl) (va:=.az) rfl ?_⟩;have K8:=ym (dw (show _=blk oH (.map ((p5 s.aZ.bw).map yH))*(blk id (.box (iR vb bl .az (mS s)))*(Sl (fl aN) 10 vb (s.bU.map (mZ s))*(blk bl (.map ((CP s.aZ).map jl))*R))) by ac_rfl) K7);have K9:=td (v:=.az) (E:=fl cg) (sz:=5) K8 (.inl rfl);exact dw (show _=jW id vb bl .az (mS s)*R by unfold jW;show _=blk id (.box (iR vb bl .az (mS s)))*(Sl (fl aN) 10 vb (s.bU.map (mZ s))*(blk bl (.map ((CP s.aZ).map jl))*Sl (fl cg) 5 .az []))*R;ac_rfl) K9
noncomputable def rI (d:bV) (l:List fR):bV:=l.foldl (λd a=>(nL d a).1) d
theorem aoj{d:bV}(h:tZ d)(l:List fR):tZ (rI d l):=by
 unfold rI;induction l generalizing d with
 |nil=>exact h
 |cons a l ih=>rw[List.foldl_cons];exact ih (aco h a)
theorem aau(d:bV)(a:fR):(nL d a).1.setup=d.setup∧(nL d a).1.keys=d.keys∧(nL d a).1.params=d.params:=by
 unfold nL;split
 ·exact⟨rfl,rfl,rfl⟩
 split<;>exact⟨rfl,rfl,rfl⟩
theorem amv(d:bV)(l:List fR):(rI d l).setup=d.setup∧(rI d l).keys=d.keys∧(rI d l).params=d.params:=by
 unfold rI;induction l generalizing d with
 |nil=>exact⟨rfl,rfl,rfl⟩
 |cons a l ih=>rw[List.foldl_cons];obtain⟨h1,h2,h3⟩:=ih (nL d a).1;obtain⟨k1,k2,k3⟩:=aau d a;exact⟨h1.trans k1,h2.trans k2,h3.trans k3⟩
theorem alF(d:bV)(a:fR):((nL d a).2=0∧(nL d a).1.cC=d.cC++[a])∨(nL d a).1=d:=by
 unfold nL;split
 ·exact .inr rfl
 split
 ·exact .inr rfl
 ·exact .inl ⟨rfl,rfl⟩
end
end
section
set_option maxRecDepth 100000
noncomputable def Ka (a0:(List nP)) (a1:(List nP)):Option Bool:=
 if ¬((a0.length:Int)=(a1.length:Int))then
  some false
 else
 mY a0 (λ(i8:Nat)e7(s1:Unit)=>(show Option (Lr Unit Unit Unit)from
   (xW a1 (i8:Int)).bind λx9=>
   if ¬(e7=x9)then
    some (.ret ())
   else
   some (.go ()))) (λs1=>some ()) () (λb2=>
  some true) (λb2=>
  some false)
theorem alX{a0:(List nP)}{a1:(List nP)}{σ:Heap}{r:Bool}(h:Ka a0 a1=some r):Jk [(sl 3 fD a0),(sl 3 fD a1)] σ=some ((AV.bool r),σ):=by
 refine yl (f:=Qe) (y0:=(sl 3 fD a0)) (y1:=(sl 3 fD a1)) (enc:=λr:Bool=>(AV.bool r)) (T:=Ka a0 a1) rfl rfl ?_ r h;unfold Qe Ka;refine aA _ (gH _ _ _)<|aA _ (gH _ _ _)<|aA _ (ij _ _ _) ?_;refine ng (p:=¬((a0.length:Int)=(a1.length:Int))) (λiq=>?_) (λiq=>?_)
 ·exact fW _ (bP _ _) ⟨rfl,rfl⟩
 refine aA _ (gH _ _ _) ?_;refine tO (B:=Unit) (R:=Unit) (λ(i8:Nat)(s1:Unit)v w3=>v=[aO,(AV.ah (i8:Int))]∧σ=w3) (λ(b2:Unit)(q:LS)=>∃u4 AK,q=((AX.exit 0),([u4,AK]:au),σ)) (λ(b2:Unit)(q:LS)=>∃AK,q=(AX.ret,([aO,AK]:au),σ)) ?_ ?_ ⟨rfl,rfl⟩ ?_ ?_
 ·intro CN i8 e7 s1 v w3 qQ hI;obtain⟨rfl,rfl⟩:=hI;refine aA _ (kU qQ)<|tV<|aA _ (jG qQ)<|aA _ rfl ?_;refine nh (λx9:nP=>(AV.rp (fD x9))) (λx9 L3=>D6 L3) (λx9 L3=>?_);refine aA _ rfl<|aA _ (ajj _ _) ?_;refine ng (p:=¬(e7=x9)) (λfL=>?_) (λfL=>?_)
  ·exact cV (jO (by simp) ⟨_,rfl⟩)
  refine aA _ (gY qQ CN) ?_;exact cV (tP ⟨rfl,rfl⟩)
 ·intro hl s1 v w3 hI;obtain⟨rfl,rfl⟩:=hI;refine aA _ (kS _)<|tU ?_;exact cV ⟨by simp,⟨_,_,rfl⟩⟩
 ·intro hl b2 q hq;obtain⟨u4,AK,rfl⟩:=hq;refine l7 rfl ?_;exact fW _ (bP _ _) ⟨rfl,rfl⟩
 ·intro hl b2 q hq;obtain⟨AK,rfl⟩:=hq;refine yC rfl<|l7 rfl ?_;exact fW _ (bP _ _) ⟨rfl,rfl⟩
end
section
set_option maxRecDepth 100000
open HP
theorem aql{α:Type}{l:List α}{body:Nat→α→Unit→Option (Lr Unit Unit Unit)}{K:Unit→Option Bool}(hl:l.length≤bg)(hb:∀i x,l[i]? =some x→body i x ()=some (.go ())):mY l body (λs=>some ()) () (λ_=>some true) K=some true:=by
 rw[ZD (p:=λ_=>false) (r:=λ_=>()) hl (λi x hx=>by rw[hb i x hx];rfl)];have:l.find? (λ_=>false)=none:=by simp
 rw[this]
theorem ajV(l:List nP)(hl:l.length≤bg):Ka l l=some true:=by
 unfold Ka;simp only[not_true_eq_false,if_false];refine aql hl λi x hx=>?_
 rw[TI (x:=x) (by omega) (by simpa using hx)];simp
section
variable {aK σ : Heap} {R R2 : HP}
theorem adU{α:Type}{c:α→au}{sz:Nat}{B:aS→Prop}{v:AV}{l:List α}(hc:∀x,jP (c x))(H:Hs B aK σ (Sl (fl c) sz v l*R)):Lt σ (.s sz) v (sl sz c l):=by
 rcases wP H with⟨rfl,rfl|rfl,_⟩|⟨id,g,rfl,K⟩
 ·exact⟨⟨.az,by simp [A.bG],rfl,rfl⟩,rfl,λ_=>rfl⟩
 ·exact⟨⟨.ez,by simp [A.bG],rfl,rfl⟩,rfl,λ_=>rfl⟩
 ·exact⟨⟨sl sz c l,Kt hc (jx K).2 (by omega) 7,rfl,rfl⟩,rfl,λh=>by cases h⟩
theorem ala{B:aS→Prop}{va vb:AV}{l:List nP}(hl:l.length≤bg)(H:Hs B aK σ (Sl (fl fD) 3 va l*R))(H2:Hs B aK σ (Sl (fl fD) 3 vb l*R2)):Jk [va,vb] σ=some (.bool true,σ):=
 zY (dG:=[va,vb]) (ts:=[sl 3 fD l,sl 3 fD l]) ⟨adU Ng H,adU Ng H2,trivial⟩ (λσ=>alX (ajV l hl)) rfl
end
theorem adw(b:Bool){aK σ:Heap}{R:HP}(H:Hs bY aK σ R):A.fin aK (.bool b) σ=some (.bool b,aK):=Kq H (by simp [A.bG]) (λ_=>rfl)
theorem al3{d:bV}(hk:d.keys.length≤1000000)(t:Int):(yI d t).1.length≤bg:=by
 unfold yI;split
 ·simp
 ·simp only[List.length_map];unfold bg;omega
end
section
set_option maxRecDepth 100000
open HP
theorem ah0(b:bn)(p:Int)(σ:Heap):G6 [.agg (aN b),.rp [.ah p]] σ=some (.bool (decide (b.aC=p)),σ):=by
 refine Fk (z:=.az) (by unfold aN;cases b.runs<;>rfl) (kI (sL (by unfold aN;cases b.runs<;>rfl)) rfl) (jC _) ?_;unfold Xf;rw[NH,bS,YA,bS]
 first
  |rw[oD,bS,show A.ak 0 [AV.int .i64 p]=some (.int .i64 p)from rfl,bS,jQ,bS]
  |rw[show((A.deref (.rp [AV.int .i64 p]) σ).bind λc=>A.ak 0 c)=some (.int .i64 p)from rfl,bS,jQ,bS]
 exact bP _ _
def DZ:bn:=⟨⟨0,0,false⟩,0,0,[],0,0,0,none⟩
def IN(pb:Int):bn→Bool:=λb=>decide (b.aC=pb)
noncomputable def nT (d:bV) (pb t:Int):bn×Int:=
 if ¬(vV d.cC t=0)then(DZ,vV d.cC t)else if lg (IN pb) d.state.aD<0 then(DZ,8)else((lT d d.state t).aD.getD (lg (IN pb) d.state.aD).toNat DZ,0)
theorem abu{v:AV}(h:Fz v)(σ ex:Heap):A.fin σ v (σ++ex)=some (v,σ):=by
 unfold A.fin;split
 ·rfl
 ·rw[aQ (by simp),h,bZ]
abbrev rC:au:=[(AV.ah 0),(AV.ah 0),aO,(AV.ah 0),(AV.ah 0),AV.az,(AV.ah 0),(AV.ah 0),(AV.ah 0),AV.nm]
abbrev KD:List Sh:=[.k,.k,.k,.k,.k,ve,.k,.k,.k,.k]
theorem apc(b:bn)(e:Int):A.nn (.t [(.a KD),.k]) (.aM [.agg (aN b),.ah e])=.aM [.agg (aN b),.ah e]:=by
 have h:A.nn ve (sl 11 br b.bH)=sl 11 br b.bH:=by unfold sl;simp only[A.nn,List.map_map];congr 1
 have e1:A.cG KD (aN b)=aN b:=by unfold aN;simp only[A.cG,jC,h]
 have e2:A.nn (.a KD) (.agg (aN b))=.agg (aN b):=congrArg AV.agg e1;show AV.aM [A.nn (.a KD) (.agg (aN b)),.ah e]=_;rw[e2]
section
variable {aK σ : Heap} {R : HP} {pd : AV} {d : bV}
noncomputable abbrev ach : Nat → au → Heap → aH := A.tab (fun _ _ => none) [(358, G6)]
theorem anF{vb:AV}{l:List bn}(hl:l.length≤bg)(pb:Int)(H:Hs bY aK σ (Sl (fl aN) 10 vb l*R)):Du ach [vb,.fn 358 [.rp [.ah pb]]] σ=some (.ah (lg (IN pb) l),σ):=
 zY (dG:=[vb,.fn 358 [.rp [.ah pb]]]) (ts:=[sl 10 aN l,.fn 358 [.rp [.ah pb]]]) ⟨ao6 AT H,KC (adx (bQ (ady (bQ (dA _ _) nR)) nR)) rfl,trivial⟩ (λσ=>WZ ach l hl _ _ _ σ (λb _=>ah0 b pb σ)) rfl
theorem amS(hK:tZ d)(t pb:Int)(H:Hs bY aK σ (jy pd d*R)):MW [pd,.ah pb,.ah t] σ=some (.aM [.agg (aN (nT d pb t).1),.ah (nT d pb t).2],σ):=by
 suffices h:∃v,A.nn (.t [(.a KD),.k]) v=.aM [.agg (aN (nT d pb t).1),.ah (nT d pb t).2]∧MZ pd (.ah pb) (.ah t) σ=some (v,σ) by obtain⟨v,h1,h2⟩:=h;exact Kv h1 h2
 obtain⟨id,vb,bl,va,rfl,hp,H⟩:=JY H;have Ez:d.cC.length≤bg:=by have:=hK.len;unfold bg;omega
 have kq:=Ko H;have EE:=dw (show _=Sl (fl aN) 10 vb d.state.aD*(blk id (.box (iR vb bl va d))*(blk bl (.map ((d.params.getD []).map jl))*Sl (fl cg) 5 va d.cC)*R) by unfold jW;ac_rfl) H;have V9:d.state.aD.length≤bg:=by have:=hK.si.len;unfold bg;omega
 unfold MZ nT;rw[show(((A.cell (AV.ah pb)).bind λv=>some [v]).bind λcs=>some (AV.rp cs))=some (.rp [.ah pb])from rfl,bS,show A.aU (.op id 0)=some (.op id 0)from rfl,bS,show A.aF 0 (.op id 0)=some (.op id 0)from by simp [A.aF],bS,show A.aF 0 (.op id 0)=some (.op id 0)from by simp [A.aF],bS,show((A.deref (.op id 0) σ).bind λc=>A.ak 0 c)=some vb from by simp only[A.deref,kq];exact DS EE,bS,anF V9 pb EE,bS];simp only;rw[ac2 hp Ez H,bS];simp only;rw[l8,bS,wR,bS];simp only;rw[aes,bS,DG _ (by show 2≤bg;decide),bS];simp only;obtain⟨ix,Gv⟩:∃ix,ix=lg (IN pb) d.state.aD:=⟨_,rfl⟩
 rw[←Gv];by_cases h0:vV d.cC t=0
 case neg=>
  rw[aQ h0];rw[show(([vV d.cC t,if(decide (ix<0))=true then 8 else 0]:List Int).find? λn=>decide (¬n=0)).getD 0=vV d.cC t from by simp [List.find?,h0],ij,bS,cz h0,dr];simp only[show A.cells 10 (.agg rC)=some rC from rfl,show A.aq 0 rC rC=some rC from rfl,show A.aB 0 10 rC=some (.agg rC)from rfl,bS];exact⟨_,rfl,bP _ _⟩
 rw[aP (λq=>q h0),h0];by_cases h1:ix<0
 ·rw[aQ h1,cz h1,show(([0,if true=true then 8 else 0]:List Int).find? λn=>decide (¬n=0)).getD 0=8 from rfl,ij,bS,cz (show ¬(8:Int)=0 by decide),dr];simp only[show A.cells 10 (.agg rC)=some rC from rfl,show A.aq 0 rC rC=some rC from rfl,show A.aB 0 10 rC=some (.agg rC)from rfl,bS];exact⟨_,rfl,bP _ _⟩
 rw[aP h1,cD h1,show(([0,if false=true then 8 else 0]:List Int).find? λn=>decide (¬n=0)).getD 0=0 from rfl,ij,bS,cD (show ¬¬(0:Int)=0 by decide),cR];obtain⟨t1,t2⟩:=Tc h0;have hrd:=TD hp H;obtain⟨v,W,e1,e2⟩:=Th hK.di hrd t1.2 hK.si t2 ⟨.op id 0,by simp [A.aF],by simp only[A.deref,kq];rfl⟩ (TH EE)
 obtain⟨k,x,hk,hx⟩:∃(k:Nat)(x:bn),ix=(k:Int)∧(lT d d.state t).aD[k]? =some x:=by
  rcases zj (IN pb) d.state.aD with⟨q,_⟩|⟨k,y,hy,_,hk,_⟩
  ·rw[←Gv]at q;omega
  ·have hl:=congrArg List.length (JO d d.state t);rw[List.length_map,List.length_map]at hl;have hk':=(bM.1 hy).1;exact⟨k,_,by rw[Gv];exact hk,bT (by omega)⟩
 obtain⟨s1,hs1⟩:∃s1,s1=lT d d.state t:=⟨_,rfl⟩
 rw[←hs1]at e1 e2 hx ⊢;rw[e1,bS];simp only;rw[show A.cells 4 (.agg (bF v s1))=some (bF v s1)from rfl,bS];rw[hk,Int.toNat_natCast,show s1.aD.getD k DZ=x from by rw[List.getD_eq_getElem?_getD,hx];rfl];rcases e2 with⟨z1,z2,z3⟩|⟨g,z1,z2⟩
 ·rw[z1]at hx;simp at hx
 ·have hW:∃ex,W=σ++ex:=⟨_,z2⟩
  have hgt:W[σ.length+1]? =some (.arr g 10 (s1.aD.map aN)):=by rw[z2];exact Ky σ g s1
  have hl:=(bM.1 hx).1;rw[z1,show A.ak 0 (bF (.os (σ.length+1) g 10 0 s1.aD.length) s1)=some (.os (σ.length+1) g 10 0 s1.aD.length)from rfl,bS]
  rw[show A.aY 10 (.os (σ.length+1) g 10 0 s1.aD.length) (.ah (k:Int))=some (.oe (σ.length+1) g k 0)from by
   simp only[A.aY,A.idx];rw[aQ ⟨by omega,by omega⟩]
   simp,bS]
  rw[show((A.deref (.oe (σ.length+1) g k 0) W).bind λc=>A.aB 0 10 c)=some (.agg (aN x))from by
   simp only[A.deref,hgt,if_true,sy,hx,bZ,List.drop_zero]
   exact SJ x,bS]
  rw[NH,bS,alb _ _ rfl,bS,SJ,bS];obtain⟨ex,rfl⟩:=hW;exact⟨_,apc x 0,abu (acv (bQ (wV (AT x)) (bQ (dA _ _) nR))) σ ex⟩
end
end
section
set_option maxRecDepth 100000
open HP
theorem akG{l:List bz}(h:rY l=0):(Cl l).length≤600000:=by
 have hf:=Oy h
 have key:∀(l:List bz),(∀c∈l,c.dW.length≤2000)→(Cl l).length≤l.length*2000:=by
  intro l;induction l with
  |nil=>intro _;simp [Cl]
  |cons c l ih=>intro h;have h1:=ih (λc' qO=>h c' (rE _ qO));have h2:=h c (by simp);unfold Cl at h1 ⊢;rw[List.flatMap_cons,List.length_append,List.length_map,List.length_cons];omega
 have:=key l (λc hc=>(hf.mv c hc).1);have:=hf.len;omega
def Dq(l:List (aG×cH)):List iT:=l.filterMap λp=>if h:0≤p.1.unit∧p.1.unit≤1000000 then some ⟨p.1,h⟩else none
noncomputable def IX (l:List (aG×cH)):List aG:=(oS (λa b:iT=>mO a.1 b.1) (Dq l)).map (·.1)
theorem OG{l:List (aG×cH)}(h:∀p∈l,0≤p.1.unit∧p.1.unit≤1000000):(Dq l).map (·.1)=l.map (·.1):=by
 unfold Dq;induction l with
 |nil=>rfl
 |cons p l ih=>have hp:=h p (by simp);rw[List.filterMap_cons];rw[dif_pos hp];simp only[ef];rw[ih (λq hq=>h q (by simp [hq]))]
theorem val_inj:∀{a b:List iT},a.map (·.1)=b.map (·.1)→a=b
 |[],[],_=>rfl
 |[],_::_,h=>by simp at h
 |_::_,[],h=>by simp at h
 |x::a,y::b,h=>by simp only[ef,List.cons.injEq]at h;rw[Subtype.ext h.1,val_inj h.2]
theorem Zu:∀{a b:List aG},a.map (λk=>AV.agg (aT k))=b.map (λk=>AV.agg (aT k))→a=b
 |[],[],_=>rfl
 |[],_::_,h=>by simp at h
 |_::_,[],h=>by simp at h
 |x::a,y::b,h=>by simp only[ef,List.cons.injEq]at h;rw[aao h.1,Zu h.2]
theorem ald{l:List (aG×cH)}(h:∀p∈l,0≤p.1.unit∧p.1.unit≤1000000):(IX l).Perm (l.map (·.1)):=by unfold IX;have:=(DF (zx λk:iT=>k.1) (Dq l)).1.map (·.1);rwa[OG h]at this
abbrev Eu(o:Option (List (aG×cH))):AV:=pJ (λx=>AV.agg (aT x)) (λx=>AV.agg (fU x)) o
theorem alx(o:Option (List (aG×cH))):A.cell (Eu o)=some (Eu o):=by cases o<;>rfl
theorem ao3(o:Option (List (aG×cH)))(W:Heap):MI [Eu o] W=some (.fn 359 [.rp [Eu o]],W):=by refine Fj (by cases o<;>rfl) rfl (jC _) ?_;unfold Xi;rw[alx,bS,bS,bS];exact bP _ _
theorem amz{o:Option (List (aG×cH))}(hn:((o.getD []).map (·.1)).Nodup)(hu:∀p∈o.getD [],0≤p.1.unit∧p.1.unit≤1000000)(hl:(o.getD []).length≤1000000)(W:Heap):Jn [.fn 359 [.rp [Eu o]],.fn 372 []] W=some (sl 2 aT (IX (o.getD [])),W):=by
 have hr:A.yt (Eu o)=some ((o.getD []).map ew):=by cases o<;>rfl
 have hk:KeysOf ((o.getD []).map ew) (Dq (o.getD [])):=by
  refine⟨?_,?_,?_⟩
  ·rw[List.map_map];have:(Dq (o.getD [])).map (λk=>AV.agg (aT k.1))=((Dq (o.getD [])).map (·.1)).map (λk=>AV.agg (aT k)):=by rw[List.map_map];rfl
   rw[this,OG hu,List.map_map];rfl
  ·have:((Dq (o.getD [])).map (·.1)).Nodup:=by rw[OG hu];exact hn
   exact(List.pairwise_map.1 this).imp λq e=>q (by rw[e])
  ·have:=congrArg List.length (OG hu);rw[List.length_map,List.length_map]at this;omega
 show(A.yt (Eu o)).bind _=_;rw[hr,bS];have hex:∃l,KeysOf ((o.getD []).map ew) l:=⟨_,hk⟩
 rw[dif_pos hex];have hch:=Classical.choose_spec hex
 have e:Classical.choose hex=Dq (o.getD []):=by refine val_inj (Zu ?_);rw[List.map_map,List.map_map];exact hch.1.symm.trans hk.1
 rw[e];unfold IX sl;rw[List.map_map];rfl
def Ea(b:bn)(c:Int)(k:aG):Option Cs:=if(dU b k c).2=true then some ⟨k,(dU b k c).1.ia,(dU b k c).1.mP,(dU b k c).1.ending⟩else none
noncomputable def WN (pb:Int) (b:bn) (t:Int):JT:=⟨pb,if 0≤b.cm then((b.bH[b.cm.toNat]?).map (·.aC)).getD 0 else 0,b.iK,b.aI.jv,gV b,(IX (b.runs.getD [])).filterMap (Ea b (dL b.aI t))⟩
def apB:JT:=⟨0,0,0,false,0,[]⟩
noncomputable def GS (d:bV) (pb t:Int):JT×Int:=if ¬((nT d pb t).2=0)then(apB,(nT d pb t).2)else(WN pb (nT d pb t).1 t,0)
theorem ao5{W:Heap}{id:Nat}{b:bn}(h:W[id]? =some (.box (aN b)))(sh:Sh):Lt W sh (.op id 0) (.rp (aN b)):=by refine⟨⟨.rp (aN b),?_,rfl,rfl⟩,rfl,λh=>by cases h⟩;have q:=AT b W 0 7;simp only[A.bG,Nat.not_lt_zero,if_false,h,List.drop_zero,Kg,q,bZ]
theorem anb{W:Heap}{id:Nat}{b:bn}(h:W[id]? =some (.box (aN b))):zf [.op id 0] W=some (.ah (gV b),W):=
 zY (dG:=[.op id 0]) (ts:=[.rp (aN b)]) ⟨ao5 h _,trivial⟩ (λσ=>adu b σ) rfl
theorem ai5{W:Heap}{id:Nat}{b:bn}(h:W[id]? =some (.box (aN b)))(k:aG)(c:Int):oJ [.op id 0,.agg (aT k),.ah c] W=some (.aM [.agg (fU (dU b k c).1),.bool (dU b k c).2],W):=by refine SV (q:=.op id 9) b k c W rfl (by simp [A.aF]) ?_;simp only[A.deref,h];exact Hw b (σ:=[])
abbrev KE:List Sh:=[.k,.k,.k,.k,.k,.k,.k,.k,(.s 2),.k,.k]
theorem ape(x:Cs):A.cG KE (me x)=me x:=rfl
theorem anW{v:AV}{l:List Cs}(h:A.nn (.s 11) v=sl 11 me l):A.nn (.e 11 KE) v=sl 11 me l:=by
 have key:∀es:List au,es=l.map me→es.map (A.cG KE)=l.map me:=by rintro _ rfl;rw[List.map_map];exact List.map_congr_left λx _=>ape x
 cases v<;>first|exact h|(unfold sl at h ⊢;simp only[A.nn]at h ⊢;injection h with h1 h2;rw[h1,key _ h2])
theorem alA(f:jd)(hf:f.fB.bL.length≤1000000)(W:Heap):A.jB (.s 2) wL [sl 2 iJ f.fB.bL] W=some (sl 2 iJ f.fB.bL,W):=
 E5 (most:=140737488355328 / 16) (m:=wL) (r0:=MH) JW rfl (λ_ _=>rfl) (by omega) W
section
variable {σ : Heap} {R : HP}
abbrev mT(pb:Int)(b:bn)(vo:AV):au:=[.ah pb,.ah (if 0≤b.cm then((b.bH[b.cm.toNat]?).map (·.aC)).getD 0 else 0),.ah b.iK,.bool b.aI.jv,.ah (gV b),vo]
theorem aon{w:Heap}{b:bn}{t pb:Int}{ks:List aG}(hks:ks.length≤1000000){i:Nat}{k:aG}(hi:ks[i]? =some k)(z:AV){vo:AV}{out:List Cs}(ho:out.length≤1000000)(hp:((dU b k (dL b.aI t)).1.ia.fB.bL.length≤1000000)){id:Nat}(H:Hs bY σ w (blk id (.box (aN b))*(Sl (fl me) 11 vo out*R))):
  ∃ gy w', ((λfN jL =>
    (A.lss (aj fN 2) (AV.ah (ks.length:Int))).bind λjU=>
    A.cond jU (
     (A.aY 2 (sl 2 aT ks) (aj fN 2)).bind λfH=>
     ((A.deref fH jL).bind λjo=>A.aB 0 2 jo).bind λiG=>
     (A.cells 2 iG).bind λC3=>
     (A.aq 0 C3 [(AV.ah 0),bA]).bind λrJ=>
     (A.aB 0 2 rJ).bind λjF=>
     (some (AV.op id 0)).bind λfc=>
     ((A.deref fc jL).bind λqL=>A.aB 0 3 qL).bind λku=>
     (A.quiet (uF [ku,(AV.ah t)] jL) jL).bind λiH=>
     (A.quiet (oJ [(AV.op id 0),jF,iH] jL) jL).bind λgG=>
     (A.ext 0 gG).bind λkC=>
     (A.ext 1 gG).bind λiI=>
     (A.cells 9 kC).bind λnW=>
     (A.aq 0 nW [(AV.ah 0),(AV.ah 0),(AV.ah 0),(AV.ah 0),(AV.ah 0),(AV.ah 0),AV.az,(AV.ah 0),aO]).bind λyQ=>
     (A.not iI).bind λmM=>
     A.cond mM (
      (A.add (aj fN 2) (AV.ah 1)).bind λnB=>
      some (AX.normal,[(aj fN 0),(aj fN 1),nB],jL)) (
      (A.ak 6 yQ).bind λiz=>
      ((A.jB (.s 2) wL) [iz] jL).bind λAA=>
      ((A.cell AA.1).bind λv=>some [v]).bind λnX=>
      (A.aq 6 nX yQ).bind λqM=>
      ((A.lb (aj fN 1)).bind λ_=>some (5)).bind λpL=>
      ((A.lb (aj fN 1)).bind λnr=>A.ak pL nr).bind λkE=>
      (A.aB 0 2 rJ).bind λgm=>
      (A.aB 0 7 qM).bind λnC=>
      (A.ak 7 qM).bind λnD=>
      (A.ak 8 qM).bind λnN=>
      (((A.cells 2 gm).bind λjf=>(A.aq 0 jf [(AV.ah 0),bA,(AV.ah 0),(AV.ah 0),(AV.ah 0),(AV.ah 0),(AV.ah 0),(AV.ah 0),AV.az,(AV.ah 0),aO]).bind λsU=>(A.cells 7 nC).bind λqN=>(A.aq 2 qN sU).bind λnZ=>((A.cell nD).bind λv=>some [v]).bind λsV=>(A.aq 9 sV nZ).bind λmD=>((A.cell nN).bind λv=>some [v]).bind λmE=>(A.aq 10 mE mD).bind λxK=>some xK).bind λcs=>some (AV.agg cs)).bind λnE=>
      (((A.cells 11 nE).bind λuo=>(A.aq 0 uo [(AV.ah 0),bA,(AV.ah 0),(AV.ah 0),(AV.ah 0),(AV.ah 0),(AV.ah 0),(AV.ah 0),AV.az,(AV.ah 0),aO]).bind λn5=>some n5).bind λcs=>some (AV.sl 11 (fI 11 1 cs))).bind λx95=>
      (A.append 11 (140737488355328 / 112) kE x95 AA.2).bind λEH=>
      ((A.lb (aj fN 1)).bind λ_=>some (5)).bind λAw=>
      (A.lb (aj fN 1)).bind λsB=>
      ((A.cell EH.1).bind λv=>some [v]).bind λn9=>
      (A.aq Aw n9 sB).bind λsW=>
      (A.add (aj fN 2) (AV.ah 1)).bind λx101=>
      some (AX.normal,[(aj fN 0),(AV.lbx sW),x101],EH.2))) (
     some (AX.exit 0,[(aj fN 0),(aj fN 1),(aj fN 2)],jL)))) [z,.lbx (mT pb b vo),.ah (i:Int)] w=some (.normal,[z,.lbx (mT pb b gy),.ah ((i+1:Nat):Int)],w')∧Hs bY σ w' (blk id (.box (aN b))*(Sl (fl me) 11 gy (out++(Ea b (dL b.aI t) k).toList)*R)):=by
 have kq:=(jx H).2;simp only[bW,cA];rw[kU hi,bS,dr,jG hi,bS,oD,bS,qZ,bS,DJ,bS,H8 _ _ rfl,bS,qZ,bS,bS,show((A.deref (.op id 0) w).bind λc=>A.aB 0 3 c)=some (.agg (wU b.aI))from by simp only[A.deref,kq];rfl,bS,eT (Kz b.aI t w),bS,eT (ai5 kq k (dL b.aI t)),bS,lW,bS,ext1,bS];rw[zn,bS,BY _ _ rfl,bS,yJ,bS];obtain⟨r,hr⟩:∃r,r=(dU b k (dL b.aI t)).1:=⟨_,rfl⟩
 rw[←hr]at hp ⊢;cases hd:(dU b k (dL b.aI t)).2
 ·rw[show(!false)=true from rfl,dr,gY hi (by unfold bg;omega),bS];refine⟨vo,w,rfl,?_⟩;unfold Ea;rw[hd,aP (by decide)];simp only[Option.toList_none,List.append_nil];exact H
 ·rw[show(!true)=false from rfl,cR,ajB,bS,alA r.ia hp w,bS];have hcv:A.ak 5 (mT pb b vo)=some vo:=DS (dw (show _=Sl (fl me) 11 vo out*(blk id (.box (aN b))*R) by ac_rfl) H);obtain⟨x,hx⟩:∃x:Cs,x=⟨k,r.ia,r.mP,r.ending⟩:=⟨_,rfl⟩
  have K2:=dw (show _=Sl (fl me) 11 vo out*(els (fl me) [me x] [x]*(blk id (.box (aN b))*R)) by
   rw[show els (fl me) [me x] [x]=pr (me x=me x)*emp from rfl];ac_rfl) (oO.2 ⟨(rfl:me x=me x),dw (BU _).symm H⟩)
  obtain⟨gy,σ',f1,f2⟩:=Im (most:=140737488355328 / 112) K2 (by simp;omega) (λ_ _ _ _=>trivial);have f2':=dw (show _=Sl (fl me) 11 gy (out++[x])*(blk id (.box (aN b))*R) by rfl) f2;have arG:A.cell gy=some gy:=DS f2';rw[show((A.cell (sl 2 iJ r.ia.fB.bL)).bind λv=>some [v])=some [sl 2 iJ r.ia.fB.bL]from rfl,bS,show A.aq 6 [sl 2 iJ r.ia.fB.bL] (fU r)=some (fU r)from rfl,bS];simp only[ji,bS,hcv,qZ,XV,HE,JR];rw[show(((A.cells 2 (.agg (aT k))).bind λjf=>(A.aq 0 jf [(AV.ah 0),bA,(AV.ah 0),(AV.ah 0),(AV.ah 0),(AV.ah 0),(AV.ah 0),(AV.ah 0),AV.az,(AV.ah 0),aO]).bind λsU=>(A.cells 7 (.agg (gR r.ia))).bind λqN=>(A.aq 2 qN sU).bind λnZ=>((A.cell (.ah r.mP)).bind λv=>some [v]).bind λsV=>(A.aq 9 sV nZ).bind λmD=>((A.cell (.bool r.ending)).bind λv=>some [v]).bind λmE=>(A.aq 10 mE mD).bind λxK=>some xK).bind λcs=>some (AV.agg cs))=some (.agg (me x))from by rw[hx];rfl,bS];rw[show(((A.cells 11 (.agg (me x))).bind λuo=>(A.aq 0 uo [(AV.ah 0),bA,(AV.ah 0),(AV.ah 0),(AV.ah 0),(AV.ah 0),(AV.ah 0),(AV.ah 0),AV.az,(AV.ah 0),aO]).bind λn5=>some n5).bind λcs=>some (AV.sl 11 (fI 11 1 cs)))=some (.sl 11 [me x])from rfl,bS,f1,bS];simp only[arG,bS];rw[show A.aq 5 [gy] (mT pb b vo)=some (mT pb b gy)from rfl,bS,gY hi (by unfold bg;omega),bS];refine⟨gy,σ',rfl,?_⟩;unfold Ea;rw[hd,aQ rfl,←hr,←hx,Option.toList_some];exact dw (by ac_rfl) f2'
theorem T4{α β:Type}{X:Option α}{v:α}{f:α→Option β}{r:Option β}(e:X=some v)(k:f v=r):X.bind f=r:=by rw[e];exact k
theorem agM{α β:Type}(f:α→Option β)(l:List α){i:Nat}{x:α}(h:l[i]? =some x):(l.take (i+1)).filterMap f=(l.take i).filterMap f++(f x).toList:=by rw[List.take_add_one,h,Option.toList_some,List.filterMap_append,List.filterMap_cons,List.filterMap_nil];cases f x<;>rfl
theorem YH{aK:Heap}{pd:AV}{d:bV}(hK:tZ d)(t pb:Int)(H:Hs bY aK σ (jy pd d*R))(hB:(nT d pb t).2=0→vY t (nT d pb t).1)(hl:((nT d pb t).1.runs.getD []).length≤1000000)(hp:∀p∈(nT d pb t).1.runs.getD [],p.2.ia.fB.bL.length≤1000000):
  BO [pd,.ah pb,.ah t] σ=some (.aM [.agg (JU (GS d pb t).1),.ah (GS d pb t).2],σ):=by
 suffices h:∃v,A.nn (.t [(.a [.k,.k,.k,.k,.k,(.e 11 KE)]),.k]) v=.aM [.agg (JU (GS d pb t).1),.ah (GS d pb t).2]∧MJ pd (.ah pb) (.ah t) σ=some (v,σ) by obtain⟨v,h1,h2⟩:=h;exact Kv h1 h2
 unfold MJ GS;rw[amS hK t pb H,bS];simp only;obtain⟨b,hb⟩:∃b,b=(nT d pb t).1:=⟨_,rfl⟩
 obtain⟨e,he⟩:∃e,e=(nT d pb t).2:=⟨_,rfl⟩
 rw[←hb,←he]at hB ⊢;rw[←hb]at hl hp;rw[lW,bS,ext1,bS,NH,bS];have G0:(σ++[aS.box rC])[σ.length]? =some (.box rC):=by rw[iZ (bD _),Nat.sub_self];rfl
 have hst:A.storeAt (.op σ.length 0) (aN b) (σ++[aS.box rC])=some (σ++[aS.box (aN b)]):=by simp only[A.storeAt,G0];rw[show A.aq 0 (aN b) rC=some (aN b)from rfl,bZ,qu _ _ (bD _),Nat.sub_self];rfl
 rw[hst,bS,ij,bS];by_cases h0:e=0
 case neg=>
  rw[cz h0,dr,aQ h0];simp only[show A.cells 6 (AV.agg [(AV.ah 0),(AV.ah 0),(AV.ah 0),aO,(AV.ah 0),AV.az])=some [(AV.ah 0),(AV.ah 0),(AV.ah 0),aO,(AV.ah 0),AV.az]from rfl,bS,show A.aq 0 [(AV.ah 0),(AV.ah 0),(AV.ah 0),aO,(AV.ah 0),AV.az] [(AV.ah 0),(AV.ah 0),(AV.ah 0),aO,(AV.ah 0),AV.az]=some [(AV.ah 0),(AV.ah 0),(AV.ah 0),aO,(AV.ah 0),AV.az]from rfl,show A.aB 0 6 [(AV.ah 0),(AV.ah 0),(AV.ah 0),aO,(AV.ah 0),AV.az]=some (.agg [(AV.ah 0),(AV.ah 0),(AV.ah 0),aO,(AV.ah 0),AV.az])from rfl];exact⟨_,rfl,abu (acv (bQ (wV (bQ (dA _ _) (bQ (dA _ _) (bQ (dA _ _) (bQ (A8 _) (bQ (dA _ _) (bQ aoV nR))))))) (bQ (dA _ _) nR))) σ _⟩
 rw[cD (λq=>q h0),cR,aP (λq=>q h0)];have hI:=hB h0;obtain⟨id,hid⟩:∃id,id=σ.length:=⟨_,rfl⟩
 obtain⟨W0,uv⟩:∃W0,W0=σ++[aS.box (aN b)]:=⟨_,rfl⟩
 rw[←uv,←hid];have K0:Hs bY σ W0 (blk id (.box (aN b))*emp):=by rw[uv,hid];exact Fq (Ig σ) trivial
 have kq:=(jx K0).2;have fo:∀o,A.aF o (.op id 0)=some (.op id o):=λo=>by simp [A.aF]
 rw[fo 7,bS,show((A.deref (.op id 7) W0).bind λc=>A.ak 0 c)=some (.ah b.iK)from by simp only[A.deref,kq];rfl,bS,fo 0,bS,show A.aF 2 (.op id 0)=some (.op id 2)from fo 2,bS,show((A.deref (.op id 2) W0).bind λc=>A.ak 0 c)=some (.bool b.aI.jv)from by simp only[A.deref,kq];rfl,bS,eT (anb kq),bS];rw[show((((A.cell (AV.ah pb)).bind λv=>some [v]).bind λjm=>(A.aq 0 jm [(AV.ah 0),(AV.ah 0),(AV.ah 0),aO,(AV.ah 0),AV.az]).bind λiM=>((A.cell (AV.ah b.iK)).bind λv=>some [v]).bind λjR=>(A.aq 2 jR iM).bind λlB=>((A.cell (AV.bool b.aI.jv)).bind λv=>some [v]).bind λiU=>(A.aq 3 iU lB).bind λgd=>((A.cell (AV.ah (gV b))).bind λv=>some [v]).bind λiB=>(A.aq 4 iB gd).bind λgE=>some gE).bind λcs=>some (AV.agg cs))=some (.agg [.ah pb,.ah 0,.ah b.iK,.bool b.aI.jv,.ah (gV b),.az])from rfl,bS];rw[show A.cells 6 (.agg [.ah pb,.ah 0,.ah b.iK,.bool b.aI.jv,.ah (gV b),.az])=some [.ah pb,.ah 0,.ah b.iK,.bool b.aI.jv,.ah (gV b),.az]from rfl,bS];rw[show A.aq 0 [.ah pb,.ah 0,.ah b.iK,.bool b.aI.jv,.ah (gV b),.az] [(AV.ah 0),(AV.ah 0),(AV.ah 0),aO,(AV.ah 0),AV.az]=some [.ah pb,.ah 0,.ah b.iK,.bool b.aI.jv,.ah (gV b),.az]from rfl,bS];rw[fo 6,bS,show((A.deref (.op id 6) W0).bind λc=>A.ak 0 c)=some (.ah b.cm)from by simp only[A.deref,kq];rfl,bS,uc,bS]
 have D3:(A.cond (AV.bool (decide (0≤b.cm))) (
   (A.aF 5 (AV.op id 0)).bind λx34=>
   ((A.deref x34 W0).bind λgr=>A.ak 0 gr).bind λfG=>
   (some (AV.op id 6)).bind λcK=>
   ((A.deref cK W0).bind λlY=>A.ak 0 lY).bind λgj=>
   (A.aY 11 fG gj).bind λdV=>
   (A.aF 0 dV).bind λeX=>
   ((A.deref eX W0).bind λmB=>A.ak 0 mB).bind λfk=>
   ((A.cell fk).bind λv=>some [v]).bind λGm=>
   (A.aq 1 Gm [.ah pb,.ah 0,.ah b.iK,.bool b.aI.jv,.ah (gV b),.az]).bind λAj=>
   some ([AV.lbx [(AV.ah 0),(AV.ah 0),(AV.ah 0),aO,(AV.ah 0),AV.az],AV.lbx Aj],W0)) (
   some ([AV.lbx [(AV.ah 0),(AV.ah 0),(AV.ah 0),aO,(AV.ah 0),AV.az],AV.lbx [.ah pb,.ah 0,.ah b.iK,.bool b.aI.jv,.ah (gV b),.az]],W0)))=some ([AV.lbx [(AV.ah 0),(AV.ah 0),(AV.ah 0),aO,(AV.ah 0),AV.az],AV.lbx (mT pb b .az)],W0):=by
  by_cases hc:0≤b.cm
  ·rw[cz hc,dr];obtain⟨j,hj⟩:∃j:Nat,b.cm=(j:Int):=⟨b.cm.toNat,by omega⟩
   have hjl:j<b.bH.length:=by have:=hI.cm.2;omega
   have hx:b.bH[j]? =some b.bH[j]:=bT hjl;rw[fo 5,bS,show((A.deref (.op id 5) W0).bind λc=>A.ak 0 c)=some (sl 11 br b.bH)from by simp only[A.deref,kq];rfl,bS,bS,show((A.deref (.op id 6) W0).bind λc=>A.ak 0 c)=some (.ah b.cm)from by simp only[A.deref,kq];rfl,bS,hj,jG hx,bS,mR,bS,show((A.deref (.rp ((br b.bH[j]).drop 0)) W0).bind λc=>A.ak 0 c)=some (.ah b.bH[j].aC)from rfl,bS]
   have e1:(if 0≤b.cm then((b.bH[b.cm.toNat]?).map (·.aC)).getD 0 else 0)=b.bH[j].aC:=by rw[aQ hc,hj,Int.toNat_natCast,hx];rfl
   unfold mT;rw[e1];rfl
  ·rw[cD hc,cR];unfold mT;rw[aP hc]
 rw[D3,bS];simp only;rw[fo 9,bS,show((A.deref (.op id 9) W0).bind λc=>A.ak 0 c)=some (Eu b.runs)from by simp only[A.deref,kq];exact Hw b (σ:=[]),bS,ao3,bS];simp only;rw[amz (Nt hI) (λp hp=>YX hI.eo (hI.runs p.1 p.2 hp).2) hl W0,bS];simp only;rw[gH,bS];obtain⟨ks,hks⟩:∃ks,ks=IX (b.runs.getD []):=⟨_,rfl⟩
 have Ar:ks.length≤1000000:=by rw[hks,(ald (λp hp=>YX hI.eo (hI.runs p.1 p.2 hp).2)).length_eq,List.length_map];exact hl
 rw[←hks];obtain⟨z,hz⟩:∃z,z=AV.lbx [(AV.ah 0),(AV.ah 0),(AV.ah 0),aO,(AV.ah 0),AV.az]:=⟨_,rfl⟩
 have hL:∃q,A.loop ((λfN jL=>
    (A.lss (aj fN 2) (AV.ah (ks.length:Int))).bind λjU=>
    A.cond jU (
     (A.aY 2 (sl 2 aT ks) (aj fN 2)).bind λfH=>
     ((A.deref fH jL).bind λjo=>A.aB 0 2 jo).bind λiG=>
     (A.cells 2 iG).bind λC3=>
     (A.aq 0 C3 [(AV.ah 0),bA]).bind λrJ=>
     (A.aB 0 2 rJ).bind λjF=>
     (some (AV.op id 0)).bind λfc=>
     ((A.deref fc jL).bind λqL=>A.aB 0 3 qL).bind λku=>
     (A.quiet (uF [ku,(AV.ah t)] jL) jL).bind λiH=>
     (A.quiet (oJ [(AV.op id 0),jF,iH] jL) jL).bind λgG=>
     (A.ext 0 gG).bind λkC=>
     (A.ext 1 gG).bind λiI=>
     (A.cells 9 kC).bind λnW=>
     (A.aq 0 nW [(AV.ah 0),(AV.ah 0),(AV.ah 0),(AV.ah 0),(AV.ah 0),(AV.ah 0),AV.az,(AV.ah 0),aO]).bind λyQ=>
     (A.not iI).bind λmM=>
     A.cond mM (
      (A.add (aj fN 2) (AV.ah 1)).bind λnB=>
      some (AX.normal,[(aj fN 0),(aj fN 1),nB],jL)) (
      (A.ak 6 yQ).bind λiz=>
      ((A.jB (.s 2) wL) [iz] jL).bind λAA=>
      ((A.cell AA.1).bind λv=>some [v]).bind λnX=>
      (A.aq 6 nX yQ).bind λqM=>
      ((A.lb (aj fN 1)).bind λ_=>some (5)).bind λpL=>
      ((A.lb (aj fN 1)).bind λnr=>A.ak pL nr).bind λkE=>
      (A.aB 0 2 rJ).bind λgm=>
      (A.aB 0 7 qM).bind λnC=>
      (A.ak 7 qM).bind λnD=>
      (A.ak 8 qM).bind λnN=>
      (((A.cells 2 gm).bind λjf=>(A.aq 0 jf [(AV.ah 0),bA,(AV.ah 0),(AV.ah 0),(AV.ah 0),(AV.ah 0),(AV.ah 0),(AV.ah 0),AV.az,(AV.ah 0),aO]).bind λsU=>(A.cells 7 nC).bind λqN=>(A.aq 2 qN sU).bind λnZ=>((A.cell nD).bind λv=>some [v]).bind λsV=>(A.aq 9 sV nZ).bind λmD=>((A.cell nN).bind λv=>some [v]).bind λmE=>(A.aq 10 mE mD).bind λxK=>some xK).bind λcs=>some (AV.agg cs)).bind λnE=>
      (((A.cells 11 nE).bind λuo=>(A.aq 0 uo [(AV.ah 0),bA,(AV.ah 0),(AV.ah 0),(AV.ah 0),(AV.ah 0),(AV.ah 0),(AV.ah 0),AV.az,(AV.ah 0),aO]).bind λn5=>some n5).bind λcs=>some (AV.sl 11 (fI 11 1 cs))).bind λx95=>
      (A.append 11 (140737488355328 / 112) kE x95 AA.2).bind λEH=>
      ((A.lb (aj fN 1)).bind λ_=>some (5)).bind λAw=>
      (A.lb (aj fN 1)).bind λsB=>
      ((A.cell EH.1).bind λv=>some [v]).bind λn9=>
      (A.aq Aw n9 sB).bind λsW=>
      (A.add (aj fN 2) (AV.ah 1)).bind λx101=>
      some (AX.normal,[(aj fN 0),(AV.lbx sW),x101],EH.2))) (
     some (AX.exit 0,[(aj fN 0),(aj fN 1),(aj fN 2)],jL)))) [z,.lbx (mT pb b .az),.ah 0] W0=some q∧∃vo u W',q=(.exit 0,[z,.lbx (mT pb b vo),u],W')∧Hs bY σ W' (blk id (.box (aN b))*(Sl (fl me) 11 vo (ks.filterMap (Ea b (dL b.aI t)))*emp)):=by
  refine ou (λn u w=>∃(i:Nat)(vo:AV),i≤ks.length∧u=[z,.lbx (mT pb b vo),.ah (i:Int)]∧n=ks.length-i∧Hs bY σ w (blk id (.box (aN b))*(Sl (fl me) 11 vo ((ks.take i).filterMap (Ea b (dL b.aI t)))*emp))) ?_ (n:=ks.length) ⟨0,.az,kY _,rfl,rfl,dw (by ac_rfl) (td (v:=.az) (E:=fl me) (sz:=11) K0 (.inl rfl))⟩;rintro n u w ⟨i,vo,hi,rfl,hn,K⟩;by_cases h:i<ks.length
  ·have hx:ks[i]? =some ks[i]:=bT h
   obtain⟨gy,w',f1,f2⟩:=aon (t:=t) (pb:=pb) Ar hx z (by have:=List.length_filterMap_le (Ea b (dL b.aI t)) (ks.take i);rw[qv]at this;omega) (by
    unfold dU;split
    ·show(0:Nat)≤_;omega
    ·rename_i r hr;exact hp _ (Ix hr)) K
   refine .inl ⟨ks.length-(i+1),_,w',by omega,f1,i+1,gy,h,rfl,rfl,?_⟩;rw[agM _ _ hx];exact f2
  ·have:i=ks.length:=by omega
   subst this;rw[List.take_length]at K;refine .inr ⟨(.exit 0,[z,.lbx (mT pb b vo),.ah (ks.length:Int)],w),?_,by simp,vo,_,w,rfl,K⟩;simp only[bW,cA];rw[kS,bS,cR]
 obtain⟨q,l1,vo,u,W',rfl,K'⟩:=hL;have K2:=dw (show _=Sl (fl me) 11 vo (ks.filterMap (Ea b (dL b.aI t)))*(blk id (.box (aN b))*emp) by ac_rfl) K';obtain⟨v',g1,g2,g3⟩:=Fy K2 anr (bD _) 7;have hcv:A.ak 5 (mT pb b vo)=some vo:=DS K2;refine⟨.aM [.agg (mT pb b v'),.ah 0],?_,?_⟩
 ·have:A.cG [.k,.k,.k,.k,.k,(.e 11 KE)] (mT pb b v')=JU (WN pb b t):=by unfold mT WN JU;simp only[A.cG,jC,anW g3,←hks]
  show AV.aM [.agg (A.cG _ (mT pb b v')),.ah 0]=_;rw[this]
 ·simp only[bW,cA];rw[hz]at l1;refine T4 l1 ?_;simp only[oa,bW,cA,ji,bS];rw[show A.aB 0 6 (mT pb b vo)=some (.agg (mT pb b vo))from rfl,bS,show A.cells 6 (.agg (mT pb b vo))=some (mT pb b vo)from rfl,bS,show A.aq 0 (mT pb b vo) [(AV.ah 0),(AV.ah 0),(AV.ah 0),aO,(AV.ah 0),AV.az]=some (mT pb b vo)from rfl,bS,show A.aB 0 6 (mT pb b vo)=some (.agg (mT pb b vo))from rfl,bS];refine Kq K' ?_ (λe=>?_)
  ·simp only[A.bG,A.ga,mT,g1,aX,bZ]
  ·have h1:=(bM.1 (jx K').2).1;rw[e]at h1;omega
end
end
section
set_option maxRecDepth 100000
open HP
theorem aok(d:bV)(l:List fR):(rI d l).cC.length≤d.cC.length+l.length:=by
 unfold rI;induction l generalizing d with
 |nil=>exact bD _
 |cons a l ih=>
  rw[List.foldl_cons];refine Nat.le_trans (ih _) ?_;rcases alF d a with⟨_,h⟩|h
  ·rw[h,List.length_append,List.length_singleton,List.length_cons];omega
  ·rw[h,List.length_cons];omega
theorem acT{d:bV}{a:fR}(h1:d.state.aD.length=1)(hk:a.kind=4)(h:(nL d a).2=0):∃b,(nL d a).1.state.aD=[b]∧b.aI.jv=true∧(nL d a).1.cC=d.cC++[a]:=by
 unfold nL at h ⊢;by_cases h0:Gp d a=0;case neg=>rw[aQ h0]at h;exact absurd h h0
 rw[aP (λq=>q h0)]at h ⊢;by_cases hr:(l9 d (lT d d.state a.time) a).2=0;case neg=>rw[aQ hr]at h;exact absurd h hr
 rw[aP (λq=>q hr)];obtain⟨s,hs⟩:∃s,s=lT d d.state a.time:=⟨_,rfl⟩
 have hl:s.aD.length=1:=by have:=congrArg List.length (JO d d.state a.time);rw[List.length_map,List.length_map,←hs]at this;omega
 rw[←hs]at hr ⊢
 obtain⟨b,hb⟩:∃b,s.aD=[b]:=by
  cases hq:s.aD with
  |nil=>rw[hq]at hl;cases hl
  |cons b r=>
   cases r with
   |nil=>exact⟨b,rfl⟩
   |cons c r=>rw[hq]at hl;simp at hl
 have hi:(lg (λb:bn=>decide (b.aC=a.jV)) s.aD).toNat=0:=by
  rcases zj (λb:bn=>decide (b.aC=a.jV)) s.aD with⟨q,_,_⟩|⟨k,x,q1,_,q2,_,_⟩
  ·rw[q];rfl
  ·have:=(bM.1 q1).1;rw[q2];omega
 have hA:l9 d s a=Iz d s a 0 b:=by unfold l9;rw[aP (by omega),aP (by omega),hi,hb];rfl
 rw[hA]at hr ⊢;unfold Iz at hr ⊢;rw[aP (by omega),aP (by omega),aP (by omega),aQ hk]at hr ⊢;by_cases hq:b.aI.jv=true∨b.cm<0
 ·rw[aQ hq]at hr;exact absurd hr (by show ¬(10:Int)=0;decide)
 ·rw[aP hq];exact⟨_,by show s.aD.set 0 _=_;rw[hb];rfl,rfl,rfl⟩
end
section
set_option maxRecDepth 100000
open HP
theorem aaV{α:Type}[DecidableEq α]:∀{l m:List α},l.Nodup→(∀x∈l,x∈m)→l.length≤m.length
 |[],m,_,_=>kY _
 |x::l,m,hn,hs=>by
  have hx:=hs x (by simp);have hn':=sx.1 hn
  have:l.length≤(m.erase x).length:=aaV hn'.2 λy hy=>by
   have hne:y≠x:=λe=>hn'.1 (e▸hy)
   exact(List.mem_erase_of_ne hne).2 (hs y (by simp [hy]))
  rw[List.length_erase_of_mem hx]at this;have:0<m.length:=List.length_pos_of_mem hx;simp only[List.length_cons];omega
theorem aoJ{d:bV}(hK:tZ d){pb t:Int}(h:(nT d pb t).2=0):vY t (nT d pb t).1∧(nT d pb t).1∈(lT d d.state t).aD:=by
 unfold nT at h ⊢;by_cases h0:vV d.cC t=0;case neg=>rw[aQ h0]at h;exact absurd h h0
 rw[aP (λq=>q h0)]at h ⊢;obtain⟨t1,t2⟩:=Tc h0;have hA:=NG hK.di hK.si t2 t1.2;rcases zj (IN pb) d.state.aD with⟨q,_⟩|⟨k,y,hy,_,hk,_⟩
 ·rw[q]at h;rw[aQ (by decide)]at h;exact absurd h (by decide)
 ·rw[hk]at h ⊢;rw[aP (by omega)]at h ⊢;have hl:=congrArg List.length (JO d d.state t);rw[List.length_map,List.length_map]at hl;have hk':=(bM.1 hy).1
  have hx:(lT d d.state t).aD[k]? =some ((lT d d.state t).aD[k]'(by omega)):=bT _
  have e:(lT d d.state t).aD.getD (k:Int).toNat DZ=(lT d d.state t).aD[k]'(by omega):=by
   rw[Int.toNat_natCast,List.getD_eq_getElem?_getD,hx];rfl
  simp only[e];exact⟨hA.bs _ (List.getElem_mem _),List.getElem_mem _⟩
theorem apI{d:bV}{pb t:Int}(h:¬(nT d pb t).2=0):(nT d pb t).1=DZ:=by
 unfold nT at h ⊢;split
 ·rfl
 ·rename_i q;rw[aP q]at h;split
  ·rfl
  ·rename_i q2;rw[aP q2]at h;exact absurd rfl h
section
variable {aK σ : Heap} {R : HP} {pd : AV}
theorem ahq{d:bV}(hK:tZ d)(t pb:Int)(H:Hs bY aK σ (jy pd d*R)):BO [pd,.ah pb,.ah t] σ=some (.aM [.agg (JU (GS d pb t).1),.ah (GS d pb t).2],σ):=by
 by_cases h:(nT d pb t).2=0
 ·have hB:=(aoJ hK h).1;refine YH hK t pb H (λ_=>hB) ?_ (λp hp=>?_)
  ·have h1:=aaV (Nt hB) (m:=Cl (nT d pb t).1.bH) (λx hx=>by
    obtain⟨p,hp,rfl⟩:=gB.1 hx
    exact(hB.runs p.1 p.2 hp).2)
   rw[List.length_map]at h1;have:=akG hB.eo;omega
  ·have hc:=(hB.runs p.1 p.2 hp).1.c;unfold rq at hc;split at hc
   ·cases hc
   ·split at hc
    ·split at hc
     ·cases hc
     ·split at hc
      ·cases hc
      ·omega
    ·split at hc
     ·cases hc
     ·omega
 ·have hz:=apI h;exact YH hK t pb H (λq=>absurd q h) (by rw[hz];simp [DZ]) (by rw[hz];simp [DZ])
theorem aoH{d:bV}(hK:tZ d)(hk:d.keys.length≤1000000){s:iQ}(hs:s.bU.length≤bg){ns:List Int}(hn:ns.length≤bg)(i:Nat)(y:AV)(H:Hs bY aK σ (jy pd d*R)):
  ∃W,A.loop ((λv30 gJ=>
        (A.lss (aj v30 2) (AV.ah (ns.length:Int))).bind λeW=>
        A.cond eW (
         (A.aY 1 (sl 1 nV ns) (aj v30 2)).bind λx34=>
         ((A.deref x34 gJ).bind λgr=>A.ak 0 gr).bind λfG=>
         (qV [pd] gJ).bind λjK=>
         (A.add jK.1 fG).bind λx38=>
         (AN [pd,x38] jK.2).bind λiP=>
         ((A.lb (aj v30 0)).bind λ_=>some (4)).bind λAv=>
         ((A.lb (aj v30 0)).bind λpE=>A.ak Av pE).bind λgz=>
         (A.bR gz).bind λfk=>
         (A.lss (AV.ah (i:Int)) fk).bind λeY=>
         (A.cond eY (
          ((A.lb (aj v30 0)).bind λ_=>some (4)).bind λvC=>
          ((A.lb (aj v30 0)).bind λiD=>A.ak vC iD).bind λgK=>
          (A.aY 3 gK (AV.ah (i:Int))).bind λeZ=>
          (A.aF 0 eZ).bind λlG=>
          ((A.deref lG iP.2).bind λpG=>A.ak 0 pG).bind λeP=>
          (A.quiet (qV [pd] iP.2) iP.2).bind λiy=>
          (A.add iy fG).bind λgL=>
          (A.quiet (BO [pd,eP,gL] iP.2) iP.2).bind λjU=>
          some ([(aj v30 0),(aj v30 1)],iP.2)) (
          some ([(aj v30 0),(aj v30 1)],iP.2))).bind λiX=>
         (A.add (aj v30 2) (AV.ah 1)).bind λfH=>
         some (AX.normal,[(aj iX.1 0),(aj iX.1 1),fH],iX.2)) (
         some (AX.exit 2,[(aj v30 0),(aj v30 1),(aj v30 2)],gJ)))) [.lbx (bK s),y,.ah 0] σ=some (.exit 2,[.lbx (bK s),y,.ah (ns.length:Int)],W)∧Hs bY aK W (jy pd d*R):=by
 suffices h:∃q,A.loop ((λv30 gJ=>
        (A.lss (aj v30 2) (AV.ah (ns.length:Int))).bind λeW=>
        A.cond eW (
         (A.aY 1 (sl 1 nV ns) (aj v30 2)).bind λx34=>
         ((A.deref x34 gJ).bind λgr=>A.ak 0 gr).bind λfG=>
         (qV [pd] gJ).bind λjK=>
         (A.add jK.1 fG).bind λx38=>
         (AN [pd,x38] jK.2).bind λiP=>
         ((A.lb (aj v30 0)).bind λ_=>some (4)).bind λAv=>
         ((A.lb (aj v30 0)).bind λpE=>A.ak Av pE).bind λgz=>
         (A.bR gz).bind λfk=>
         (A.lss (AV.ah (i:Int)) fk).bind λeY=>
         (A.cond eY (
          ((A.lb (aj v30 0)).bind λ_=>some (4)).bind λvC=>
          ((A.lb (aj v30 0)).bind λiD=>A.ak vC iD).bind λgK=>
          (A.aY 3 gK (AV.ah (i:Int))).bind λeZ=>
          (A.aF 0 eZ).bind λlG=>
          ((A.deref lG iP.2).bind λpG=>A.ak 0 pG).bind λeP=>
          (A.quiet (qV [pd] iP.2) iP.2).bind λiy=>
          (A.add iy fG).bind λgL=>
          (A.quiet (BO [pd,eP,gL] iP.2) iP.2).bind λjU=>
          some ([(aj v30 0),(aj v30 1)],iP.2)) (
          some ([(aj v30 0),(aj v30 1)],iP.2))).bind λiX=>
         (A.add (aj v30 2) (AV.ah 1)).bind λfH=>
         some (AX.normal,[(aj iX.1 0),(aj iX.1 1),fH],iX.2)) (
         some (AX.exit 2,[(aj v30 0),(aj v30 1),(aj v30 2)],gJ)))) [.lbx (bK s),y,.ah 0] σ=some q∧∃W,q=(.exit 2,[.lbx (bK s),y,.ah (ns.length:Int)],W)∧Hs bY aK W (jy pd d*R) by
  obtain⟨q,e,W,rfl,K⟩:=h;exact⟨W,e,K⟩
 refine ou (λz v w=>∃j:Nat,j≤ns.length∧v=[.lbx (bK s),y,.ah (j:Int)]∧z=ns.length-j∧Hs bY aK w (jy pd d*R)) ?_ (n:=ns.length) ⟨0,kY _,rfl,rfl,H⟩;rintro z v w ⟨j,hj,rfl,hz,K⟩;by_cases h:j<ns.length
 ·have hx:ns[j]? =some ns[j]:=bT h;generalize ns[j]=n at hx;simp only[bW,cA];obtain⟨v1,w1,e1,K1⟩:=Sp hK hk (IntKind.i64.wrap (su d.cC+n)) K;have K2:=ym K1;rw[kU hx,bS,dr,jG hx,bS,oD,bS,TB,bS,ab8 hK.len K,bS];simp only;rw[mz,bS,e1,bS];simp only[ji,bS];rw[show A.ak 4 (bK s)=some (sl 3 dh s.bU)from rfl,bS,gH,bS,l8,bS];by_cases hb:(i:Int)<(s.bU.length:Int)
  ·have hp:s.bU[i]? =some (s.bU[i]'(by omega)):=bT _
   generalize s.bU[i]'(by omega)=p at hp
   rw[cz hb,dr];simp only[bS];rw[jG hp,bS,mR,bS,show((A.deref (.rp ((dh p).drop 0)) w1).bind λc=>A.ak 0 c)=some (.ah p.aC)from rfl,bS,eT (ab8 hK.len K2),bS,mz,bS,eT (ahq hK _ p.aC K2),bS,bS];simp only[bW,cA];rw[gY hx hn,bS];exact .inl ⟨ns.length-(j+1),_,w1,by omega,rfl,j+1,h,rfl,rfl,K2⟩
  ·rw[cD hb,cR,bS];simp only[bW,cA];rw[gY hx hn,bS];exact .inl ⟨ns.length-(j+1),_,w1,by omega,rfl,j+1,h,rfl,rfl,K2⟩
 ·have:j=ns.length:=by omega
  subst this;refine .inr ⟨(.exit 2,[.lbx (bK s),y,.ah (ns.length:Int)],w),?_,by simp,w,rfl,K⟩;simp only[bW,cA];rw[kS,bS,cR]
theorem amQ{px py:AV}{s:iQ}(hs:s.bU.length≤bg){ns:List Int}(hn:ns.length≤bg){l:List fR}(hl:l.length≤bg){d:bV}(hK:tZ d)(hk:d.keys.length≤1000000)(H:Hs bY aK σ (jy px d*(jy py d*R))):
  ∃W u,A.loop ((λv20 AI=>
     (A.lss (aj v20 2) (AV.ah (l.length:Int))).bind λfC=>
     A.cond fC (
      (A.aY 5 (sl 5 cg l) (aj v20 2)).bind λx24=>
      ((A.deref x24 AI).bind λgE=>A.aB 0 5 gE).bind λgh=>
      (A.cells 5 gh).bind λko=>
      (A.aq 0 ko [(AV.ah 0),(AV.ah 0),(AV.ah 0),(AV.ah 0),(AV.ah 0)]).bind λlM=>
      (A.bR (sl 1 nV ns)).bind λx29=>
      (A.loop (λv30 gJ=>
        (A.lss (aj v30 2) x29).bind λeW=>
        A.cond eW (
         (A.aY 1 (sl 1 nV ns) (aj v30 2)).bind λx34=>
         ((A.deref x34 gJ).bind λgr=>A.ak 0 gr).bind λfG=>
         (qV [px] gJ).bind λjK=>
         (A.add jK.1 fG).bind λx38=>
         (AN [px,x38] jK.2).bind λiP=>
         ((A.lb (aj v30 0)).bind λ_=>some (4)).bind λAv=>
         ((A.lb (aj v30 0)).bind λpE=>A.ak Av pE).bind λgz=>
         (A.bR gz).bind λfk=>
         (A.lss (aj v20 2) fk).bind λeY=>
         (A.cond eY (
          ((A.lb (aj v30 0)).bind λ_=>some (4)).bind λvC=>
          ((A.lb (aj v30 0)).bind λiD=>A.ak vC iD).bind λgK=>
          (A.aY 3 gK (aj v20 2)).bind λeZ=>
          (A.aF 0 eZ).bind λlG=>
          ((A.deref lG iP.2).bind λpG=>A.ak 0 pG).bind λeP=>
          (A.quiet (qV [px] iP.2) iP.2).bind λiy=>
          (A.add iy fG).bind λgL=>
          (A.quiet (BO [px,eP,gL] iP.2) iP.2).bind λjU=>
          some ([(aj v30 0),(aj v30 1)],iP.2)) (
          some ([(aj v30 0),(aj v30 1)],iP.2))).bind λiX=>
         (A.add (aj v30 2) (AV.ah 1)).bind λfH=>
         some (AX.normal,[(aj iX.1 0),(aj iX.1 1),fH],iX.2)) (
         some (AX.exit 2,[(aj v30 0),(aj v30 1),(aj v30 2)],gJ))) [(aj v20 0),(AV.lbx lM),(AV.ah 0)] AI).bind λqj=>
      bif qj.1==AX.exit 2 then(
       ((A.lb (aj qj.2.1 1)).bind λjh=>A.aB 0 5 jh).bind λfK=>
       (BP [px,fK] qj.2.2).bind λql=>
       ((A.lb (aj qj.2.1 1)).bind λnj=>A.aB 0 5 nj).bind λfc=>
       (BP [py,fc] ql.2).bind λqm=>
       (A.neq .i ql.1 qm.1).bind λku=>
       A.cond ku (
        some (AX.ret,[(aj qj.2.1 0),aO,(aj v20 2)],qm.2)) (
        (A.add (aj v20 2) (AV.ah 1)).bind λiH=>
        some (AX.normal,[(aj qj.2.1 0),(aj v20 1),iH],qm.2)))else
      none) (
      some (AX.exit 0,[(aj v20 0),(aj v20 1),(aj v20 2)],AI)))) [.lbx (bK s),.bool false,.ah 0] σ=some (.exit 0,u,W)∧Hs bY aK W (jy px (rI d l)*(jy py (rI d l)*R)):=by
 suffices h:∃q,A.loop ((λv20 AI=>
     (A.lss (aj v20 2) (AV.ah (l.length:Int))).bind λfC=>
     A.cond fC (
      (A.aY 5 (sl 5 cg l) (aj v20 2)).bind λx24=>
      ((A.deref x24 AI).bind λgE=>A.aB 0 5 gE).bind λgh=>
      (A.cells 5 gh).bind λko=>
      (A.aq 0 ko [(AV.ah 0),(AV.ah 0),(AV.ah 0),(AV.ah 0),(AV.ah 0)]).bind λlM=>
      (A.bR (sl 1 nV ns)).bind λx29=>
      (A.loop (λv30 gJ=>
        (A.lss (aj v30 2) x29).bind λeW=>
        A.cond eW (
         (A.aY 1 (sl 1 nV ns) (aj v30 2)).bind λx34=>
         ((A.deref x34 gJ).bind λgr=>A.ak 0 gr).bind λfG=>
         (qV [px] gJ).bind λjK=>
         (A.add jK.1 fG).bind λx38=>
         (AN [px,x38] jK.2).bind λiP=>
         ((A.lb (aj v30 0)).bind λ_=>some (4)).bind λAv=>
         ((A.lb (aj v30 0)).bind λpE=>A.ak Av pE).bind λgz=>
         (A.bR gz).bind λfk=>
         (A.lss (aj v20 2) fk).bind λeY=>
         (A.cond eY (
          ((A.lb (aj v30 0)).bind λ_=>some (4)).bind λvC=>
          ((A.lb (aj v30 0)).bind λiD=>A.ak vC iD).bind λgK=>
          (A.aY 3 gK (aj v20 2)).bind λeZ=>
          (A.aF 0 eZ).bind λlG=>
          ((A.deref lG iP.2).bind λpG=>A.ak 0 pG).bind λeP=>
          (A.quiet (qV [px] iP.2) iP.2).bind λiy=>
          (A.add iy fG).bind λgL=>
          (A.quiet (BO [px,eP,gL] iP.2) iP.2).bind λjU=>
          some ([(aj v30 0),(aj v30 1)],iP.2)) (
          some ([(aj v30 0),(aj v30 1)],iP.2))).bind λiX=>
         (A.add (aj v30 2) (AV.ah 1)).bind λfH=>
         some (AX.normal,[(aj iX.1 0),(aj iX.1 1),fH],iX.2)) (
         some (AX.exit 2,[(aj v30 0),(aj v30 1),(aj v30 2)],gJ))) [(aj v20 0),(AV.lbx lM),(AV.ah 0)] AI).bind λqj=>
      bif qj.1==AX.exit 2 then(
       ((A.lb (aj qj.2.1 1)).bind λjh=>A.aB 0 5 jh).bind λfK=>
       (BP [px,fK] qj.2.2).bind λql=>
       ((A.lb (aj qj.2.1 1)).bind λnj=>A.aB 0 5 nj).bind λfc=>
       (BP [py,fc] ql.2).bind λqm=>
       (A.neq .i ql.1 qm.1).bind λku=>
       A.cond ku (
        some (AX.ret,[(aj qj.2.1 0),aO,(aj v20 2)],qm.2)) (
        (A.add (aj v20 2) (AV.ah 1)).bind λiH=>
        some (AX.normal,[(aj qj.2.1 0),(aj v20 1),iH],qm.2)))else
      none) (
      some (AX.exit 0,[(aj v20 0),(aj v20 1),(aj v20 2)],AI)))) [.lbx (bK s),.bool false,.ah 0] σ=some q∧∃W u,q=(.exit 0,u,W)∧Hs bY aK W (jy px (rI d l)*(jy py (rI d l)*R)) by
  obtain⟨q,e,W,u,rfl,K⟩:=h;exact⟨W,u,e,K⟩
 refine ou (λz v w=>∃(i:Nat)(e:bV),i≤l.length∧v=[.lbx (bK s),.bool false,.ah (i:Int)]∧z=l.length-i∧rI e (l.drop i)=rI d l∧tZ e∧e.keys.length≤1000000∧Hs bY aK w (jy px e*(jy py e*R))) ?_ (n:=l.length) ⟨0,d,kY _,rfl,rfl,rfl,hK,hk,H⟩;rintro z v w ⟨i,e,hi,rfl,hz,hT,PD,hke,K⟩;by_cases h:i<l.length
 ·obtain⟨x,dz⟩:∃x,x=l[i]:=⟨_,rfl⟩
  have hx:l[i]? =some x:=by rw[dz];exact bT h
  rw[List.drop_eq_getElem_cons h,←dz]at hT;have hT:rI (nL e x).1 (l.drop (i+1))=rI d l:=hT;obtain⟨W1,l1,K1⟩:=aoH PD hke hs hn i (.lbx (cg x)) K;obtain⟨W2,d1,K2⟩:=adW PD x K1;obtain⟨W3,d2,K3⟩:=adW PD x (dw (show _=jy py e*(jy px (nL e x).1*R) by ac_rfl) K2);refine .inl ⟨l.length-(i+1),_,W3,by omega,?_,i+1,(nL e x).1,h,rfl,rfl,hT,aco PD x,by rw[(aau e x).2.1];exact hke,dw (by ac_rfl) K3⟩;simp only[bW,cA];rw[kU hx,bS,dr,jG hx,bS,oD,bS,Nz,bS,show A.cells 5 (.agg (cg x))=some (cg x)from rfl,bS,aod,bS,gH,bS];refine T4 l1 ?_;simp only[oa,bW,cA,ji,bS];rw[Nz,bS,d1,bS,bS];simp only;rw[d2,bS];simp only;rw[ij,bS,cD (λq=>q rfl),cR,gY hx hl,bS]
 ·have:i=l.length:=by omega
  subst this;rw[List.drop_length]at hT;have hT:e=rI d l:=hT;subst hT;refine .inr ⟨(.exit 0,[.lbx (bK s),.bool false,.ah (l.length:Int)],w),?_,by simp,w,_,rfl,K⟩;simp only[bW,cA];rw[kS,bS,cR]
end
theorem apz{s:List Sh}{r:AV→AV→AV→AV→Heap→aH}{x y z w v:AV}{σ:Heap}(h:[x,y,z,w].any A.own=false)(e1:A.cG s [x,y,z,w]=[x,y,z,w])(e:r x y z w σ=some (v,σ)):A.wrap true s .k (A.vg r) [x,y,z,w] σ=some (v,σ):=by refine wrap_eq h ?_ (jC _);rw[e1];exact e
theorem aeW{s:iQ}{l:List fR}{ns:List Int}{t:Int}{σ:Heap}(h:B4 s∧gu N8 l∧ns.length≤bg):W9 [.agg (bK s),sl 5 cg l,sl 1 nV ns,.ah t] σ=some (.bool true,σ):=by
 obtain⟨hs,hl,hn⟩:=h;refine apz rfl (kI (sL rfl) rfl) ?_;unfold Qa;rw[show A.cells 5 (.agg (bK s))=some (bK s)from rfl,bS,show A.aB 0 5 (bK s)=some (.agg (bK s))from rfl,bS];by_cases h0:DY s=0
 case neg=>
  rw[ab6 hs h0,bS];simp only;rw[lW,bS,ext1,bS,bS,ab6 hs h0,bS];simp only;rw[lW,bS,ext1,bS,ij,bS,cD (λq=>q rfl)];simp only[gF,wA,gU,bS,ij,cz h0,nw,pM,cT,jQ,decide_true];exact adw true (Ig (B:=bY) σ)
 obtain⟨id,W1,n1,K1⟩:=ac9 hs h0 (Ig (B:=bY) σ);obtain⟨L6,W2,n2,K2⟩:=ac9 hs h0 K1;have hO:=adK hs h0;have hK0:=ame hO;have hK:=aoj hK0 l;rw[n1,bS];simp only;rw[lW,bS,ext1,bS,bS,n2,bS];simp only;rw[lW,bS,ext1,bS,ij,bS,cD (λq=>q rfl)];simp only[gF,wA,gU,bS,ij,cD (λq:¬(0:Int)=0=>q rfl),nw,pM,cF,show A.eql .p (.op id 0) .np=some (.bool false)from rfl,show A.eql .p (.op L6 0) .np=some (.bool false)from rfl];rw[gH,bS];obtain⟨W3,u,l1,K3⟩:=amQ (px:=.op id 0) (py:=.op L6 0) (s:=s) hs.2.2.2.1 hn hl.1 hK0 (ZR hO) (dw (by ac_rfl) K2);refine T4 l1 ?_;have hcn:=aok (mS s) l;obtain⟨d,hd⟩:∃d,d=rI (mS s) l:=⟨_,rfl⟩
 rw[←hd]at K3 hK hcn;have hdk:d.keys.length≤1000000:=by rw[hd,(amv (mS s) l).2.1];exact ZR hO
 simp only[oa];obtain⟨v1,W5,e1,K5⟩:=Sp hK hdk t K3;rw[e1,bS];simp only;rw[lW,bS,ext1,bS];obtain⟨v2,W6,e2,K6⟩:=Sp hK hdk t (dw (show _=jy (.op L6 0) d*(Sl (fl fD) 3 v1 (yI d t).1*(jy (.op id 0) d*emp)) by ac_rfl) K5);rw[e2,bS];simp only;rw[lW,bS,ext1,bS,jQ,bS,cz rfl];have q1:=ala (al3 hdk t) (dw (show _=Sl (fl fD) 3 v1 (yI d t).1*(Sl (fl fD) 3 v2 (yI d t).1*(jy (.op L6 0) d*(jy (.op id 0) d*emp))) by ac_rfl) K6) K6;obtain⟨va,W7,a1,K7⟩:=aj8 hK.len (dw (show _=jy (.op id 0) d*(Sl (fl fD) 3 v1 (yI d t).1*(Sl (fl fD) 3 v2 (yI d t).1*(jy (.op L6 0) d*emp))) by ac_rfl) K6);simp only[gT,bS,eT q1,nw,a1,gH];rw[show A.guard (.bool true) true (some (va,W7)) (some (AV.aM [],W6))=some (va,W7)from rfl,bS];simp only;rw[acY K7,bS,KJ,bS,cz (show(d.cC.length:Int)≤(l.length:Int) by have:(mS s).cC.length=0:=rfl;omega)];exact adw true K7
theorem aeX(s:iQ)(l:List fR)(ns:List Int)(t:Int)(hs:B4 s)(hl:gu N8 l)(hn:gu aV ns)(_:aV t):B4 s∧gu N8 l∧ns.length≤bg:=⟨hs,hl,hn.1⟩
end
section
open Go.ChangeShapes Go.WideShapes Go.ChangeAt Go.RowKit
theorem own:ownKnob Tryz.prog.godebug=none:=by kernel_rfl
theorem laidOut:laidOutB Tryz.prog=true:=by kernel_rfl
theorem X1{H:Type}{enc:TypeId×Value→H}{P:Program}(hl:laidOutB P=true){W W':World}(hb:Below W.heap.size W W'):
  ∀{ts:List TypeId}{vs:List Value}{ds:List (DataW H)}{ps:List MemPlace},(ts.all λt=>P.readableRec t&&decide (t<P.types.size))=true→
   DataW.TrodAll enc P W 0 (λ_=>true) true ts vs ds ps→(∀x∈ps,x.block<W.heap.size)→DataW.TrodAll enc P W' 0 (λb=>decide (b<W.heap.size)) true ts vs ds ps
 |[],[],[],_,_,h,_=>h
 |t::ts,v::vs,d::ds,ps,hts,h,hlt=>by
  obtain⟨p,q,h1,h2,rfl⟩:=h;simp only[List.all_cons,jI,decide_eq_true_eq]at hts
  exact⟨p,q,Below.trod hl hts.1.1 hts.1.2 h1 hb (λx hx=>hlt x (List.mem_append_left _ hx)),
   X1 hl hb (by simpa using hts.2) h2 (λx hx=>hlt x (List.mem_append_right _ hx)),rfl⟩
 |[],_::_,_,_,_,h,_=>h.elim
 |[],[],_::_,_,_,h,_=>h.elim
 |_::_,[],_,_,_,h,_=>h.elim
 |_::_,_::_,[],_,_,h,_=>h.elim
theorem al2{H:Type}{enc:TypeId×Value→H}{f:Func}{s:ChangeSpec}{W W':World}{args:Array Value}{ds gs:List (DataW H)}{before:List MemPlace}{t:TypeId}
  (hts:(f.params.toList.all λt=>Tryz.prog.readableRec t&&decide (t<Tryz.prog.types.size))=true) (Dg:f.resultTypes=#[t]) (ht:Tryz.prog.underlying t=some .bool) (hvs:s.vars=[])
  (hW:DataW.Whole enc Tryz.prog f.params.toList s.vars false W args.toList ds gs before) (hb:Below W.heap.size W W')
  (Uf:s.fn H (ds++gs)={results:=[.lit (.bool true)],args:=ds}):
  s.post enc Tryz.prog f false true false false W args (.bool true) W':=by
 have PI:=hW;obtain⟨p,q,hA,hV,rfl,hfz,hnd⟩:=hW;have hlt:∀x∈p++q,x.block<W.heap.size:=λx hx=>PI.lt x hx
 refine⟨ds,gs,p++q,[],p,[],PI,?_,?_,?_,hb.frame _,λh=>by cases h⟩
 ·rw[Uf,Dg];exact trodAll_cons_mk (shut_bool ht _) trodAll_mk0
 ·rw[Uf];exact X1 laidOut hb hts hA (λx hx=>hlt x (List.mem_append_left _ hx))
 ·rw[Uf,hvs];exact rfl
end
section
open Go.RowKit
def Gr(w w':World):Prop:=Below w.heap.size w w'
theorem Gr.cell{a b:World}(h:Gr a b){p:Addr}{v:Value}(hc:a.cell? p=some v):b.cell? p=some v:=by
 by_cases hp:p.block<a.heap.size
 ·rw[Below.cell h hp];exact hc
 ·have:a.heap[p.block]? =none:=Array.getElem?_eq_none (by omega);simp [World.cell?,this]at hc
abbrev atS(w:World)(b:Nat)(v0:Value):Prop:=(w.cell? ⟨b,0,none⟩=some v0)∧(w.frozen? ⟨b,0,none⟩=false)∧b<w.heap.size
abbrev atT(w:World)(b:Nat)(v0 v1:Value):Prop:=(w.cell? ⟨b,0,none⟩=some v0∧w.cell? ⟨b,1,none⟩=some v1)∧(w.frozen? ⟨b,0,none⟩=false∧w.frozen? ⟨b,1,none⟩=false)∧b<w.heap.size
abbrev atU(w:World)(b:Nat)(v0 v1 v2:Value):Prop:=(w.cell? ⟨b,0,none⟩=some v0∧w.cell? ⟨b,1,none⟩=some v1∧w.cell? ⟨b,2,none⟩=some v2)∧(w.frozen? ⟨b,0,none⟩=false∧w.frozen? ⟨b,1,none⟩=false∧w.frozen? ⟨b,2,none⟩=false)∧b<w.heap.size
abbrev atV(w:World)(b:Nat)(v0 v1 v2 v3:Value):Prop:=(w.cell? ⟨b,0,none⟩=some v0∧w.cell? ⟨b,1,none⟩=some v1∧w.cell? ⟨b,2,none⟩=some v2∧w.cell? ⟨b,3,none⟩=some v3)∧(w.frozen? ⟨b,0,none⟩=false∧w.frozen? ⟨b,1,none⟩=false∧w.frozen? ⟨b,2,none⟩=false∧w.frozen? ⟨b,3,none⟩=false)∧b<w.heap.size
abbrev atW(w:World)(b:Nat)(v0 v1 v2 v3 v4:Value):Prop:=(w.cell? ⟨b,0,none⟩=some v0∧w.cell? ⟨b,1,none⟩=some v1∧w.cell? ⟨b,2,none⟩=some v2∧w.cell? ⟨b,3,none⟩=some v3∧w.cell? ⟨b,4,none⟩=some v4)∧(w.frozen? ⟨b,0,none⟩=false∧w.frozen? ⟨b,1,none⟩=false∧w.frozen? ⟨b,2,none⟩=false∧w.frozen? ⟨b,3,none⟩=false∧w.frozen? ⟨b,4,none⟩=false)∧b<w.heap.size
abbrev atX(w:World)(b:Nat)(v0 v1 v2 v3 v4 v5:Value):Prop:=(w.cell? ⟨b,0,none⟩=some v0∧w.cell? ⟨b,1,none⟩=some v1∧w.cell? ⟨b,2,none⟩=some v2∧w.cell? ⟨b,3,none⟩=some v3∧w.cell? ⟨b,4,none⟩=some v4∧w.cell? ⟨b,5,none⟩=some v5)∧(w.frozen? ⟨b,0,none⟩=false∧w.frozen? ⟨b,1,none⟩=false∧w.frozen? ⟨b,2,none⟩=false∧w.frozen? ⟨b,3,none⟩=false∧w.frozen? ⟨b,4,none⟩=false∧w.frozen? ⟨b,5,none⟩=false)∧b<w.heap.size
abbrev atY(w:World)(b:Nat)(v0 v1 v2 v3 v4 v5 v6:Value):Prop:=(w.cell? ⟨b,0,none⟩=some v0∧w.cell? ⟨b,1,none⟩=some v1∧w.cell? ⟨b,2,none⟩=some v2∧w.cell? ⟨b,3,none⟩=some v3∧w.cell? ⟨b,4,none⟩=some v4∧w.cell? ⟨b,5,none⟩=some v5∧w.cell? ⟨b,6,none⟩=some v6)∧(w.frozen? ⟨b,0,none⟩=false∧w.frozen? ⟨b,1,none⟩=false∧w.frozen? ⟨b,2,none⟩=false∧w.frozen? ⟨b,3,none⟩=false∧w.frozen? ⟨b,4,none⟩=false∧w.frozen? ⟨b,5,none⟩=false∧w.frozen? ⟨b,6,none⟩=false)∧b<w.heap.size
abbrev atZ(w:World)(b:Nat)(v0 v1 v2 v3 v4 v5 v6 v7:Value):Prop:=(w.cell? ⟨b,0,none⟩=some v0∧w.cell? ⟨b,1,none⟩=some v1∧w.cell? ⟨b,2,none⟩=some v2∧w.cell? ⟨b,3,none⟩=some v3∧w.cell? ⟨b,4,none⟩=some v4∧w.cell? ⟨b,5,none⟩=some v5∧w.cell? ⟨b,6,none⟩=some v6∧w.cell? ⟨b,7,none⟩=some v7)∧(w.frozen? ⟨b,0,none⟩=false∧w.frozen? ⟨b,1,none⟩=false∧w.frozen? ⟨b,2,none⟩=false∧w.frozen? ⟨b,3,none⟩=false∧w.frozen? ⟨b,4,none⟩=false∧w.frozen? ⟨b,5,none⟩=false∧w.frozen? ⟨b,6,none⟩=false∧w.frozen? ⟨b,7,none⟩=false)∧b<w.heap.size
abbrev at0(w:World)(b:Nat)(v0 v1 v2 v3 v4 v5 v6 v7 v8:Value):Prop:=(w.cell? ⟨b,0,none⟩=some v0∧w.cell? ⟨b,1,none⟩=some v1∧w.cell? ⟨b,2,none⟩=some v2∧w.cell? ⟨b,3,none⟩=some v3∧w.cell? ⟨b,4,none⟩=some v4∧w.cell? ⟨b,5,none⟩=some v5∧w.cell? ⟨b,6,none⟩=some v6∧w.cell? ⟨b,7,none⟩=some v7∧w.cell? ⟨b,8,none⟩=some v8)∧(w.frozen? ⟨b,0,none⟩=false∧w.frozen? ⟨b,1,none⟩=false∧w.frozen? ⟨b,2,none⟩=false∧w.frozen? ⟨b,3,none⟩=false∧w.frozen? ⟨b,4,none⟩=false∧w.frozen? ⟨b,5,none⟩=false∧w.frozen? ⟨b,6,none⟩=false∧w.frozen? ⟨b,7,none⟩=false∧w.frozen? ⟨b,8,none⟩=false)∧b<w.heap.size
abbrev atD(w:World)(b:Nat)(v0 v1 v2 v3 v4 v5 v6 v7 v8 v9:Value):Prop:=(w.cell? ⟨b,0,none⟩=some v0∧w.cell? ⟨b,1,none⟩=some v1∧w.cell? ⟨b,2,none⟩=some v2∧w.cell? ⟨b,3,none⟩=some v3∧w.cell? ⟨b,4,none⟩=some v4∧w.cell? ⟨b,5,none⟩=some v5∧w.cell? ⟨b,6,none⟩=some v6∧w.cell? ⟨b,7,none⟩=some v7∧w.cell? ⟨b,8,none⟩=some v8∧w.cell? ⟨b,9,none⟩=some v9)∧(w.frozen? ⟨b,0,none⟩=false∧w.frozen? ⟨b,1,none⟩=false∧w.frozen? ⟨b,2,none⟩=false∧w.frozen? ⟨b,3,none⟩=false∧w.frozen? ⟨b,4,none⟩=false∧w.frozen? ⟨b,5,none⟩=false∧w.frozen? ⟨b,6,none⟩=false∧w.frozen? ⟨b,7,none⟩=false∧w.frozen? ⟨b,8,none⟩=false∧w.frozen? ⟨b,9,none⟩=false)∧b<w.heap.size
abbrev atE(w:World)(b:Nat)(v0 v1 v2 v3 v4 v5 v6 v7 v8 v9 v10:Value):Prop:=(w.cell? ⟨b,0,none⟩=some v0∧w.cell? ⟨b,1,none⟩=some v1∧w.cell? ⟨b,2,none⟩=some v2∧w.cell? ⟨b,3,none⟩=some v3∧w.cell? ⟨b,4,none⟩=some v4∧w.cell? ⟨b,5,none⟩=some v5∧w.cell? ⟨b,6,none⟩=some v6∧w.cell? ⟨b,7,none⟩=some v7∧w.cell? ⟨b,8,none⟩=some v8∧w.cell? ⟨b,9,none⟩=some v9∧w.cell? ⟨b,10,none⟩=some v10)∧(w.frozen? ⟨b,0,none⟩=false∧w.frozen? ⟨b,1,none⟩=false∧w.frozen? ⟨b,2,none⟩=false∧w.frozen? ⟨b,3,none⟩=false∧w.frozen? ⟨b,4,none⟩=false∧w.frozen? ⟨b,5,none⟩=false∧w.frozen? ⟨b,6,none⟩=false∧w.frozen? ⟨b,7,none⟩=false∧w.frozen? ⟨b,8,none⟩=false∧w.frozen? ⟨b,9,none⟩=false∧w.frozen? ⟨b,10,none⟩=false)∧b<w.heap.size
abbrev atF(w:World)(b:Nat)(v0 v1 v2 v3 v4 v5 v6 v7 v8 v9 v10 v11:Value):Prop:=(w.cell? ⟨b,0,none⟩=some v0∧w.cell? ⟨b,1,none⟩=some v1∧w.cell? ⟨b,2,none⟩=some v2∧w.cell? ⟨b,3,none⟩=some v3∧w.cell? ⟨b,4,none⟩=some v4∧w.cell? ⟨b,5,none⟩=some v5∧w.cell? ⟨b,6,none⟩=some v6∧w.cell? ⟨b,7,none⟩=some v7∧w.cell? ⟨b,8,none⟩=some v8∧w.cell? ⟨b,9,none⟩=some v9∧w.cell? ⟨b,10,none⟩=some v10∧w.cell? ⟨b,11,none⟩=some v11)∧(w.frozen? ⟨b,0,none⟩=false∧w.frozen? ⟨b,1,none⟩=false∧w.frozen? ⟨b,2,none⟩=false∧w.frozen? ⟨b,3,none⟩=false∧w.frozen? ⟨b,4,none⟩=false∧w.frozen? ⟨b,5,none⟩=false∧w.frozen? ⟨b,6,none⟩=false∧w.frozen? ⟨b,7,none⟩=false∧w.frozen? ⟨b,8,none⟩=false∧w.frozen? ⟨b,9,none⟩=false∧w.frozen? ⟨b,10,none⟩=false∧w.frozen? ⟨b,11,none⟩=false)∧b<w.heap.size
abbrev atG(w:World)(b:Nat)(v0 v1 v2 v3 v4 v5 v6 v7 v8 v9 v10 v11 v12:Value):Prop:=(w.cell? ⟨b,0,none⟩=some v0∧w.cell? ⟨b,1,none⟩=some v1∧w.cell? ⟨b,2,none⟩=some v2∧w.cell? ⟨b,3,none⟩=some v3∧w.cell? ⟨b,4,none⟩=some v4∧w.cell? ⟨b,5,none⟩=some v5∧w.cell? ⟨b,6,none⟩=some v6∧w.cell? ⟨b,7,none⟩=some v7∧w.cell? ⟨b,8,none⟩=some v8∧w.cell? ⟨b,9,none⟩=some v9∧w.cell? ⟨b,10,none⟩=some v10∧w.cell? ⟨b,11,none⟩=some v11∧w.cell? ⟨b,12,none⟩=some v12)∧(w.frozen? ⟨b,0,none⟩=false∧w.frozen? ⟨b,1,none⟩=false∧w.frozen? ⟨b,2,none⟩=false∧w.frozen? ⟨b,3,none⟩=false∧w.frozen? ⟨b,4,none⟩=false∧w.frozen? ⟨b,5,none⟩=false∧w.frozen? ⟨b,6,none⟩=false∧w.frozen? ⟨b,7,none⟩=false∧w.frozen? ⟨b,8,none⟩=false∧w.frozen? ⟨b,9,none⟩=false∧w.frozen? ⟨b,10,none⟩=false∧w.frozen? ⟨b,11,none⟩=false∧w.frozen? ⟨b,12,none⟩=false)∧b<w.heap.size
abbrev atH(w:World)(b:Nat)(v0 v1 v2 v3 v4 v5 v6 v7 v8 v9 v10 v11 v12 tg:Value):Prop:=(w.cell? ⟨b,0,none⟩=some v0∧w.cell? ⟨b,1,none⟩=some v1∧w.cell? ⟨b,2,none⟩=some v2∧w.cell? ⟨b,3,none⟩=some v3∧w.cell? ⟨b,4,none⟩=some v4∧w.cell? ⟨b,5,none⟩=some v5∧w.cell? ⟨b,6,none⟩=some v6∧w.cell? ⟨b,7,none⟩=some v7∧w.cell? ⟨b,8,none⟩=some v8∧w.cell? ⟨b,9,none⟩=some v9∧w.cell? ⟨b,10,none⟩=some v10∧w.cell? ⟨b,11,none⟩=some v11∧w.cell? ⟨b,12,none⟩=some v12∧w.cell? ⟨b,13,none⟩=some tg)∧(w.frozen? ⟨b,0,none⟩=false∧w.frozen? ⟨b,1,none⟩=false∧w.frozen? ⟨b,2,none⟩=false∧w.frozen? ⟨b,3,none⟩=false∧w.frozen? ⟨b,4,none⟩=false∧w.frozen? ⟨b,5,none⟩=false∧w.frozen? ⟨b,6,none⟩=false∧w.frozen? ⟨b,7,none⟩=false∧w.frozen? ⟨b,8,none⟩=false∧w.frozen? ⟨b,9,none⟩=false∧w.frozen? ⟨b,10,none⟩=false∧w.frozen? ⟨b,11,none⟩=false∧w.frozen? ⟨b,12,none⟩=false∧w.frozen? ⟨b,13,none⟩=false)∧b<w.heap.size
end
end Go.Proofs.YtooknfkholjpbaaGreat
