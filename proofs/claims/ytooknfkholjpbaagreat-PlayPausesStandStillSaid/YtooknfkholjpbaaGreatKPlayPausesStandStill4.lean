/- Parts of the proof of PlayPausesStandStill, in order. -/
import Derived.Orders
import Derived.Below
import Derived.WalkKit
import Derived.Laws.StructEq
import Derived.Laws.Append
import Derived.Laws.AppendOwn
import Derived.Test.YtooknfkholjpbaaGreatRows
import Derived.KernelRfl
import Derived.Lib.Bytealg
import Derived.Sort.Defs
import Derived.Lib.BitFns
import Derived.Test.YtooknfkholjpbaaGreatShelf
import Derived.Laws.Externs
import Derived.Lib.Overlaps
import Derived.IntWalk
import Derived.Sort.Statements
import Derived.Shelf.SlSortCmp.WholeK
import Derived.Shelf.SlSortCmp.NoneTotal
import Derived.Sort.AssemblyPlain
import Derived.Lib.Strings
import Derived.Test.YtooknfkholjpbaaGreatKPlayPausesStandStill3
namespace Go.Proofs.YtooknfkholjpbaaGreat
set_option linter.unusedVariables false
set_option linter.unusedSimpArgs false
set_option linter.unusedSectionVars false
section
set_option maxRecDepth 100000
noncomputable def aci:Fx:=⟨Tryz.prog,aF,A.tab (fun _ _=>none) [],(fun _ _ _=>none),[],[],8,[]⟩
theorem acf:Sound Tryz.prog aF 64 (A.wrap true [(.s 2)] .k (A.cD (NH))):=
 Sound.wrap (Sound.uc (X:=aci) (fn:=Tryz.f64) (bN:=(.s .n (.s bz aT))) .K trivial (dJ.of rfl aD.nil (fun _=>Sound.none)) Tryz.func64 Tryz.call64 (fun a0 σ=>by kernel_rfl)) _ _ _ rfl rfl
theorem ab9:Sound Tryz.prog aF 64 CH:=yc acf Tryz.call64 ah8
theorem ad6:Sound Tryz.prog aF 37 Kv:=q1 [1,2,3,5,8,10] 129 (.s .n (.s .n (.s .n (.s (.s .n (.b (.l [1,2,3,27] [.exit 0] (.s .n (.s dN (.s (.b (.s .n (.s .n (.s (.s .n (.b (.l [1,2,3,5,38] [.exit 2] (.s .n (.s dN (.s (.b aT) .n)))))) .n)))) .n)))))) (.s (.s .n (.b (.l [1,2,3,66] [.exit 4] (.s .n (.s dN (.s (.b (.s .n aT)) .n)))))) (.s (.s .n (.b (.l [2,3,84] [.exit 6] (.s .n (.s dN (.s (.b (.s .n (.s .n (.s (.s .n (.b (.l [2,3,10,95] [.exit 8] (.s .n (.s dN (.s (.b (.s .n aT)) .n)))))) .n)))) .n)))))) aT)))))) (aD.cons (Sound.jl abJ (.s 3) rfl) (aD.cons (Sound.jl acm (.s 4) rfl) (aD.cons ab8 (aD.cons (Sound.jl acd (.s 3) rfl) (aD.cons (Sound.jl abS (.s 3) rfl) (aD.cons acv (aD.cons (Sound.jl ack (.s 8) rfl) (aD.cons (Sound.jl ab9 (.s 2) rfl) aD.nil)))))))) Tryz.func37 Tryz.call37 (fun a0 σ=>by kernel_rfl) rfl rfl
noncomputable def agG:Fx:=⟨Tryz.prog,aF,A.tab (fun _ _=>none) [(36,Kj),(37,Kv),(38,ET),(39,Bp)],(fun _ _ _=>none),[1,8,10,12,14,15],[27],119,[]⟩
theorem agF:Sound Tryz.prog aF 10 (A.wrap true [zW] .k (A.cD (Hj))):=
 Sound.wrap (Sound.uc (X:=agG) (fn:=Tryz.f10) (bN:=(.s .n (.s (.s .n bz) (.s .n (.s .n (.s .n (.s .n (.s .n (.s (.s .n (.b (.l [1,46] [.exit 0] (.s .n (.s dN (.s (.b aT) .n)))))) (.s (.s .n (.b (.l [1,59] [.exit 2] (.s .n (.s dN (.s (.b (.s .n (.s .n (.b (.l [1,10,69] [.exit 4] (.s .n (.s dN (.s (.b aT) .n)))))))) .n)))))) (.s (.s .n (.b (.l [1,88] [.exit 6] (.s .n (.s dN (.s (.b (.s .n aT)) .n)))))) aT))))))))))) .K trivial (dJ.of rfl (aD.cons acV (aD.cons ad6 (aD.cons OC (aD.cons VE aD.nil)))) (fun _=>Sound.none)) Tryz.func10 Tryz.call10 (fun a0 σ=>by kernel_rfl)) _ _ _ rfl rfl
theorem agr:Sound Tryz.prog aF 10 KQ:=agF
theorem acJ:Sound Tryz.prog aF 42 Kb:=q1 [1] 53 (.s .n (.s bz (.s .n (.s .n (.s bz aT))))) (aD.cons rB aD.nil) Tryz.func42 Tryz.call42 (fun a0 σ=>by kernel_rfl) rfl rfl
theorem U4:Sound Tryz.prog aF 43 GY:=q1 [] 5 (.s .n aT) (aD.cons rB aD.nil) Tryz.func43 Tryz.call43 (fun a0 σ=>by kernel_rfl) rfl rfl
theorem Og:Sound Tryz.prog aF 12 Bk:=q1 [] 22 (.s .n (.s bz aT)) aD.nil Tryz.func12 Tryz.call12 (fun a0 σ=>by kernel_rfl) rfl rfl
noncomputable def abz (dyn:Nat→List AV→Heap→Option (AV×Heap)):Fx:=⟨Tryz.prog,aF,A.tab (fun _ _=>none) [],dyn,[],[],19,[]⟩
theorem aby (dyn:Nat→List AV→Heap→Option (AV×Heap)) (hd:∀f,Sound Tryz.prog aF f (dyn (aF.getD f 0))):Sound Tryz.prog aF 158 (A.wrap true [(.s 3)] .k (A.cR (JV dyn))):=
 Sound.wrap (Sound.qL (X:=abz dyn) (fn:=Tryz.f158) (bN:=(.s .n (.s (.s .n (.b (.l [4,8] [.exit 0,.ret] (.s .n (.s dN (.s (.b (.s .n bz)) .n)))))) aT))) .F trivial (dJ.of rfl aD.nil (hd)) Tryz.func158 Tryz.call158 (fun a0 a1 σ=>by kernel_rfl)) _ _ _ rfl rfl
theorem abx (dyn:Nat→List AV→Heap→Option (AV×Heap)) (hd:∀f,Sound Tryz.prog aF f (dyn (aF.getD f 0))):Sound Tryz.prog aF 158 (JU dyn):=aby dyn hd
noncomputable def abu (dyn:Nat→List AV→Heap→Option (AV×Heap)):Fx:=⟨Tryz.prog,aF,A.tab (fun _ _=>none) [(158,JU dyn)],dyn,[],[],9,[]⟩
theorem abt (dyn:Nat→List AV→Heap→Option (AV×Heap)) (hd:∀f,Sound Tryz.prog aF f (dyn (aF.getD f 0))):Sound Tryz.prog aF 102 (A.wrap true [(.s 3)] .k (A.cR (JT dyn))):=
 Sound.wrap (Sound.qL (X:=abu dyn) (fn:=Tryz.f102) (bN:=(.s .n aT)) .F trivial (dJ.of rfl (aD.cons (abx dyn hd) aD.nil) (hd)) Tryz.func102 Tryz.call102 (fun a0 a1 σ=>by kernel_rfl)) _ _ _ rfl rfl
theorem abr (dyn:Nat→List AV→Heap→Option (AV×Heap)) (hd:∀f,Sound Tryz.prog aF f (dyn (aF.getD f 0))):Sound Tryz.prog aF 102 (JS dyn):=abt dyn hd
theorem Ul:Sound Tryz.prog aF 103 GJ:=q2 [2] 9 (.s .n aT) aD.nil Tryz.func103 Tryz.call103 (fun a0 a1 σ=>by kernel_rfl) rfl rfl
noncomputable def acO:Fx:=⟨Tryz.prog,aF,A.tab (fun _ _=>none) [(102,JS (A.tab (fun _ _=>none) [(152,GJ)])),(89,jC),(41,rD)],(A.tab (fun _ _=>none) [(152,GJ)]),[2],[],36,[]⟩
theorem acM:Sound Tryz.prog aF 44 (A.wrap true [zW] .k (A.cR (Kf))):=
 Sound.wrap (Sound.qL (X:=acO) (fn:=Tryz.f44) (bN:=(.s .n (.s .n (.s bz (.s .n (.s (.s .n (.b (.s .n (.c [6] .n (.s .n (.c [6] .n .n)))))) aT)))))) .F trivial (dJ.of rfl (aD.cons (abr _ (sO (jj.cons (oN Ul (by kernel_rfl) rfl) jj.nil))) (aD.cons rB (aD.cons Bq aD.nil))) (sO (jj.cons (oN Ul (by kernel_rfl) rfl) jj.nil))) Tryz.func44 Tryz.call44 (fun a0 a1 σ=>by kernel_rfl)) _ _ _ rfl rfl
theorem acK:Sound Tryz.prog aF 44 Kc:=acM
noncomputable def ab7:Fx:=⟨Tryz.prog,aF,A.tab (fun _ _=>none) [],(fun _ _ _=>none),[],[],8,[]⟩
theorem ab5:Sound Tryz.prog aF 104 (A.wrap false [] .k (A.cD (EH))):=
 Sound.wrap (Sound.uc (X:=ab7) (fn:=Tryz.f104) (bN:=(.s .n (.s bz aT))) .K trivial (dJ.of rfl aD.nil (fun _=>Sound.none)) Tryz.func104 Tryz.call104 (fun a0 σ=>by kernel_rfl)) _ _ _ rfl rfl
theorem ab3:Sound Tryz.prog aF 104 EG:=yc ab5 Tryz.call104 aia
theorem ac5:Sound Tryz.prog aF 57 Bm:=q1 [] 31 (.s .n (.s bz aT)) aD.nil Tryz.func57 Tryz.call57 (fun a0 σ=>by kernel_rfl) rfl rfl
theorem Kn:Sound Tryz.prog aF 63 vR:=q2 [2] 16 (.s .n (.s bz aT)) aD.nil Tryz.func63 Tryz.call63 (fun a0 a1 σ=>by kernel_rfl) rfl rfl
noncomputable def abp (dyn:Nat→List AV→Heap→Option (AV×Heap)):Fx:=⟨Tryz.prog,aF,A.tab (fun _ _=>none) [],dyn,[],[],49,[]⟩
theorem abo (dyn:Nat→List AV→Heap→Option (AV×Heap)) (hd:∀f,Sound Tryz.prog aF f (dyn (aF.getD f 0))):Sound Tryz.prog aF 243 (A.wrap true [(.s 11)] .k (A.lG (EE dyn))):=
 Sound.wrap (Sound.MW (X:=abp dyn) (fn:=Tryz.f243) (bN:=(.s .n (.s .n (.s .n (.s (.b (.l [9,10] [.exit 0] (.s (.s .n dN) (.b (.s .n (.s .n (.c [9,10] .n .n))))))) aT))))) .F trivial (dJ.of rfl aD.nil (hd)) Tryz.func243 Tryz.call243 (fun a0 a1 a2 σ=>by kernel_rfl)) _ _ _ rfl rfl
theorem abn (dyn:Nat→List AV→Heap→Option (AV×Heap)) (hd:∀f,Sound Tryz.prog aF f (dyn (aF.getD f 0))):Sound Tryz.prog aF 243 (ED dyn):=abo dyn hd
theorem UO:Sound Tryz.prog aF 244 CP:=q2 [2] 9 (.s .n aT) aD.nil Tryz.func244 Tryz.call244 (fun a0 a1 σ=>by kernel_rfl) rfl rfl
noncomputable def aft:Fx:=⟨Tryz.prog,aF,A.tab (fun _ _=>none) [(243,ED (A.tab (fun _ _=>none) [(177,CP)]))],(A.tab (fun _ _=>none) [(177,CP)]),[],[],11,[]⟩
theorem afq:Sound Tryz.prog aF 199 (A.wrap true [(.e 11 uk)] .k (A.cR (KL))):=
 Sound.wrap (Sound.qL (X:=aft) (fn:=Tryz.f199) (bN:=(.s .n aT)) .F trivial (dJ.of rfl (aD.cons (abn _ (sO (jj.cons (oN UO (by kernel_rfl) rfl) jj.nil))) aD.nil) (sO (jj.cons (oN UO (by kernel_rfl) rfl) jj.nil))) Tryz.func199 Tryz.call199 (fun a0 a1 σ=>by kernel_rfl)) _ _ _ rfl rfl
theorem afi:Sound Tryz.prog aF 199 E4:=afq
theorem afj:Sound Tryz.prog aF 200 G7:=q1 [5,7] 40 (.s .n (.s .n (.s (.s .n (.b (.l [11] [.exit 0] (.s .n (.s dN (.s (.b (.s .n (.s .n (.b (.l [5,18] [.exit 2] (.s .n (.s dN (.s (.b (.s .n (.s .n (.c [5] .n .n)))) .n)))))))) .n)))))) aT))) aD.nil Tryz.func200 Tryz.call200 (fun a0 σ=>by kernel_rfl) rfl rfl
theorem adl:Sound Tryz.prog aF 202 UK:=q2 [2,3] 10 (.s .n aT) (aD.cons U2 aD.nil) Tryz.func202 Tryz.call202 (fun a0 a1 σ=>by kernel_rfl) rfl rfl
noncomputable def afs:Fx:=⟨Tryz.prog,aF,A.tab (fun _ _=>none) [(151,Hh),(199,E4),(200,G7),(201,GI)],(A.tab (fun _ _=>none) [(297,UK)]),[11],[],42,[]⟩
theorem afp:Sound Tryz.prog aF 159 (A.wrap true [(.e 11 uk)] (.t [(.s 5),.k]) (A.cR (KK))):=
 Sound.wrap (Sound.qL (X:=afs) (fn:=Tryz.f159) (bN:=(.s .n (.s (.s .n bz) (.s .n (.s bz (.s .n (.s (.s .n (.b (.lc [9] [.exit 0] (.s .n (.s dN (.b aT)))))) (.s .n aT)))))))) (.N (A.nn (.t [(.s 5),.k]))) (fun _ _ _ h=>Dj _ _ _ rfl h) (dJ.of rfl (aD.cons Wd (aD.cons afi (aD.cons afj (aD.cons abl aD.nil)))) (sO (jj.cons (oN adl (by kernel_rfl) rfl) jj.nil))) Tryz.func159 Tryz.call159 (fun a0 a1 σ=>by kernel_rfl)) _ _ _ rfl rfl
theorem afh:Sound Tryz.prog aF 159 KE:=afp
theorem adK:Sound Tryz.prog aF 121 Ov:=q1 [1] 14 (.s .n aT) aD.nil Tryz.func121 Tryz.call121 (fun a0 σ=>by kernel_rfl) rfl rfl
theorem N1:Sound Tryz.prog aF 62 p9:=q3 [4,6,8] 32 (.s .n (.s .n aT)) (aD.cons adK aD.nil) Tryz.func62 Tryz.call62 (fun a0 a1 a2 σ=>by kernel_rfl) rfl rfl
theorem adn:Sound Tryz.prog aF 206 Oj:=q1 [] 5 (.s .n aT) (aD.cons rB aD.nil) Tryz.func206 Tryz.call206 (fun a0 σ=>by kernel_rfl) rfl rfl
theorem UU:Sound Tryz.prog aF 162 Kp:=q1 [] 15 (.s .n (.s (.s .n (.b (.l [2,7] [.exit 0,.ret] (.s .n (.s dN (.s (.b (.s .n bz)) .n)))))) aT)) (aD.cons adn aD.nil) Tryz.func162 Tryz.call162 (fun a0 σ=>by kernel_rfl) rfl rfl
theorem UT:Sound Tryz.prog aF 237 CQ:=q1 [] 5 (.s .n aT) (aD.cons rB aD.nil) Tryz.func237 Tryz.call237 (fun a0 σ=>by kernel_rfl) rfl rfl
theorem acS:Sound Tryz.prog aF 236 N6:=q1 [1] 44 (.s .n (.s (.s .n bz) (.s bz aT))) (aD.cons UU (aD.cons UT (aD.cons Uw aD.nil))) Tryz.func236 Tryz.call236 (fun a0 σ=>by kernel_rfl) rfl rfl
theorem agq:Sound Tryz.prog aF 273 oo:=q1 [2] 6 (.s .n aT) aD.nil Tryz.func273 Tryz.call273 (fun a0 σ=>by kernel_rfl) rfl rfl
theorem Ux:Sound Tryz.prog aF 274 qc:=q2 [2,4] 24 (.s .n (.s .n aT)) (aD.cons aez aD.nil) Tryz.func274 Tryz.call274 (fun a0 a1 σ=>by kernel_rfl) rfl rfl
theorem afk:Sound Tryz.prog aF 258 KF:=q3 [3,6,7,8,11,12] 131 (.s .n (.s .n (.s (.s .n (.b (.s .n (.j aT (.s .n (.j aT (.s .n (.j aT (.s .n (.j (.s bz aT) (.s .n (.j (.s .n (.s .n (.s (.b (.l [6,7,10] [.exit 1] (.s (.s .n dN) (.b .n)))) (.s .n (.s .n (.s .n aT)))))) .n)))))))))))) aT))) (aD.cons agq (aD.cons Ux aD.nil)) Tryz.func258 Tryz.call258 (fun a0 a1 a2 σ=>by kernel_rfl) rfl rfl
theorem acU:Sound Tryz.prog aF 275 Ki:=q2 [2,3,4] 29 (.s .n (.s .n (.s .n aT))) (aD.cons aey aD.nil) Tryz.func275 Tryz.call275 (fun a0 a1 σ=>by kernel_rfl) rfl rfl
theorem acT:Sound Tryz.prog aF 276 EN:=q2 [2,3] 24 (.s .n aT) aD.nil Tryz.func276 Tryz.call276 (fun a0 a1 σ=>by kernel_rfl) rfl rfl
theorem adI:Sound Tryz.prog aF 259 Ou:=q4 [6,7,10,15] 80 (.s .n (.s (.s .n (.j (.s .n (.s .n (.s .n (.s (.b (.l [7,10,11,12] [.exit 0] (.s (.s .n dN) (.b (.s .n (.s .n (.c [7,10,11,12] .n .n))))))) aT)))) .n)) (.s .n (.s .n (.s .n (.s (.b (.l [7,15,16,17] [.exit 2] (.s (.s .n dN) (.b (.s .n (.s .n (.c [7,15,16,17] .n .n))))))) aT)))))) (aD.cons Ux (aD.cons acU (aD.cons acT aD.nil))) Tryz.func259 Tryz.call259 (fun a0 a1 a2 a3 σ=>by kernel_rfl) rfl rfl
theorem agp:Sound Tryz.prog aF 238 Pu:=q2 [2,6,7] 46 (.s .n (.s .n (.s (.b (.s .n (.j aT bz))) (.s .n aT)))) (aD.cons afk (aD.cons adI aD.nil)) Tryz.func238 Tryz.call238 (fun a0 a1 σ=>by kernel_rfl) rfl rfl
theorem ago:Sound Tryz.prog aF 191 Pt:=q2 [2] 21 (.s .n (.s (.s .n bz) aT)) (aD.cons acS (aD.cons UT (aD.cons Bq (aD.cons E0 (aD.cons agp aD.nil))))) Tryz.func191 Tryz.call191 (fun a0 a1 σ=>by kernel_rfl) rfl rfl
theorem Oh:Sound Tryz.prog aF 142 uK:=q2 [2] 16 (.s .n (.s .n aT)) (aD.cons ago aD.nil) Tryz.func142 Tryz.call142 (fun a0 a1 σ=>by kernel_rfl) rfl rfl
theorem aeB:Sound Tryz.prog aF 207 OM:=q2 [] 16 (.s .n (.s .n (.s (.s .n (.c [5] .n .n)) aT))) aD.nil Tryz.func207 Tryz.call207 (fun a0 a1 σ=>by kernel_rfl) rfl rfl
theorem aeC:Sound Tryz.prog aF 163 ON:=q2 [] 12 (.s .n aT) (aD.cons aeB aD.nil) Tryz.func163 Tryz.call163 (fun a0 a1 σ=>by kernel_rfl) rfl rfl
theorem U3:Sound Tryz.prog aF 111 CS:=q2 [] 18 (.s .n (.s (.s .n bz) aT)) (aD.cons UU (aD.cons aeC aD.nil)) Tryz.func111 Tryz.call111 (fun a0 a1 σ=>by kernel_rfl) rfl rfl
theorem Uy:Sound Tryz.prog aF 82 Bj:=q4 [6,10,18] 124 (.s .n (.s .n (.s .n (.s (.s .n (.b (.l [6,10,11,12,13,14,35] [.exit 0] (.s .n (.s dN (.s (.b (.s .n (.s .n (.s .n (.s .n (.s (.s .n dN) (.s .n (.s (.s .n (.c [6,10,18,20] .n .n)) (.s .n (.s .n (.c [6,10,11,12,13,14] .n .n))))))))))) .n)))))) aT)))) (aD.cons Kn (aD.cons N1 (aD.cons Oh (aD.cons U3 aD.nil)))) Tryz.func82 Tryz.call82 (fun a0 a1 a2 a3 σ=>by kernel_rfl) rfl rfl
noncomputable def abR (dyn:Nat→List AV→Heap→Option (AV×Heap)):Fx:=⟨Tryz.prog,aF,A.tab (fun _ _=>none) [],dyn,[],[],19,[]⟩
theorem abO (dyn:Nat→List AV→Heap→Option (AV×Heap)) (hd:∀f,Sound Tryz.prog aF f (dyn (aF.getD f 0))):Sound Tryz.prog aF 204 (A.wrap true [(.s 8)] .k (A.cR (J4 dyn))):=
 Sound.wrap (Sound.qL (X:=abR dyn) (fn:=Tryz.f204) (bN:=(.s .n (.s (.s .n (.b (.l [4,8] [.exit 0,.ret] (.s .n (.s dN (.s (.b (.s .n bz)) .n)))))) aT))) .F trivial (dJ.of rfl aD.nil (hd)) Tryz.func204 Tryz.call204 (fun a0 a1 σ=>by kernel_rfl)) _ _ _ rfl rfl
theorem abL (dyn:Nat→List AV→Heap→Option (AV×Heap)) (hd:∀f,Sound Tryz.prog aF f (dyn (aF.getD f 0))):Sound Tryz.prog aF 204 (GG dyn):=abO dyn hd
theorem PF:Sound Tryz.prog aF 161 uN:=q1 [1,2] 25 (.s .n (.s .n (.s .n (.s .n aT)))) aD.nil Tryz.func161 Tryz.call161 (fun a0 σ=>by kernel_rfl) rfl rfl
end
section
set_option maxRecDepth 100000
theorem Uo:Sound Tryz.prog aF 205 EL:=q2 [2] 8 (.s .n aT) aD.nil Tryz.func205 Tryz.call205 (fun a0 a1 σ=>by kernel_rfl) rfl rfl
noncomputable def ac8:Fx:=⟨Tryz.prog,aF,A.tab (fun _ _=>none) [(204,GG (A.tab (fun _ _=>none) [(349,EL)])),(161,uN)],(A.tab (fun _ _=>none) [(349,EL)]),[7,12,13,14],[],77,[]⟩
theorem ac6:Sound Tryz.prog aF 160 (A.wrap false [] Dr (A.DY (Oe))):=
 Sound.wrap (Sound.abk (X:=ac8) (fn:=Tryz.f160) (bN:=(.s .n (.s .n (.s .n (.s (.s .n (.c [7,12,13,14] (.s .n (.s .n (.c [7,12,13,14] .n .n))) .n)) (.s .n (.s (.s .n (.c [12,13,14] .n .n)) (.s (.s .n (.c [12,13] .n .n)) aT)))))))) .F trivial (dJ.of rfl (aD.cons (abL _ (sO (jj.cons (oN Uo (by kernel_rfl) rfl) jj.nil))) (aD.cons PF aD.nil)) (sO (jj.cons (oN Uo (by kernel_rfl) rfl) jj.nil))) Tryz.func160 Tryz.call160 (fun a0 a1 a2 a3 a4 a5 σ=>by kernel_rfl)) _ _ _ rfl rfl
theorem ac3:Sound Tryz.prog aF 160 Bl:=ac6
noncomputable def ac9:Fx:=⟨Tryz.prog,aF,A.tab (fun _ _=>none) [(63,vR),(159,KE),(152,CW),(62,p9),(142,uK),(82,Bj),(160,Bl),(161,uN)],(fun _ _ _=>none),[11,18,21,24,25,27],[],239,[]⟩
theorem ac7:Sound Tryz.prog aF 105 (A.wrap false [] .k (A.DX (Of))):=
 Sound.wrap (Sound.abj (X:=ac9) (fn:=Tryz.f105) (bN:=(.s .n (.s .n (.s .n (.s .n (.s .n (.s .n (.s (.s .n (.b (.l [11,61] [.exit 0] (.s .n (.s dN (.s (.b (.s .n (.s .n (.s .n (.s .n (.s bz (.s .n (.s (.s .n (.c [11,18,23] .n (.s .n (.c [11,18,23] .n .n)))) .n)))))))) .n)))))) (.s (.s .n (.b (.lc [11] [.exit 2] (.s .n (.s dN (.b (.s .n (.s .n (.s (.s .n dN) (.s (.s .n (.c [11,24,25] aT .n)) .n)))))))))) (.s .n (.s .n (.c [] .n .n)))))))))))) .G trivial (dJ.of rfl (aD.cons Kn (aD.cons afh (aD.cons Vf (aD.cons N1 (aD.cons Oh (aD.cons Uy (aD.cons ac3 (aD.cons PF aD.nil)))))))) (fun _=>Sound.none)) Tryz.func105 Tryz.call105 (fun a0 a1 a2 a3 a4 σ=>by kernel_rfl)) _ _ _ rfl rfl
theorem UJ:Sound Tryz.prog aF 105 sK:=ac7
noncomputable def ac0:Fx:=⟨Tryz.prog,aF,A.tab (fun _ _=>none) [(104,EG),(57,Bm),(105,sK)],(fun _ _ _=>none),[4],[5],66,[]⟩
theorem acY:Sound Tryz.prog aF 45 (A.wrap false [] .k (A.cR (Km))):=
 Sound.wrap (Sound.qL (X:=ac0) (fn:=Tryz.f45) (bN:=(.s .n (.s .n (.s .n (.b (.l [4] [.ret] (.b (.s .n (.s (.s .n (.b (.l [4,6,7,21] [.exit 2] (.s .n (.s dN (.s (.b (.s .n (.s .n (.s .n (.c [4,6,7] .n .n))))) .n)))))) (.s bz aT)))))))))) .K trivial (dJ.of rfl (aD.cons ab3 (aD.cons ac5 (aD.cons UJ aD.nil))) (fun _=>Sound.none)) Tryz.func45 Tryz.call45 (fun a0 a1 σ=>by kernel_rfl)) _ _ _ rfl rfl
theorem UD:Sound Tryz.prog aF 45 EO:=acY
noncomputable def abI (dyn:Nat→List AV→Heap→Option (AV×Heap)):Fx:=⟨Tryz.prog,aF,A.tab (fun _ _=>none) [],dyn,[],[],19,[]⟩
theorem abH (dyn:Nat→List AV→Heap→Option (AV×Heap)) (hd:∀f,Sound Tryz.prog aF f (dyn (aF.getD f 0))):Sound Tryz.prog aF 106 (A.wrap true [(.s 10)] .k (A.cR (JY dyn))):=
 Sound.wrap (Sound.qL (X:=abI dyn) (fn:=Tryz.f106) (bN:=(.s .n (.s (.s .n (.b (.l [4,8] [.exit 0,.ret] (.s .n (.s dN (.s (.b (.s .n bz)) .n)))))) aT))) .F trivial (dJ.of rfl aD.nil (hd)) Tryz.func106 Tryz.call106 (fun a0 a1 σ=>by kernel_rfl)) _ _ _ rfl rfl
theorem abG (dyn:Nat→List AV→Heap→Option (AV×Heap)) (hd:∀f,Sound Tryz.prog aF f (dyn (aF.getD f 0))):Sound Tryz.prog aF 106 (GF dyn):=abH dyn hd
noncomputable def abY (dyn:Nat→List AV→Heap→Option (AV×Heap)):Fx:=⟨Tryz.prog,aF,A.tab (fun _ _=>none) [],dyn,[],[],19,[]⟩
theorem abW (dyn:Nat→List AV→Heap→Option (AV×Heap)) (hd:∀f,Sound Tryz.prog aF f (dyn (aF.getD f 0))):Sound Tryz.prog aF 108 (A.wrap true [(.s 11)] .k (A.cR (J6 dyn))):=
 Sound.wrap (Sound.qL (X:=abY dyn) (fn:=Tryz.f108) (bN:=(.s .n (.s (.s .n (.b (.l [4,8] [.exit 0,.ret] (.s .n (.s dN (.s (.b (.s .n bz)) .n)))))) aT))) .F trivial (dJ.of rfl aD.nil (hd)) Tryz.func108 Tryz.call108 (fun a0 a1 σ=>by kernel_rfl)) _ _ _ rfl rfl
theorem abU (dyn:Nat→List AV→Heap→Option (AV×Heap)) (hd:∀f,Sound Tryz.prog aF f (dyn (aF.getD f 0))):Sound Tryz.prog aF 108 (GH dyn):=abW dyn hd
noncomputable def acG:Fx:=⟨Tryz.prog,aF,A.tab (fun _ _=>none) [(63,vR),(62,p9),(142,uK),(161,uN)],(fun _ _ _=>none),[7,10,11],[],82,[]⟩
theorem acE:Sound Tryz.prog aF 110 (A.wrap false [] .k (A.vB (NX))):=
 Sound.wrap (Sound.abi (X:=acG) (fn:=Tryz.f110) (bN:=(.s .n (.s .n (.s .n (.s (.s .n (.b (.lc [7] [.exit 0] (.s .n (.s dN (.b (.s .n (.s .n (.s (.s .n dN) .n))))))))) .n))))) .G trivial (dJ.of rfl (aD.cons Kn (aD.cons N1 (aD.cons Oh (aD.cons PF aD.nil)))) (fun _=>Sound.none)) Tryz.func110 Tryz.call110 (fun a0 a1 a2 a3 σ=>by kernel_rfl)) _ _ _ rfl rfl
theorem acC:Sound Tryz.prog aF 110 GM:=acE
theorem NZ:Sound Tryz.prog aF 107 Bh:=q2 [2] 9 (.s .n aT) aD.nil Tryz.func107 Tryz.call107 (fun a0 a1 σ=>by kernel_rfl) rfl rfl
theorem N0:Sound Tryz.prog aF 109 Bi:=q2 [2] 9 (.s .n aT) aD.nil Tryz.func109 Tryz.call109 (fun a0 a1 σ=>by kernel_rfl) rfl rfl
noncomputable def adq:Fx:=⟨Tryz.prog,aF,A.tab (fun _ _=>none) [(106,GF (A.tab (fun _ _=>none) [(352,Bh),(354,Bi)])),(105,sK),(108,GH (A.tab (fun _ _=>none) [(352,Bh),(354,Bi)])),(63,vR),(110,GM)],(A.tab (fun _ _=>none) [(352,Bh),(354,Bi)]),[],[],176,[]⟩
theorem adp:Sound Tryz.prog aF 46 (A.wrap false [] .k (A.lG (ER))):=
 Sound.wrap (Sound.MW (X:=adq) (fn:=Tryz.f46) (bN:=(.s .n (.s (.s .n (.b (.s .n (.j (.s .n (.s .n aT)) (.s .n (.j (.s .n (.s .n aT)) .n)))))) (.s .n (.s .n (.s .n (.s (.s .n (.b (.s .n (.j (.s .n bz) (.s .n (.j (.s .n bz) (.s .n (.j (.s .n bz) (.s .n (.j (.s bz .n) (.s .n (.j (.s bz .n) (.s .n (.j (.s bz (.s .n (.s .n aT))) (.s .n (.c [] .n .n)))))))))))))))) (.s .n (.s (.s .n (.c [] .n .n)) aT))))))))) .K trivial (dJ.of rfl (aD.cons (abG _ (sO (jj.cons (oN NZ (by kernel_rfl) rfl) (jj.cons (oN N0 (by kernel_rfl) rfl) jj.nil)))) (aD.cons UJ (aD.cons (abU _ (sO (jj.cons (oN NZ (by kernel_rfl) rfl) (jj.cons (oN N0 (by kernel_rfl) rfl) jj.nil)))) (aD.cons Kn (aD.cons acC aD.nil))))) (sO (jj.cons (oN NZ (by kernel_rfl) rfl) (jj.cons (oN N0 (by kernel_rfl) rfl) jj.nil)))) Tryz.func46 Tryz.call46 (fun a0 a1 a2 σ=>by kernel_rfl)) _ _ _ rfl rfl
theorem ado:Sound Tryz.prog aF 46 GR:=adp
noncomputable def adP:Fx:=⟨Tryz.prog,aF,A.tab (fun _ _=>none) [(41,rD),(42,Kb),(43,GY),(12,Bk),(40,ya),(44,Kc),(45,EO),(46,GR)],(fun _ _ _=>none),[3],[6],66,[]⟩
theorem adM:Sound Tryz.prog aF 11 (A.wrap false [] .k (A.cR (Kr))):=
 Sound.wrap (Sound.qL (X:=adP) (fn:=Tryz.f11) (bN:=(.s .n (.s .n (.s (.s .n bz) (.s .n (.s (.s .n bz) (.s .n (.s .n aT)))))))) .K trivial (dJ.of rfl (aD.cons Bq (aD.cons acJ (aD.cons U4 (aD.cons Og (aD.cons E0 (aD.cons acK (aD.cons UD (aD.cons ado aD.nil)))))))) (fun _=>Sound.none)) Tryz.func11 Tryz.call11 (fun a0 a1 σ=>by kernel_rfl)) _ _ _ rfl rfl
theorem adJ:Sound Tryz.prog aF 11 EU:=adM
noncomputable def ab6:Fx:=⟨Tryz.prog,aF,A.tab (fun _ _=>none) [],(fun _ _ _=>none),[],[],8,[]⟩
theorem ab4:Sound Tryz.prog aF 49 (A.wrap false [] .k (A.cD (NG))):=
 Sound.wrap (Sound.uc (X:=ab6) (fn:=Tryz.f49) (bN:=(.s .n (.s bz aT))) .K trivial (dJ.of rfl aD.nil (fun _=>Sound.none)) Tryz.func49 Tryz.call49 (fun a0 σ=>by kernel_rfl)) _ _ _ rfl rfl
theorem ab2:Sound Tryz.prog aF 49 J7:=yc ab4 Tryz.call49 agZ
noncomputable def acF:Fx:=⟨Tryz.prog,aF,A.tab (fun _ _=>none) [(49,J7)],(fun _ _ _=>none),[],[],8,[]⟩
theorem acD:Sound Tryz.prog aF 14 (A.wrap false [] .k (A.cD (EM))):=
 Sound.wrap (Sound.uc (X:=acF) (fn:=Tryz.f14) (bN:=(.s .n aT)) .K trivial (dJ.of rfl (aD.cons ab2 aD.nil) (fun _=>Sound.none)) Tryz.func14 Tryz.call14 (fun a0 σ=>by kernel_rfl)) _ _ _ rfl rfl
theorem acB:Sound Tryz.prog aF 14 NV:=acD
theorem ac4:Sound Tryz.prog aF 47 GQ:=q2 [] 16 (.s .n aT) (aD.cons U4 (aD.cons Bq (aD.cons Og (aD.cons E0 aD.nil)))) Tryz.func47 Tryz.call47 (fun a0 a1 σ=>by kernel_rfl) rfl rfl
theorem acW:Sound Tryz.prog aF 48 CO:=q4 [6] 42 (.s .n (.s .n (.s bz (.s bz (.s .n aT))))) (aD.cons Uy (aD.cons U3 aD.nil)) Tryz.func48 Tryz.call48 (fun a0 a1 a2 a3 σ=>by kernel_rfl) rfl rfl
noncomputable def acP:Fx:=⟨Tryz.prog,aF,A.tab (fun _ _=>none) [(47,GQ),(45,EO),(48,CO)],(fun _ _ _=>none),[10],[7],40,[]⟩
theorem acN:Sound Tryz.prog aF 13 (A.wrap false [] .k (A.cR (Kg))):=
 Sound.wrap (Sound.qL (X:=acP) (fn:=Tryz.f13) (bN:=(.s .n (.s (.s .n bz) (.s .n (.s .n (.s (.s .n (.b (.l [8,25] [.exit 0] (.s .n (.s dN (.s (.b aT) .n)))))) aT)))))) .K trivial (dJ.of rfl (aD.cons ac4 (aD.cons UD (aD.cons acW aD.nil))) (fun _=>Sound.none)) Tryz.func13 Tryz.call13 (fun a0 a1 σ=>by kernel_rfl)) _ _ _ rfl rfl
theorem acL:Sound Tryz.prog aF 13 Ke:=acN
theorem abT:Sound Tryz.prog aF 17 J5:=q2 [] 26 (.s .n (.s bz (.s (.s .n (.b (.l [4,13] [.exit 0,.ret] (.s .n (.s dN (.s (.b (.s .n bz)) .n)))))) aT))) aD.nil Tryz.func17 Tryz.call17 (fun a0 a1 σ=>by kernel_rfl) rfl rfl
theorem ab1:Sound Tryz.prog aF 4 Uh:=q3 [3,10] 96 (.s .n (.s bz (.s .n (.s .n (.s bz (.s (.s .n (.b (.l [3,42] [.exit 0] (.s .n (.s dN (.s (.b aT) .n)))))) (.s .n (.s bz (.s .n (.s .n aT)))))))))) (aD.cons agr (aD.cons adJ (aD.cons Og (aD.cons acB (aD.cons acL (aD.cons abT aD.nil)))))) Tryz.func4 Tryz.call4 (fun a0 a1 a2 σ=>by kernel_rfl) rfl rfl
end
section
def HP:=(Nat→Option aJ)→Prop
namespace HP
def emp:HP:=fun h=>∀i,h i=none
def blk (id:Nat) (b:aJ):HP:=fun h=>∀i,h i=if i=id then some b else none
def star (P Q:HP):HP:=fun h=>∃f g,P f∧Q g∧(∀i,f i=none∨g i=none)∧∀i,h i=(f i).or (g i)
def pr (p:Prop):HP:=fun h=>p∧∀i,h i=none
def ex {α:Type} (P:α→HP):HP:=fun h=>∃x,P x h
instance : Mul HP := ⟨star⟩
theorem Xl (P Q:HP):P*Q=Q*P:=by
 have key:∀P Q:HP,∀h,(P*Q) h→(Q*P) h:=by
  rintro P Q h ⟨f,g,hf,hg,hd,hh⟩
  refine⟨g,f,hg,hf,fun i=>(hd i).symm,fun i=>?_⟩
  rw[hh i]
  rcases hd i with e|e<;>rw[e]<;>simp
 funext h
 exact propext ⟨key P Q h,key Q P h⟩
theorem tJ (P Q R:HP):P*Q*R=P*(Q*R):=by
 funext h
 apply propext
 constructor
 ·rintro⟨f,g,⟨f1,f2,h1,h2,I7,hf⟩,hg,hd,hh⟩
  refine⟨f1,fun i=>(f2 i).or (g i),h1,⟨f2,g,h2,hg,fun i=>?_,fun i=>rfl⟩,fun i=>?_,fun i=>?_⟩
  ·have:=hd i;rw[hf i]at this
   rcases this with e|e
   ·cases h:f1 i<;>simp [h]at e<;>exact .inl e
   ·exact .inr e
  ·have a:=hd i;have b:=I7 i;rw[hf i]at a
   rcases b with b|b
   ·exact .inl b
   ·rcases a with a|a
    ·cases h:f1 i<;>simp [h]at a;exact .inl rfl
    ·exact .inr (show(f2 i).or (g i)=none by rw[b,a];rfl)
  ·rw[hh i,hf i];cases f1 i<;>simp
 ·rintro⟨f,g,hf,⟨g1,g2,h1,h2,I7,hg⟩,hd,hh⟩
  refine⟨fun i=>(f i).or (g1 i),g2,⟨f,g1,hf,h1,fun i=>?_,fun i=>rfl⟩,h2,fun i=>?_,fun i=>?_⟩
  ·have:=hd i;rw[hg i]at this
   rcases this with e|e
   ·exact .inl e
   ·cases h:g1 i<;>simp [h]at e;exact .inr rfl
  ·have a:=hd i;have b:=I7 i;rw[hg i]at a
   rcases b with b|b
   ·rcases a with a|a
    ·exact .inl (show(f i).or (g1 i)=none by rw[a,b];rfl)
    ·rw[b]at a;exact .inr (by simpa using a)
   ·exact .inr b
  ·show h i=((f i).or (g1 i)).or (g2 i)
   rw[hh i,hg i];cases f i<;>simp
theorem ym (P:HP):emp*P=P:=by
 funext h
 apply propext
 constructor
 ·rintro⟨f,g,hf,hg,hd,hh⟩
  have:h=g:=by funext i;rw[hh i,hf i];rfl
  rw[this];exact hg
 ·intro hp
  exact⟨fun _=>none,h,fun _=>rfl,hp,fun _=>.inl rfl,fun i=>by simp⟩
theorem ai6 (P:HP):P*emp=P:=by rw[Xl,ym]
instance : Std.Associative (α := HP) (· * ·) := ⟨tJ⟩
instance : Std.Commutative (α := HP) (· * ·) := ⟨Xl⟩
end HP
open HP
structure Hs (B : aJ → Prop) (aC σ : Heap) (P : HP) : Prop where
 pre:∃bs,σ=aC++bs∧∀b∈bs,B b
 own:∃h,P h∧∀i b,h i=some b→aC.length≤i∧σ[i]? =some b
def bP:aJ→Prop:=fun _=>True
section
variable {B : aJ → Prop} {aC σ : Heap} {P Q R : HP} {id : Nat} {b b' : aJ}
theorem hs_eq (e:P=Q) (H:Hs B aC σ P):Hs B aC σ Q:=e▸H
theorem YH (k:∀h,P h→Q h) (H:Hs B aC σ (P*R)):Hs B aC σ (Q*R):=by
 obtain⟨h1,h,⟨f,g,hf,hg,hd,hh⟩,h2⟩:=H
 exact⟨h1,h,⟨f,g,k f hf,hg,hd,hh⟩,h2⟩
theorem wk (H:Hs B aC σ (P*R)):Hs B aC σ R:=by
 obtain⟨h1,h,⟨f,g,hf,hg,hd,hh⟩,h2⟩:=H
 refine⟨h1,g,hg,fun i b hb=>h2 i b ?_⟩
 rw[hh i]
 rcases hd i with e|e
 ·rw[e,hb];rfl
 ·rw[e]at hb;cases hb
theorem mZ {p:Prop}:Hs B aC σ (pr p*R)↔p∧Hs B aC σ R:=by
 constructor
 ·intro H
  refine⟨?_,wk H⟩
  obtain⟨h1,h,⟨f,g,hf,hg,hd,hh⟩,h2⟩:=H
  exact hf.1
 ·rintro⟨hp,h1,h,hr,h2⟩
  exact⟨h1,h,⟨fun _=>none,h,⟨hp,fun _=>rfl⟩,hr,fun _=>.inl rfl,fun i=>by simp⟩,h2⟩
theorem My {α:Type} {P:α→HP}:Hs B aC σ (ex P*R)↔∃x,Hs B aC σ (P x*R):=by
 constructor
 ·rintro⟨h1,h,⟨f,g,⟨x,hf⟩,hg,hd,hh⟩,h2⟩
  exact⟨x,h1,h,⟨f,g,hf,hg,hd,hh⟩,h2⟩
 ·rintro⟨x,h1,h,⟨f,g,hf,hg,hd,hh⟩,h2⟩
  exact⟨h1,h,⟨f,g,⟨x,hf⟩,hg,hd,hh⟩,h2⟩
theorem HQ (σ:Heap):Hs B σ σ emp:=⟨⟨[],by simp,by simp⟩,fun _=>none,fun _=>rfl,fun _ _ h=>by cases h⟩
theorem ZC (H:Hs B aC σ P):aC.length≤σ.length:=by obtain⟨⟨bs,rfl,_⟩,_⟩:=H;simp
theorem iD (H:Hs B aC σ (blk id b*R)):aC.length≤id∧σ[id]? =some b:=by
 obtain⟨h1,h,⟨f,g,hf,hg,hd,hh⟩,h2⟩:=H
 exact h2 id b (by rw[hh id,hf id];simp)
theorem an4 (H:Hs B aC σ (blk id b*R)):B b:=by
 obtain⟨h1,h2⟩:=iD H
 obtain⟨⟨bs,rfl,hb⟩,_⟩:=H
 rw[List.getElem?_append_right h1]at h2
 exact hb b (List.mem_of_getElem? h2)
theorem zG (H:Hs B aC σ (blk id b*R)) (hb:B b'):Hs B aC (σ.set id b') (blk id b'*R):=by
 obtain⟨hid,jY⟩:=iD H
 have hlt:=(List.getElem?_eq_some_iff.1 jY).1
 obtain⟨⟨bs,rfl,hB⟩,h,⟨f,g,hf,hg,hd,hh⟩,h2⟩:=H
 refine⟨⟨bs.set (id-aC.length) b',by rw[List.set_append_right _ _ hid],fun x hx=>?_⟩,fun i=>if i=id then some b' else g i,⟨fun i=>if i=id then some b' else none,g,fun i=>rfl,hg,fun i=>?_,fun i=>?_⟩,fun i x hx=>?_⟩
 ·rcases List.mem_or_eq_of_mem_set hx with hx|hx
  ·exact hB x hx
  ·subst hx;exact hb
 ·have:=hd i;rw[hf i]at this
  by_cases e:i=id
  ·simp only[e,if_true]at this ⊢
   rcases this with h|h
   ·cases h
   ·exact .inr h
  ·simp [e]
 ·by_cases e:i=id<;>simp [e]
 ·by_cases e:i=id
  ·subst e
   simp only[if_true,Option.some.injEq]at hx
   subst hx
   exact⟨hid,by rw[List.getElem?_set_self hlt]⟩
  ·simp only[e,if_false]at hx
   rw[List.getElem?_set_ne (fun e'=>e e'.symm)]
   have:=h2 i x (by rw[hh i,hf i];simp [e,hx])
   exact this
theorem FK (H:Hs B aC σ R) (hb:B b):Hs B aC (σ++[b]) (blk σ.length b*R):=by
 have hl:=ZC H
 obtain⟨⟨bs,rfl,hB⟩,h,hr,h2⟩:=H
 have hn:∀i x,h i=some x→i<(aC++bs).length:=fun i x hx=>(List.getElem?_eq_some_iff.1 (h2 i x hx).2).1
 refine⟨⟨bs++[b],by simp,fun x hx=>?_⟩,fun i=>if i=(aC++bs).length then some b else h i,⟨fun i=>if i=(aC++bs).length then some b else none,h,fun i=>rfl,hr,fun i=>?_,fun i=>?_⟩,fun i x hx=>?_⟩
 ·rcases List.mem_append.1 hx with hx|hx
  ·exact hB x hx
  ·simp at hx;subst hx;exact hb
 ·by_cases e:i=(aC++bs).length
  ·right
   cases hi:h i with
   |none=>rfl
   |some x=>have:=hn i x hi;omega
  ·simp only[e,if_false,true_or]
 ·by_cases e:i=(aC++bs).length<;>simp only[e,if_true,if_false,Option.or_some,Option.none_or,Option.some_or]
 ·by_cases e:i=(aC++bs).length
  ·subst e
   simp only[if_true,Option.some.injEq]at hx
   subst hx
   exact⟨hl,by simp⟩
  ·simp only[e,if_false]at hx
   obtain⟨k1,k2⟩:=h2 i x hx
   exact⟨k1,by rw[List.getElem?_append_left (hn i x hx)];exact k2⟩
end
section
variable {α : Type} {E : List AV → α → HP} {B : aJ → Prop} {aC σ : Heap} {R : HP}
def els (E:List AV→α→HP):List (List AV)→List α→HP
 |[],[]=>emp
 |e::es,x::l=>E e x*els E es l
 |_,_=>pr False
theorem L2:∀{es:List (List AV)} {l:List α} {R:HP},Hs B aC σ (els E es l*R)→es.length=l.length
 |[],[],_,_=>rfl
 |[],_::_,_,H=>(mZ.1 H).1.elim
 |_::_,[],_,H=>(mZ.1 H).1.elim
 |e::es,x::l,R,H=>by
  have:=L2 (es:=es) (l:=l) (R:=E e x*R) (hs_eq (by rw[els];ac_rfl) H)
  simp [this]
theorem Yz:∀{xC Gm:List (List AV)} {l1 l2:List α},xC.length=l1.length→els E (xC++Gm) (l1++l2)=els E xC l1*els E Gm l2
 |[],Gm,[],l2,_=>by rw[els,ym];rfl
 |e::xC,Gm,x::l1,l2,h=>by
  simp only[List.cons_append,els]
  rw[Yz (by simpa using h)]
  ac_rfl
theorem ajD (e:List AV) (x:α):els E [e] [x]=E e x:=by rw[els,els,ai6]
def fl (c:α→List AV):List AV→α→HP:=fun e x=>pr (e=c x)
theorem Mk {c:α→List AV}:∀{es:List (List AV)} {l:List α} {R:HP},Hs B aC σ (els (fl c) es l*R)↔es=l.map c∧Hs B aC σ R
 |[],[],R=>by rw[els,ym];simp
 |[],x::l,R=>by show Hs B aC σ (pr False*R)↔_;rw[mZ];simp
 |e::es,[],R=>by show Hs B aC σ (pr False*R)↔_;rw[mZ];simp
 |e::es,x::l,R=>by
  rw[els,fl,tJ,mZ,Mk,List.map_cons,List.cons.injEq,and_assoc]
def Sl (E:List AV→α→HP) (sz:Nat) (v:AV) (l:List α):HP:=fun h=>(l=[]∧(v=.au∨v=.ez)∧emp h)∨∃id g seg,v=.os id g sz 0 l.length∧(blk id (.arr g sz seg)*els E seg l) h
variable {sz : Nat} {v : AV} {l : List α}
theorem zu (H:Hs B aC σ (Sl E sz v l*R)):(l=[]∧(v=.au∨v=.ez)∧Hs B aC σ R)∨∃id g seg,v=.os id g sz 0 l.length∧seg.length=l.length∧Hs B aC σ (blk id (.arr g sz seg)*(els E seg l*R)):=by
 have H2:=wk H
 obtain⟨h1,h,⟨f,g,hf,hg,hd,hh⟩,h2⟩:=H
 rcases hf with⟨k1,k2,k3⟩|⟨id,gg,seg,k1,k2⟩
 ·exact .inl ⟨k1,k2,H2⟩
 ·have K:Hs B aC σ (blk id (.arr gg sz seg)*(els E seg l*R)):=hs_eq (tJ _ _ _) ⟨h1,h,⟨f,g,k2,hg,hd,hh⟩,h2⟩
  exact .inr ⟨id,gg,seg,k1,L2 (R:=blk id (.arr gg sz seg)*R) (hs_eq (by ac_rfl) K),K⟩
theorem qZ (H:Hs B aC σ R) (hv:v=.au∨v=.ez):Hs B aC σ (Sl E sz v []*R):=
 YH (P:=emp) (fun h k=>.inl ⟨rfl,hv,k⟩) (hs_eq (ym R).symm H)
theorem MH {id g:Nat} {seg:List (List AV)} {n:Nat} (H:Hs B aC σ (blk id (.arr g sz seg)*(els E seg l*R))) (hn:n=l.length:=by rfl):Hs B aC σ (Sl E sz (.os id g sz 0 n) l*R):=
 YH (P:=blk id (.arr g sz seg)*els E seg l) (fun h k=>.inr ⟨id,g,seg,by rw[hn],k⟩) (hs_eq (tJ _ _ _).symm H)
theorem ZV (H:Hs B aC σ (Sl E sz v l*R)):A.bG v=some (.int .i64 l.length):=by
 rcases zu H with⟨rfl,rfl|rfl,_⟩|⟨id,g,seg,rfl,_⟩<;>rfl
theorem HR {ys:List (List AV)} {xs:List α} {most:Nat} (H:Hs B aC σ (Sl E sz v l*(els E ys xs*R))) (hm:l.length+xs.length≤most) (hB:∀g g' seg,(seg=[]∨B (.arr g sz seg))→B (.arr g' sz (seg++ys))):
  ∃v' σ',A.append sz most v (.sl sz ys) σ=some (v',σ')∧Hs B aC σ' (Sl E sz v' (l++xs)*R):=by
 rcases zu H with⟨rfl,hv,H⟩|⟨id,g,seg,rfl,hl,H⟩
 ·have hxl:=L2 H
  by_cases hy:ys=[]
  ·subst hy
   have:xs=[]:=List.eq_nil_of_length_eq_zero (by simpa using hxl.symm)
   subst this
   refine⟨v,σ,?_,qZ (wk H) hv⟩
   rcases hv with rfl|rfl<;>simp [A.append,A.elems,A.sM]
  ·refine⟨.os σ.length ys.length sz 0 ys.length,σ++[.arr ys.length sz ys],?_,?_⟩
   ·have:ys.length≤most:=by simp at hm;omega
    rcases hv with rfl|rfl<;>simp [A.append,A.elems,A.sM,hy,this]
   ·have H2:=FK H (by simpa using hB 0 ys.length [] (.inl rfl):B (.arr ys.length sz ys))
    exact MH H2 (by simpa using hxl)
 ·have hxl:=L2 (hs_eq (show _=els E ys xs*(blk id (.arr g sz seg)*(els E seg l*R)) by ac_rfl) H)
  obtain⟨h1,h2⟩:=iD H
  by_cases hy:ys=[]
  ·subst hy
   have:xs=[]:=List.eq_nil_of_length_eq_zero (by simpa using hxl.symm)
   subst this
   refine⟨.os id g sz 0 l.length,σ,?_,?_⟩
   ·have:l.length≤most:=by simpa using hm
    simp [A.append,A.elems,A.sM,h2,hl,this]
   ·rw[List.append_nil]
    exact MH (hs_eq (by rw[els,ym]) H)
  ·have hp:0<ys.length:=List.length_pos_iff.2 hy
   refine⟨.os id (g+ys.length) sz 0 (l.length+ys.length),σ.set id (.arr (g+ys.length) sz (seg++ys)),?_,?_⟩
   ·have e1:l.length+ys.length≤most:=by omega
    have e2:seg.take l.length=seg:=List.take_of_length_le (by omega)
    simp [A.append,A.elems,A.sM,h2,hl,e1,hy,e2,hp]
   ·have H2:=zG (b':=.arr (g+ys.length) sz (seg++ys)) H (hB g _ seg (.inr (an4 H)))
    exact MH (id:=id) (g:=g+ys.length) (seg:=seg++ys) (hs_eq (by rw[Yz hl];ac_rfl) H2) (by simp;omega)
end
end
section
open HP
section
variable {σ : Heap} {id g sz off len : Nat} {es : List (List AV)}
theorem cQ {α:Type} {X Y:Option α}:A.cond (.bool true) X Y=X:=rfl
theorem cB {α:Type} {X Y:Option α}:A.cond (.bool false) X Y=Y:=rfl
theorem ak0 {R:Type} {p:Nat→Prop} {k:Nat→Option R} {r:R} (n:Nat) (hn:p n) (h:∀n,p n→k n=some r):A.all p k=some r:=by
 have hx:∃r,∀n,p n→k n=some r:=⟨r,h⟩
 unfold A.all
 rw[dif_pos hx]
 have:=Classical.choose_spec hx n hn
 rw[h n hn]at this
 injection this with this
 rw[←this]
end
section
variable {α : Type} {E : List AV → α → HP} {aC σ : Heap} {R : HP} {sz most : Nat} {zs : List AV} {rot : List AV → Heap → Option (AV × Heap)} {v : AV} {l : List α} {y : α} {ye : List AV} {i : Nat}
end
end
def aR (n lo hi:Int):Bool:=decide (lo≤n∧n≤hi)
def qW (c:UInt8):Bool:=decide (97≤c.toNat∧c.toNat≤122)||decide (48≤c.toNat∧c.toNat≤57)||decide (c.toNat=45)
def Gh (s:ByteArray):Bool:=s.data.toList.all qW&&decide (0<s.size)
def tO (s:ByteArray):Bool:=Gh s&&decide (s.size≤20)&&decide (97≤(s.data.toList.getD 0 0).toNat)&&decide ((s.data.toList.getD 0 0).toNat≤122)
def pc (c:UInt8):Bool:=decide (32≤c.toNat∧c.toNat≤126)
def Mw (s:ByteArray):Bool:=decide (0<s.size)&&decide (s.size≤60)&&(decide ((s.data.toList.getD 0 0).toNat≠32)&&decide ((s.data.toList.getD (s.size-1) 0).toNat≠32))
def HT (s:ByteArray):Bool:=s.data.toList.all pc&&Mw s
theorem ag9 (s:ByteArray) (i:Nat) (h:i<s.size):s.data.toList.getD i 0=s[i]:=by
 rw[List.getD_eq_getElem?_getD,List.getElem?_eq_getElem (by simpa using h)];rfl
def ML (pre:List ow):List ow→Int
 |[]=>0
 |r::rest=>
  if aR r.low 0 65535=false∨aR r.high 0 65535=false∨r.high<r.low then 1
  else if 0<pre.length∧r.low≤(pre.getLast?.map (·.high)).getD 0 then 7
  else if tO r.name=false then 5
  else if jr r.name (pre.map (·.name))=true then 6
  else ML (pre++[r]) rest
def zB (l:List ow):Int:=if 30<l.length then 2 else ML [] l
def slotsOf (l:List ep):List Int:=l.flatMap fun x=>if 0<x.lZ then[x.nr,x.lZ]else[x.nr]
theorem Vh (l:List ep) (x:ep):slotsOf (l++[x])=slotsOf l++(if 0<x.lZ then[x.nr,x.lZ]else[x.nr]):=by simp [slotsOf]
def Cf (size:Int) (pre:List ep):List ep→Int
 |[]=>0
 |x::rest=>
  if tO x.name=false then 5
  else if jr x.name (pre.map (·.name))=true then 6
  else if aR x.group 1 4=false then 4
  else if aR x.nr 1 size=false∨aR x.lZ 0 size=false∨aR x.default 0 65535=false then 1
  else if x.nr=x.lZ∨jr x.nr (slotsOf pre)=true∨(0<x.lZ∧jr x.lZ (slotsOf pre)=true)then 12
  else if zB x.ranges=0 then Cf size (pre++[x]) rest else zB x.ranges
def qo (p:cV):Int:=
 if tO p.name=false then 5 else if aR p.size 1 512=false then 1 else if p.params.length=0 then 8 else if 40<p.params.length then 2 else Cf p.size [] p.params
def Ir (size:Int) (pre:List ep) (x:ep):Int:=
 if tO x.name=false then 5
 else if jr x.name (pre.map (·.name))=true then 6
 else if aR x.group 1 4=false then 4
 else if aR x.nr 1 size=false∨aR x.lZ 0 size=false∨aR x.default 0 65535=false then 1
 else if x.nr=x.lZ∨jr x.nr (slotsOf pre)=true∨(0<x.lZ∧jr x.lZ (slotsOf pre)=true)then 12
 else zB x.ranges
theorem agW (size:Int) (pre:List ep) (x:ep) (rest:List ep):Cf size pre (x::rest)=if Ir size pre x=0 then Cf size (pre++[x]) rest else Ir size pre x:=by
 rw[Cf,Ir]
 split<;>first|(simp;done)|skip
 split<;>first|(simp;done)|skip
 split<;>first|(simp;done)|skip
 split<;>first|(simp;done)|skip
 split<;>first|(simp;done)|skip
def Ce (pre:List cV):List cV→Int
 |[]=>0
 |p::rest=>if qo p=0 then(if jr p.name (pre.map (·.name))=true then 6 else Ce (pre++[p]) rest)else qo p
def wX (l:List cV):Int:=if 60<l.length then 2 else Ce [] l
def jV (nm:ByteArray):List cV→cV×Bool
 |[]=>(⟨⟨#[]⟩,0,[]⟩,false)
 |p::rest=>if p.name=nm then(p,true)else jV nm rest
def u9 (f:Nat→Bool):Nat→Nat→Bool
 |0,_=>true
 |n+1,a=>if 512<a∨f a=true then false else u9 f n (a+1)
def nE (f:Int→Nat→Bool) (u:Int) (a s:Nat):Int→Nat→Bool:=fun v k=>if v=u∧a≤k∧k<a+s then true else f v k
def DM (pre:List Int) (n:Int):Bool:=match pre.getLast? with|some m=>decide (n≤m)|none=>false
def pe (gG:List cV) (u:gW):Int:=u.address+(jV u.profile gG).1.size-1
def FH (gG:List cV) (u:gW) (pre:List gW):Bool:=pre.any fun x=>decide (x.univ=u.univ∧x.address≤pe gG u∧u.address≤pe gG x)
def F0 (gG:List cV) (pre:List gW):List gW→Int
 |[]=>0
 |u::rest=>
  if aR u.number 1 9999=false then 1
  else if DM (pre.map (·.number)) u.number=true then 7
  else if(jV u.profile gG).2=false then 5
  else if aR u.univ 1 64=false∨aR u.address 1 512=false∨512<pe gG u then 1
  else if FH gG u pre=true then 12
  else F0 gG (pre++[u]) rest
def j0 (r:gp):Int:=if wX r.aY=0 then(if 400<r.units.length then 2 else F0 r.aY [] r.units)else wX r.aY
def Hy (gG:List cV) (pre:List gW):Prop:=∀x∈pre,1≤x.address∧x.address≤pe gG x∧pe gG x≤512
def BF (gG:List cV) (pre:List gW) (f:Int→Nat→Bool):Prop:=∀v k,f v k=true↔∃x∈pre,x.univ=v∧x.address≤(k:Int)∧(k:Int)≤pe gG x
theorem BF.nil (gG:List cV):BF gG [] (fun _ _=>false):=fun v k=>by simp
theorem BF.snoc {gG:List cV} {pre:List gW} {f:Int→Nat→Bool} (h:BF gG pre f) (u:gW) (a s:Nat) (ha:u.address=a) (hs:pe gG u=(a:Int)+s-1):BF gG (pre++[u]) (nE f u.univ a s):=by
 intro v k
 unfold nE
 by_cases e:v=u.univ∧a≤k∧k<a+s
 ·rw[if_pos e]
  refine⟨fun _=>⟨u,by simp,e.1.symm,by omega,by omega⟩,fun _=>rfl⟩
 ·rw[if_neg e,h v k]
  constructor
  ·rintro⟨x,hx,h1⟩
   exact⟨x,by simp [hx],h1⟩
  ·rintro⟨x,hx,h1,h2,h3⟩
   simp only[List.mem_append,List.mem_singleton]at hx
   rcases hx with hx|rfl
   ·exact⟨x,hx,h1,h2,h3⟩
   ·exact absurd ⟨h1.symm,by omega,by omega⟩ e
theorem PT (f:Nat→Bool):∀(s a:Nat),u9 f s a=true↔∀k,a≤k→k<a+s→k≤512∧f k=false
 |0,a=>by simp [u9];intro k h1 h2;omega
 |s+1,a=>by
  rw[u9]
  by_cases e:512<a∨f a=true
  ·rw[if_pos e]
   simp only[Bool.false_eq_true,false_iff]
   intro h
   have:=h a (Nat.le_refl _) (by omega)
   rcases e with e|e
   ·omega
   ·rw[e]at this;simp at this
  ·rw[if_neg e,PT f s (a+1)]
   constructor
   ·intro h k h1 h2
    by_cases hk:k=a
    ·subst hk
     refine⟨by omega,?_⟩
     cases hf:f k
     ·rfl
     ·exact absurd (.inr hf) e
    ·exact h k (by omega) (by omega)
   ·intro h k h1 h2
    exact h k (by omega) (by omega)
theorem afL {gG:List cV} {pre:List gW} {f:Int→Nat→Bool} (h:BF gG pre f) (hok:Hy gG pre) (u:gW) (a s:Nat) (ha:u.address=a) (h1:1≤s) (hs:pe gG u=(a:Int)+s-1) (h2:pe gG u≤512):u9 (f u.univ) s a=!FH gG u pre:=by
 rw[Bool.eq_iff_iff,PT]
 simp only[Bool.not_eq_true',FH,List.any_eq_false,decide_eq_true_eq,not_and]
 constructor
 ·intro hf x hx e1 e2 e3
  have hx':=hok x hx
  obtain⟨k,hk⟩:∃k:Nat,(k:Int)=max x.address a:=⟨(max x.address (a:Int)).toNat,by omega⟩
  have hf':=(hf k (by omega) (by omega)).2
  have:f u.univ k=true:=(h u.univ k).2 ⟨x,hx,e1,by omega,by omega⟩
  rw[this]at hf';simp at hf'
 ·intro hf k h3 h4
  refine⟨by omega,?_⟩
  cases hfk:f u.univ k
  ·rfl
  ·obtain⟨x,hx,e1,e2,e3⟩:=(h u.univ k).1 hfk
   exact absurd (show u.address≤pe gG x by omega) (hf x hx e1 (by omega))
theorem adX {p:cV} (h:qo p=0):1≤p.size∧p.size≤512:=by
 unfold qo at h
 by_cases h1:tO p.name=false
 ·rw[if_pos h1]at h;simp at h
 ·rw[if_neg h1]at h
  by_cases h2:aR p.size 1 512=false
  ·rw[if_pos h2]at h;simp at h
  ·simpa [aR]using h2
theorem VO:∀(l pre:List cV),Ce pre l=0→∀p∈l,1≤p.size∧p.size≤512
 |[],pre,h,p,hp=>by simp at hp
 |q::rest,pre,h,p,hp=>by
  rw[Ce]at h
  by_cases e:qo q=0
  ·rw[if_pos e]at h
   by_cases e2:jr q.name (pre.map (·.name))=true
   ·rw[if_pos e2]at h;simp at h
   ·rw[if_neg e2]at h
    simp only[List.mem_cons]at hp
    rcases hp with rfl|hp
    ·exact adX e
    ·exact VO rest _ h p hp
  ·rw[if_neg e]at h;exact absurd h e
theorem afQ {l:List cV} (h:wX l=0):∀p∈l,1≤p.size∧p.size≤512:=by
 unfold wX at h
 by_cases e:60<l.length
 ·rw[if_pos e]at h;simp at h
 ·rw[if_neg e]at h;exact VO l [] h
theorem Pz (nm:ByteArray):∀(l:List cV),(jV nm l).2=true→(jV nm l).1∈l
 |[],h=>by simp [jV]at h
 |p::r,h=>by
  rw[jV]at h ⊢
  by_cases e:p.name=nm
  ·rw[if_pos e];simp
  ·rw[if_neg e]at h ⊢
   exact List.mem_cons_of_mem _ (Pz nm r h)
theorem Hy.snoc {gG:List cV} {pre:List gW} (h:Hy gG pre) {u:gW} (h1:1≤u.address∧u.address≤pe gG u∧pe gG u≤512):Hy gG (pre++[u]):=fun x hx=>by
 simp only[List.mem_append,List.mem_singleton]at hx
 rcases hx with hx|rfl
 ·exact h x hx
 ·exact h1
theorem jT (n lo hi:Int) (σ:Heap):jC [.int .i64 n,.int .i64 lo,.int .i64 hi] σ=some (.bool (aR n lo hi),σ):=by
 refine wrap_eq rfl ?_ rfl
 show OJ _ _ _ σ=_
 unfold OJ aR
 by_cases h:lo≤n<;>simp only[aP,reduceCtorEq,h,true_and,false_and]
theorem uS (b:Bool) (n:Int) (σ:Heap):rD [.bool b,.int .i64 n] σ=some (.int .i64 (if b=true then n else 0),σ):=by
 refine wrap_eq rfl ?_ rfl
 show Pd _ _ σ=_
 unfold Pd
 cases b<;>simp [aP,reduceCtorEq]
theorem QU (s:ByteArray) {i:Nat} (h:i<s.size):A.th (.str s) (.int .i64 (i:Int))=some (.int .u8 (s.data.toList.getD i 0).toNat):=by
 have h1:s[i]? =some s[i]:=by simp [h]
 simp [A.th,A.idx,h,ag9 s i h]
 rfl
theorem VW (s:ByteArray):(decide (¬s=⟨#[]⟩))=decide (0<s.size):=by
 rw[decide_eq_decide]
 constructor
 ·intro h
  rcases Nat.eq_zero_or_pos s.size with e|e
  ·exact absurd (ByteArray.ext (Array.eq_empty_of_size_eq_zero e)) h
  ·exact e
 ·rintro h rfl;exact absurd h (by decide)
theorem akV (s:ByteArray) (hs:jc s) (σ:Heap):Pv [.str s] σ=some (.bool (Gh s),σ):=by
 refine wrap_eq rfl ?_ rfl
 show PD _ σ=_
 unfold PD
 simp only[aP,reduceCtorEq]
 refine(Xq (p:=qW) s (some (.bool false,σ)) ?_ ?_ ?_).trans ?_
 ·intro i c hi hc
  have h1:aN ((i:Int)+1):=by unfold jc aW at hs;unfold aN;omega
  have h2:(i:Int)<s.size:=by omega
  simp only[aP,reduceCtorEq,h2,hc,wrap64 h1,qW]
  clear hc h1
  repeat' ((first|rw[AW]|rw[AU]|rw[AQ]|rw[Am]|rw[AP]|rw[AO]);split<;>try simp only[aP,reduceCtorEq, *])
  all_goals first|rfl|(refine(if_pos ?_).symm;simp;omega)|(refine(if_neg ?_).symm;simp;omega)|(refine congrArg some (congrArg (fun b=>(AV.bool b,σ)) ?_);rw[Bool.eq_iff_iff];simp;omega)
 ·simp only[aP,reduceCtorEq,Int.lt_irrefl]
 ·intro i;simp only[aP,reduceCtorEq]
 ·simp only[aP,reduceCtorEq,VW,Gh]
  cases s.data.toList.all qW<;>simp
theorem aiV {s:ByteArray} (h:Gh s=true):0<s.size:=by
 simp only[Gh,Bool.and_eq_true,decide_eq_true_eq]at h;exact h.2
theorem LU (s:ByteArray) (hs:jc s) (σ:Heap):E5 [.str s] σ=some (.bool (tO s),σ):=by
 refine wrap_eq rfl ?_ rfl
 show Pc _ σ=_
 unfold Pc
 simp only[aP,reduceCtorEq,akV s hs]
 cases h:Gh s
 ·simp [aP,reduceCtorEq,tO,h]
 ·have h0:=aiV h
  have:=QU s h0
  simp only[Int.ofNat_zero]at this
  simp only[aP,reduceCtorEq,this]
  simp only[tO,h,Bool.true_and]
  generalize s.data.toList.getD 0 0=c0 at *
  repeat' ((first|rw[AW]|rw[AU]|rw[AQ]|rw[Am]|rw[AP]|rw[AO]);split<;>try simp only[aP,reduceCtorEq, *])
  all_goals first|rfl|(refine(if_pos ?_).symm;simp;omega)|(refine(if_neg ?_).symm;simp;omega)|(refine congrArg some (congrArg (fun b=>(AV.bool b,σ)) ?_);rw[Bool.eq_iff_iff];simp;omega)
theorem Xp (s:ByteArray) (hs:jc s) (σ:Heap):Kz [.str s] σ=some (.bool (HT s),σ):=by
 refine wrap_eq rfl ?_ rfl
 show OW _ σ=_
 unfold OW
 simp only[aP,reduceCtorEq]
 refine(Xq (p:=pc) s (some (.bool false,σ)) ?_ ?_ ?_).trans ?_
 ·intro i c hi hc
  have h1:aN ((i:Int)+1):=by unfold jc aW at hs;unfold aN;omega
  have h2:(i:Int)<s.size:=by omega
  simp only[aP,reduceCtorEq,h2,hc,wrap64 h1,pc]
  clear h1
  repeat' ((first|rw[AW]|rw[AU]|rw[AQ]|rw[Am]|rw[AP]|rw[AO]);split<;>try simp only[aP,reduceCtorEq, *])
  all_goals first|rfl|(refine(if_pos ?_).symm;simp;omega)|(refine(if_neg ?_).symm;simp;omega)|(refine congrArg some (congrArg (fun b=>(AV.bool b,σ)) ?_);rw[Bool.eq_iff_iff];simp;omega)
 ·simp only[aP,reduceCtorEq,Int.lt_irrefl]
 ·intro i;simp only[aP,reduceCtorEq]
 ·simp only[aP,reduceCtorEq,VW,HT]
  cases s.data.toList.all pc
  ·simp
  ·simp only[if_true,Bool.true_and]
   by_cases h0:0<s.size
   ·by_cases Gp:s.size≤60
    ·have e0:=QU s h0
     have e1:=QU s (i:=s.size-1) (by omega)
     simp only[Int.ofNat_zero]at e0
     rw[show((s.size-1:Nat):Int)=(s.size:Int) -1 by omega]at e1
     have h1:aN ((s.size:Int) -1):=by unfold jc aW at hs;unfold aN;omega
     have Ci:(s.size:Int)≤60:=by omega
     have hw:=wrap64 h1
     simp only[Mw,h0,Gp]
     generalize s.data.toList.getD 0 0=c0 at *
     generalize s.data.toList.getD (s.size-1) 0=c1 at *
     simp only[aP,reduceCtorEq,h0,Ci,e0,e1,hw]
     repeat' ((first|rw[AW]|rw[AU]|rw[AQ]|rw[Am]|rw[AP]|rw[AO]);split<;>try simp only[aP,reduceCtorEq, *])
     all_goals first|rfl|(refine(if_pos ?_).symm;simp;omega)|(refine(if_neg ?_).symm;simp;omega)|(refine congrArg some (congrArg (fun b=>(AV.bool b,σ)) ?_);rw[Bool.eq_iff_iff];simp;omega)
    ·have Ci:¬(s.size:Int)≤60:=by omega
     simp [aP,reduceCtorEq,h0,Ci,Mw,Gp]
   ·simp [aP,reduceCtorEq,h0,Mw]
theorem aeW (n:Int) (σ:Heap):Oj [.int .i64 n] σ=some (.bool (aR n 0 65535),σ):=by
 refine wrap_eq rfl ?_ rfl
 show On (.int .i64 n) σ=_
 unfold On
 simp only[aP,reduceCtorEq,jT]
theorem ahh {γ:Type} {f:List AV→Heap→Option (AX×List AV×Heap)} (a n:Nat) (p:Nat→Bool) (vs:Nat→List AV) (σ:Heap) (fin:AX×List AV×Heap) (ret:Nat→AX×List AV×Heap) {k:AX×List AV×Heap→Option γ} (K1 K2:Option γ)
  (hstep:∀(i:Nat),a≤i→i<a+n→f (vs i) σ=if p i=true then some (ret i)else some (.normal,vs (i+1),σ)) (hend:f (vs (a+n)) σ=some fin) (hk1:k fin=K1) (hk2:∀i,k (ret i)=K2)
  (Aq:fin.1≠.normal:=by simp) (Iz:∀i,(ret i).1≠.normal:=by intros;simp) {v:List AV} {σ':Heap} (hv:v=vs a:=by rfl) (fS:σ'=σ:=by rfl):
  (A.loop f v σ').bind k=if(List.range' a n).any p=true then K2 else K1:=by
 refine XX (List.range' a n) p (fun i=>vs (a+i)) σ fin (fun i=>ret (a+i)) K1 K2 ?_ (by rw[List.length_range'];exact hend) hk1 (fun i=>hk2 _) Aq (fun i=>Iz _) hv fS
 intro i x hx
 obtain⟨h1,h2⟩:=List.getElem?_eq_some_iff.1 hx
 rw[List.length_range']at h1
 obtain rfl:a+i=x:=by simpa [List.getElem_range']using h2
 exact hstep (a+i) (by omega) (by omega)
def dP:lD:=⟨0,0⟩
def Du (p:lD):Bool:=!(aR p.time 0 1000)||!(aR p.way 0 1000)
def DN (l:List lD) (i:Nat):Bool:=decide ((l.getD i dP).time≤(l.getD (i-1) dP).time∨(l.getD i dP).way<(l.getD (i-1) dP).way)
def SC (l:List lD):Int:=
 if l.any Du=true then 1
 else if ¬((l.getD 0 dP).time=0∧(l.getD 0 dP).way=0)then 3
 else if ¬((l.getD (l.length-1) dP).time=1000∧(l.getD (l.length-1) dP).way=1000)then 3
 else if(List.range' 1 (l.length-1)).any (DN l)=true then 7 else 0
def oR (c:oQ):Int:=
 if aR c.kind 1 6=false then 4
 else if c.kind=6 then(if c.points.length<2 then 8 else if 20<c.points.length then 2 else SC c.points)
 else if 0<c.points.length then 3 else 0
theorem Qj (x:lD) (a b:Int):A.neq (.s [0,0]) (.agg (gV x)) (.agg [.int .i64 a,.int .i64 b])=some (.bool (decide (¬(x.time=a∧x.way=b)))):=by
 simp only[A.neq,A.dZ,gV,A.fV,A.l9,A.mI,if_true,Option.bind_some,Option.map_some]
 congr 2
 rw[Bool.eq_iff_iff]
 simp
theorem aaz (a b c:AV):A.splice 0 [a] [b,c]=some [a,c]:=rfl
theorem aaA (a b c:AV):A.splice 1 [a] [b,c]=some [b,a]:=rfl
theorem Bz {l:List lD} {i:Nat} (h:i<l.length):l[i]? =some (l.getD i dP):=by simp [h]
theorem UY (c:oQ) (σ:Heap):Ka [.agg (lP c)] σ=some (.int .i64 (oR c),σ):=by
 refine wrap_eq rfl ?_ rfl
 show N3 (.agg (lP c)) σ=_
 unfold N3 oR
 simp only[aP,reduceCtorEq,vT,vU,vW,vV,vY,jT]
 cases hk:aR c.kind 1 6
 ·simp only[aP,reduceCtorEq]
 by_cases h6:c.kind=6
 case neg=>
  by_cases h0:0<c.points.length
  ·simp only[aP,reduceCtorEq,vT,vU,vW,vV,vY,h6,h0,uS,show(0:Int)<c.points.length by omega]
  ·simp only[aP,reduceCtorEq,vT,vU,vW,vV,vY,h6,h0,uS,show ¬(0:Int)<c.points.length by omega]
 by_cases h2:c.points.length<2
 ·simp only[aP,reduceCtorEq,vT,vU,vW,vV,vY,h6,h2,show(c.points.length:Int)<2 by omega]
 by_cases IV:20<c.points.length
 ·simp only[aP,reduceCtorEq,vT,vU,vW,vV,vY,h6,h2,IV,show ¬(c.points.length:Int)<2 by omega,show(20:Int)<c.points.length by omega]
 simp only[aP,reduceCtorEq,vT,vU,vW,vV,vY,h6,h2,IV,show ¬(c.points.length:Int)<2 by omega,show ¬(20:Int)<c.points.length by omega]
 have Jb:c.points.length≤aW:=by unfold aW;omega
 refine(XX c.points Du (fun i=>[.int .i64 0,.int .i64 (i:Int)]) σ (.exit 0,[.int .i64 0,.int .i64 (c.points.length:Int)],σ) (fun i=>(.ret,[.int .i64 1,.int .i64 (i:Int)],σ))
  (some (.int .i64 (if ¬((c.points.getD 0 dP).time=0∧(c.points.getD 0 dP).way=0)then 3
 else if ¬((c.points.getD (c.points.length-1) dP).time=1000∧(c.points.getD (c.points.length-1) dP).way=1000)then 3
 else if(List.range' 1 (c.points.length-1)).any (DN c.points)=true then 7 else 0),σ)) (some (.int .i64 1,σ)) ?_ ?_ ?_ ?_).trans ?_
 ·intro i x hx
  obtain⟨g1,g2,g3⟩:=XR 2 gV hx
  have g3:=g3 Jb
  simp only[aP,reduceCtorEq,G8,G9,C2,CY,C4,g1,g2,g3,jT,Du]
  rcases Bool.eq_false_or_eq_true (aR x.time 0 1000)with e|e
  ·rcases Bool.eq_false_or_eq_true (aR x.way 0 1000)with e'|e'<;>simp only[aP,reduceCtorEq,jT,e,e',Bool.false_or,Bool.or_false]
  ·simp only[aP,reduceCtorEq,e,Bool.true_or]
 ·exact Fm _ _ _
 ·have g0:=lM 2 gV c.points (Bz (l:=c.points) (i:=0) (by omega))
  have gl:=KP 2 gV c.points (k:=c.points.length) (by omega) (Bz (by omega))
  have hw:IntKind.i64.wrap ((c.points.length:Int) -1)=(c.points.length:Int) -1:=wrap64 (by unfold aN;omega)
  simp only[Int.ofNat_zero,Int.natCast_zero]at g0
  simp only[aP,reduceCtorEq,vT,vU,vW,vV,vY,G8,G9,C2,CY,C4,g0,Qj]
  by_cases e1:(c.points.getD 0 dP).time=0∧(c.points.getD 0 dP).way=0
  case neg=>simp only[aP,reduceCtorEq,e1]
  simp only[aP,reduceCtorEq,vT,vU,vW,vV,vY,e1,hw,gl,G8,G9,C2,CY,C4]
  by_cases e2:(c.points.getD (c.points.length-1) dP).time=1000∧(c.points.getD (c.points.length-1) dP).way=1000
  case neg=>
   simp only[aaz,aaA,aP,reduceCtorEq,Qj,e2]
  simp only[aaz,aaA,aP,reduceCtorEq,Qj,e2]
  refine(ahh 1 (c.points.length-1) (DN c.points) (fun i=>[.int .i64 0,.int .i64 (i:Int)]) σ (.exit 2,[.int .i64 0,.int .i64 (c.points.length:Int)],σ) (fun i=>(.ret,[.int .i64 7,.int .i64 (i:Int)],σ)) (some (AV.int .i64 0,σ)) (some (AV.int .i64 7,σ)) ?_ ?_ ?_ ?_).trans ?_
  ·intro i hi1 hi2
   have k1:=lM 2 gV c.points (Bz (l:=c.points) (i:=i) (by omega))
   have k2:=KP 2 gV c.points (k:=i) (by omega) (Bz (by omega))
   have k3:IntKind.i64.wrap ((i:Int) -1)=(i:Int) -1:=wrap64 (by unfold aN;omega)
   have k4:IntKind.i64.wrap ((i:Int)+1)=((i+1:Nat):Int):=by rw[wrap64 (by unfold aN;omega)];omega
   have k5:(i:Int)<c.points.length:=by omega
   simp only[aP,reduceCtorEq,vT,vU,vW,vV,vY,G8,G9,C2,CY,C4,k1,k2,k3,k5,DN]
   by_cases q1:(c.points.getD i dP).time≤(c.points.getD (i-1) dP).time
   ·simp only[aP,reduceCtorEq,q1]
   ·by_cases q2:(c.points.getD i dP).way<(c.points.getD (i-1) dP).way<;>simp only[aP,reduceCtorEq,vT,vU,vW,vV,vY,G8,G9,C2,CY,C4,k1,k2,k3,k4,q1,q2]
  ·rw[show 1+(c.points.length-1)=c.points.length by omega]
   simp only[aP,reduceCtorEq,vT,vU,vW,vV,vY,Int.lt_irrefl]
  ·simp only[aP,reduceCtorEq]
  ·intro i;simp only[aP,reduceCtorEq]
  ·cases(List.range' 1 (c.points.length-1)).any (DN c.points)<;>rfl
 ·intro i;simp only[aP,reduceCtorEq]
 ·unfold SC
  cases c.points.any Du<;>rfl
theorem C5 (l:List Int) (hl:l.length≤aW) (σ:Heap):ya [sl 1 rT l] σ=some (.int .i64 ((l.find? fun n=>decide (¬n=0)).getD 0),σ):=by
 refine wrap_eq rfl ?_ rfl
 show OT (sl 1 rT l) σ=_
 unfold OT
 simp only[aP,reduceCtorEq]
 refine(ahi l (fun n=>decide (¬n=0)) (fun i=>[.int .i64 0,.int .i64 (i:Int)]) σ (.exit 0,[.int .i64 0,.int .i64 (l.length:Int)],σ) (fun i n=>(.ret,[.int .i64 n,.int .i64 (i:Int)],σ)) (some (AV.int .i64 0,σ)) (fun n=>some (AV.int .i64 n,σ)) ?_ ?_ ?_ ?_).trans ?_
 ·intro i x hx
  obtain⟨g1,g2,g3⟩:=XR 1 rT hx
  have g3:=g3 hl
  simp only[aP,reduceCtorEq,g1,g2,g3]
  repeat' ((first|rw[AW]|rw[AU]|rw[AQ]|rw[Am]|rw[AP]|rw[AO]);split<;>try simp only[aP,reduceCtorEq, *])
  all_goals first|with_reducible rfl|(simp [*];done)|(simp_all;done)|(simp_all;omega)|rfl
 ·exact Fm _ _ _
 ·simp only[aP,reduceCtorEq]
 ·intro i n;simp only[aP,reduceCtorEq]
 ·cases l.find? (fun n=>decide (¬n=0))<;>rfl
theorem E3 (n:Int) (σ:Heap):GN [.int .i64 n] σ=some (.bool (aR n 0 65535),σ):=by
 refine wrap_eq rfl ?_ rfl
 show N7 _ σ=_
 unfold N7
 simp only[aP,reduceCtorEq,jT]
theorem adu (l:List ow) (hok:eZ QN l) (σ:Heap):NS [sl 3 mm l] σ=some (.int .i64 (zB l),σ):=by
 refine wrap_eq rfl ?_ rfl
 show NT (sl 3 mm l) σ=_
 unfold NT zB
 simp only[aP,reduceCtorEq]
 by_cases M7:30<l.length
 ·have Iu:(30:Int)<l.length:=by omega
  simp only[aP,reduceCtorEq,M7,Iu]
 ·have Iu:¬(30:Int)<l.length:=by omega
  simp only[aP,reduceCtorEq,M7,Iu]
  refine(oM (S:=Unit) (R:=Int) l (fun pre x _=>
    if aR x.low 0 65535=false∨aR x.high 0 65535=false∨x.high<x.low then .out 1
    else if 0<pre.length∧x.low≤(pre.getLast?.map (·.high)).getD 0 then .out 7
    else if tO x.name=false then .out 5
    else if jr x.name (pre.map (·.name))=true then .out 6 else .go ())
   (fun pre _=>[.int .i64 0,.int .i64 (pre.length:Int)]) (fun pre _=>σ++[aJ.map (l6 (·.name) pre)])
   (fun _=>(.exit 0,[.int .i64 0,.int .i64 (l.length:Int)],σ++[aJ.map (l6 (·.name) l)])) (fun pre _ r=>(.ret,[.int .i64 r,.int .i64 (pre.length:Int)],σ++[aJ.map (l6 (·.name) pre)]))
   (fun _ _=>True) () (fun _=>some (AV.int .i64 0,σ)) (fun r=>some (AV.int .i64 r,σ)) ?_ ?_ trivial (fun _ _ _ _ _ _ _ _=>trivial) ?_ ?_).trans ?_
  ·intro pre x rest u hl _
   have hx:=oP hl
   have hlt:=rO hl
   have hi1:IntKind.i64.wrap ((pre.length:Int)+1)=(pre.length:Int)+1:=wrap64 (by unfold aN;omega)
   have hi2:IntKind.i64.wrap ((pre.length:Int) -1)=(pre.length:Int) -1:=wrap64 (by unfold aN;omega)
   have hlt':(pre.length:Int)<(l.length:Int):=by omega
   have hnm:=(hok.2 x (by rw[hl];simp)).2.2
   have jH:=lM 3 mm l hx
   have hN:=LU _ hnm
   by_cases h0:0<pre.length
   ·obtain⟨y,hy,hy2⟩:=X4 hl h0
    have Si:=KP 3 mm l h0 hy2
    have qQ:(0:Int)<pre.length:=by omega
    clear hl hx hlt hok M7 Iu hy2 hnm
    simp only[aP,reduceCtorEq,KH,KI,KJ,Lj,Lb,Lo,hlt',jH,E3,hi1,hi2,hN,qQ,hy,h0]
    repeat' ((first|rw[AW]|rw[AU]|rw[AQ]|rw[Am]|rw[AP]|rw[AO]);split<;>try simp only[aP,reduceCtorEq,KH,KI,KJ,Lj,Lb,Lo,E3, *])
    all_goals first|with_reducible rfl|(simp [*];done)|(simp_all;done)|(simp_all;omega)|rfl
   ·have qQ:¬(0:Int)<pre.length:=by omega
    clear hl hx hlt hok M7 Iu hnm
    simp only[aP,reduceCtorEq,KH,KI,KJ,Lj,Lb,Lo,hlt',jH,E3,hi1,hi2,hN,qQ,h0]
    repeat' ((first|rw[AW]|rw[AU]|rw[AQ]|rw[Am]|rw[AP]|rw[AO]);split<;>try simp only[aP,reduceCtorEq,KH,KI,KJ,Lj,Lb,Lo,E3, *])
    all_goals first|with_reducible rfl|(simp [*];done)|(simp_all;done)|(simp_all;omega)|rfl
  ·intro u _
   simp only[aP,reduceCtorEq,Int.lt_irrefl]
  ·intro u _;simp only[aP,reduceCtorEq]
  ·intros;simp only[aP,reduceCtorEq]
  ·refine(KY (uv:=ML) ?_ ?_ (fun n=>some (AV.int .i64 n,σ)) l []).trans ?_
   ·intro pre;rfl
   ·intro pre x rest;rw[ML];simp only[FI,BH,BS]
   ·rfl
theorem adb (p:cV) (hok:Lh p) (σ:Heap):NN [.agg (ck p)] σ=some (.int .i64 (qo p),σ):=by
 refine wrap_eq rfl ?_ rfl
 show NP (.agg (ck p)) σ=_
 obtain⟨pn,ps,l⟩:=p
 obtain⟨hnm,hps,Sp⟩:=hok
 simp only at hnm hps Sp
 have hN:=LU _ hnm
 unfold NP qo
 simp only[aP,reduceCtorEq,qd,rA,qg,rE,rC,rF,hN,jT]
 cases hn:tO pn
 ·simp only[aP,reduceCtorEq]
 cases hz:aR ps 1 512
 ·simp only[aP,reduceCtorEq]
 by_cases h0:l.length=0
 ·obtain rfl:l=[]:=List.eq_nil_of_length_eq_zero h0
  simp [aP,reduceCtorEq]
 have qQ:¬(l.length:Int)=0:=by omega
 by_cases To:40<l.length
 ·have MN:(40:Int)<l.length:=by omega
  simp only[aP,reduceCtorEq,h0,qQ,To,MN]
 have MN:¬(40:Int)<l.length:=by omega
 simp only[aP,reduceCtorEq,h0,qQ,To,MN]
 refine(oM (S:=Unit) (R:=Int) l (fun pre x _=>
   if tO x.name=false then .out 5
   else if jr x.name (pre.map (·.name))=true then .out 6
   else if aR x.group 1 4=false then .out 4
   else if aR x.nr 1 ps=false∨aR x.lZ 0 ps=false∨aR x.default 0 65535=false then .out 1
   else if x.nr=x.lZ∨jr x.nr (slotsOf pre)=true∨(0<x.lZ∧jr x.lZ (slotsOf pre)=true)then .out 12
   else if zB x.ranges=0 then .go ()else .out (zB x.ranges))
  (fun pre _=>[.lbx (ck ⟨pn,ps,l⟩),.int .i64 0,.int .i64 (pre.length:Int)]) (fun pre _=>σ++[aJ.map (l6 (·.name) pre),aJ.map (qN id (slotsOf pre))])
  (fun _=>(.exit 1,[.lbx (ck ⟨pn,ps,l⟩),.int .i64 0,.int .i64 (l.length:Int)],σ++[aJ.map (l6 (·.name) l),aJ.map (qN id (slotsOf l))]))
  (fun pre _ r=>(.ret,[.lbx (ck ⟨pn,ps,l⟩),.int .i64 r,.int .i64 (pre.length:Int)],σ++[aJ.map (l6 (·.name) pre),aJ.map (qN id (slotsOf pre))]))
  (fun _ _=>True) () (fun _=>some (AV.int .i64 0,σ)) (fun r=>some (AV.int .i64 r,σ)) ?_ ?_ trivial (fun _ _ _ _ _ _ _ _=>trivial) ?_ ?_).trans ?_
 ·intro pre x rest u hl _
  have hx:=oP hl;have hlt:=rO hl;have hi1:IntKind.i64.wrap ((pre.length:Int)+1)=(pre.length:Int)+1:=wrap64 (by unfold aN;omega);have hi2:IntKind.i64.wrap ((pre.length:Int) -1)=(pre.length:Int) -1:=wrap64 (by unfold aN;omega);have hlt':(pre.length:Int)<(l.length:Int):=by omega
  obtain⟨k1,k2,k3,k4,k5,k6⟩:=Sp.2 x (by rw[hl];simp)
  have hNx:=LU _ k1
  have hRx:=adu _ k6
  have jH:=lM 7 eU l hx
  clear hl hx hlt Sp To MN h0 qQ k1 k2 k3 k4 k5 k6 hnm hps hN hn hz
  simp only[aP,reduceCtorEq,KG,O3,O4,O5,O6,O7,O8,P4,PR,Ln,qd,rA,qg,rE,rC,rF,hlt',jH,jT,E3,hi1,hi2,hNx,hRx,List.map_id]
  repeat' ((first|rw[AW]|rw[AU]|rw[AQ]|rw[Am]|rw[AP]|rw[AO]);split<;>try simp only[aP,reduceCtorEq,KG,O3,O4,O5,O6,O7,O8,P4,PR,Ln,qd,rA,qg,rE,rC,rF,jT,E3,List.map_id,Xc,ahn,Bool.or_false, *])
  all_goals first|rfl|(simp_all;done)|(simp_all [Vh,Xc];done)|(simp only[Vh,ite_false,ite_true,if_false,if_true, *]<;>simp_all)
 ·intro u _
  simp only[aP,reduceCtorEq,Int.lt_irrefl]
 ·intro u _;simp only[aP,reduceCtorEq]
 ·intros;simp only[aP,reduceCtorEq]
 ·refine(KY (uv:=Cf ps) ?_ ?_ (fun n=>some (AV.int .i64 n,σ)) l []).trans ?_
  ·intro pre;rfl
  ·intro pre x rest;rw[Cf];simp only[FI,BH,BS]
  ·rfl
theorem ada (l:List cV) (hok:eZ Lh l) (σ:Heap):NM [sl 3 ck l] σ=some (.int .i64 (wX l),σ):=by
 refine wrap_eq rfl ?_ rfl
 show NO (sl 3 ck l) σ=_
 unfold NO wX
 simp only[aP,reduceCtorEq]
 by_cases Gp:60<l.length
 ·have Ci:(60:Int)<l.length:=by omega
  simp only[aP,reduceCtorEq,Gp,Ci]
 have Ci:¬(60:Int)<l.length:=by omega
 simp only[aP,reduceCtorEq,Gp,Ci]
 refine(oM (S:=Unit) (R:=Int) l (fun pre x _=>if qo x=0 then(if jr x.name (pre.map (·.name))=true then .out 6 else .go ())else .out (qo x))
  (fun pre _=>[.int .i64 0,.int .i64 (pre.length:Int)]) (fun pre _=>σ++[aJ.map (l6 (·.name) pre)])
  (fun _=>(.exit 0,[.int .i64 0,.int .i64 (l.length:Int)],σ++[aJ.map (l6 (·.name) l)])) (fun pre _ r=>(.ret,[.int .i64 r,.int .i64 (pre.length:Int)],σ++[aJ.map (l6 (·.name) pre)]))
  (fun _ _=>True) () (fun _=>some (AV.int .i64 0,σ)) (fun r=>some (AV.int .i64 r,σ)) ?_ ?_ trivial (fun _ _ _ _ _ _ _ _=>trivial) ?_ ?_).trans ?_
 ·intro pre x rest u hl _
  have hx:=oP hl;have hlt:=rO hl;have hi1:IntKind.i64.wrap ((pre.length:Int)+1)=(pre.length:Int)+1:=wrap64 (by unfold aN;omega);have hi2:IntKind.i64.wrap ((pre.length:Int) -1)=(pre.length:Int) -1:=wrap64 (by unfold aN;omega);have hlt':(pre.length:Int)<(l.length:Int):=by omega
  have hP:=adb x (hok.2 x (by rw[hl];simp))
  have jH:=lM 3 ck l hx
  clear hl hx hlt hok Gp Ci
  simp only[aP,reduceCtorEq,qd,rA,qg,rE,rC,rF,hlt',jH,hi1,hP]
  repeat' ((first|rw[AW]|rw[AU]|rw[AQ]|rw[Am]|rw[AP]|rw[AO]);split<;>try simp only[aP,reduceCtorEq,qd,rA,qg,rE,rC,rF, *])
  all_goals first|with_reducible rfl|(simp [*];done)|(simp_all;done)|(simp_all;omega)|rfl
 ·intro u _
  simp only[aP,reduceCtorEq,Int.lt_irrefl]
 ·intro u _;simp only[aP,reduceCtorEq]
 ·intros;simp only[aP,reduceCtorEq]
 ·refine(KY (uv:=Ce) ?_ ?_ (fun n=>some (AV.int .i64 n,σ)) l []).trans ?_
  ·intro pre;rfl
  ·intro pre x rest;rw[Ce];simp only[FI,BH,BS]
  ·rfl
theorem aiu {α:Type} (p:α→Bool) (l:List α):decide (0≤jZ p l)=l.any p:=by
 rcases zk p l with⟨h1,h2,_⟩|⟨k,x,h1,h2,h3,_⟩
 ·rw[h1,Bool.eq_iff_iff]
  simp only[decide_eq_true_eq,List.any_eq_true]
  exact⟨fun h=>by omega,fun⟨x,hx,hp⟩=>by rw[h2 x hx]at hp;cases hp⟩
 ·rw[h3,Bool.eq_iff_iff]
  simp only[decide_eq_true_eq,List.any_eq_true]
  exact⟨fun _=>⟨x,List.mem_of_getElem? h1,h2⟩,fun _=>by omega⟩
theorem abv (dyn:Nat→List AV→Heap→Option (AV×Heap)) (l:List cV) (hl:l.length≤aW) (n:Nat) (caps:List AV) (p:cV→Bool) (σ:Heap) (hd:∀x∈l,dyn n ((.agg (ck x):AV)::caps) σ=some (.bool (p x),σ)):JW dyn [sl 3 ck l,.fn n caps] σ=some (.int .i64 (jZ p l),σ):=by
 refine wrap_eq rfl ?_ rfl
 show JX dyn (sl 3 ck l) (.fn n caps) σ=_
 unfold JX
 simp only[aP,reduceCtorEq]
 refine(oM (S:=Unit) (R:=Int) l (fun pre x _=>if p x=true then .out (pre.length:Int)else .go ())
  (fun pre _=>[.int .i64 0,.int .i64 (pre.length:Int)]) (fun _ _=>σ) (fun _=>(.exit 0,[.int .i64 0,.int .i64 (l.length:Int)],σ)) (fun pre _ r=>(.ret,[.int .i64 (pre.length:Int),.int .i64 (pre.length:Int)],σ))
  (fun _ _=>True) () (fun _=>some (AV.int .i64 (-1),σ)) (fun r=>some (AV.int .i64 r,σ)) ?_ ?_ trivial (fun _ _ _ _ _ _ _ _=>trivial) ?_ ?_).trans ?_
 ·intro pre x rest u hl' _
  have hx:=oP hl'
  have hlt:=rO hl'
  have hi1:IntKind.i64.wrap ((pre.length:Int)+1)=(pre.length:Int)+1:=wrap64 (by unfold aN;unfold aW at hl;omega)
  have hlt':(pre.length:Int)<(l.length:Int):=by omega
  have jH:=lM 3 ck l hx
  have nX:=hd x (by rw[hl'];simp)
  simp only[aP,reduceCtorEq,qd,rA,qg,rE,rC,rF,hlt',jH,A.jE,List.cons_append,List.nil_append,nX,hi1]
  cases p x<;>simp [aP,reduceCtorEq]
 ·intro u _;simp only[aP,reduceCtorEq,Int.lt_irrefl]
 ·intro u _;simp only[aP,reduceCtorEq]
 ·intro pre x rest s q hl' _ hb
  have:q=(pre.length:Int):=by
   cases hpx:p x
   ·rw[hpx]at hb;cases hb
   ·rw[hpx]at hb;simp at hb;exact hb.symm
  simp only[aP,reduceCtorEq,this]
 ·rw[C9 p _ _ l [] (by simp)]
  simp only[List.nil_append]
  split
  ·rename_i h;rw[h]
  ·rfl
theorem abB (dyn:Nat→List AV→Heap→Option (AV×Heap)) (l:List fF) (hl:l.length≤aW) (n:Nat) (caps:List AV) (p:fF→Bool) (σ:Heap) (hd:∀x∈l,dyn n ((.agg (fH x):AV)::caps) σ=some (.bool (p x),σ)):GG dyn [sl 8 fH l,.fn n caps] σ=some (.int .i64 (jZ p l),σ):=by
 refine wrap_eq rfl ?_ rfl
 show J4 dyn (sl 8 fH l) (.fn n caps) σ=_
 unfold J4
 simp only[aP,reduceCtorEq]
 refine(oM (S:=Unit) (R:=Int) l (fun pre x _=>if p x=true then .out (pre.length:Int)else .go ())
  (fun pre _=>[.int .i64 0,.int .i64 (pre.length:Int)]) (fun _ _=>σ) (fun _=>(.exit 0,[.int .i64 0,.int .i64 (l.length:Int)],σ)) (fun pre _ r=>(.ret,[.int .i64 (pre.length:Int),.int .i64 (pre.length:Int)],σ))
  (fun _ _=>True) () (fun _=>some (AV.int .i64 (-1),σ)) (fun r=>some (AV.int .i64 r,σ)) ?_ ?_ trivial (fun _ _ _ _ _ _ _ _=>trivial) ?_ ?_).trans ?_
 ·intro pre x rest u hl' _
  have hx:=oP hl'
  have hlt:=rO hl'
  have hi1:IntKind.i64.wrap ((pre.length:Int)+1)=(pre.length:Int)+1:=wrap64 (by unfold aN;unfold aW at hl;omega)
  have hlt':(pre.length:Int)<(l.length:Int):=by omega
  have jH:=lM 8 fH l hx
  have nX:=hd x (by rw[hl'];simp)
  simp only[aP,reduceCtorEq,af0,af1,af2,af3,af4,af5,af6,af7,aer,adz,aiM,ah4,LP,hlt',jH,A.jE,List.cons_append,List.nil_append,nX,hi1]
  cases p x<;>simp [aP,reduceCtorEq]
 ·intro u _;simp only[aP,reduceCtorEq,Int.lt_irrefl]
 ·intro u _;simp only[aP,reduceCtorEq]
 ·intro pre x rest s q hl' _ hb
  have:q=(pre.length:Int):=by
   cases hpx:p x
   ·rw[hpx]at hb;cases hb
   ·rw[hpx]at hb;simp at hb;exact hb.symm
  simp only[aP,reduceCtorEq,this]
 ·rw[C9 p _ _ l [] (by simp)]
  simp only[List.nil_append]
  split
  ·rename_i h;rw[h]
  ·rfl
theorem abF (dyn:Nat→List AV→Heap→Option (AV×Heap)) (l:List bg) (hl:l.length≤aW) (n:Nat) (caps:List AV) (p:bg→Bool) (σ:Heap) (hd:∀x∈l,dyn n ((.agg (aZ x):AV)::caps) σ=some (.bool (p x),σ)):GH dyn [sl 11 aZ l,.fn n caps] σ=some (.int .i64 (jZ p l),σ):=by
 refine wrap_eq rfl ?_ rfl
 show J6 dyn (sl 11 aZ l) (.fn n caps) σ=_
 unfold J6
 simp only[aP,reduceCtorEq]
 refine(oM (S:=Unit) (R:=Int) l (fun pre x _=>if p x=true then .out (pre.length:Int)else .go ())
  (fun pre _=>[.int .i64 0,.int .i64 (pre.length:Int)]) (fun _ _=>σ) (fun _=>(.exit 0,[.int .i64 0,.int .i64 (l.length:Int)],σ)) (fun pre _ r=>(.ret,[.int .i64 (pre.length:Int),.int .i64 (pre.length:Int)],σ))
  (fun _ _=>True) () (fun _=>some (AV.int .i64 (-1),σ)) (fun r=>some (AV.int .i64 r,σ)) ?_ ?_ trivial (fun _ _ _ _ _ _ _ _=>trivial) ?_ ?_).trans ?_
 ·intro pre x rest u hl' _
  have hx:=oP hl'
  have hlt:=rO hl'
  have hi1:IntKind.i64.wrap ((pre.length:Int)+1)=(pre.length:Int)+1:=wrap64 (by unfold aN;unfold aW at hl;omega)
  have hlt':(pre.length:Int)<(l.length:Int):=by omega
  have jH:=lM 11 aZ l hx
  have nX:=hd x (by rw[hl'];simp)
  simp only[aP,reduceCtorEq,PZ,aht,P0,WY,P3,WZ,ahu,ahv,ahw,W7,VZ,OE,HF,LX,HH,hlt',jH,A.jE,List.cons_append,List.nil_append,nX,hi1]
  cases p x<;>simp [aP,reduceCtorEq]
 ·intro u _;simp only[aP,reduceCtorEq,Int.lt_irrefl]
 ·intro u _;simp only[aP,reduceCtorEq]
 ·intro pre x rest s q hl' _ hb
  have:q=(pre.length:Int):=by
   cases hpx:p x
   ·rw[hpx]at hb;cases hb
   ·rw[hpx]at hb;simp at hb;exact hb.symm
  simp only[aP,reduceCtorEq,this]
 ·rw[C9 p _ _ l [] (by simp)]
  simp only[List.nil_append]
  split
  ·rename_i h;rw[h]
  ·rfl
theorem abA (dyn:Nat→List AV→Heap→Option (AV×Heap)) (l:List iU) (hl:l.length≤aW) (n:Nat) (caps:List AV) (p:iU→Bool) (σ:Heap) (hd:∀x∈l,dyn n ((.agg (dQ x):AV)::caps) σ=some (.bool (p x),σ)):JZ dyn [sl 2 dQ l,.fn n caps] σ=some (.int .i64 (jZ p l),σ):=by
 refine wrap_eq rfl ?_ rfl
 show J3 dyn (sl 2 dQ l) (.fn n caps) σ=_
 unfold J3
 simp only[aP,reduceCtorEq]
 refine(oM (S:=Unit) (R:=Int) l (fun pre x _=>if p x=true then .out (pre.length:Int)else .go ())
  (fun pre _=>[.int .i64 0,.int .i64 (pre.length:Int)]) (fun _ _=>σ) (fun _=>(.exit 0,[.int .i64 0,.int .i64 (l.length:Int)],σ)) (fun pre _ r=>(.ret,[.int .i64 (pre.length:Int),.int .i64 (pre.length:Int)],σ))
  (fun _ _=>True) () (fun _=>some (AV.int .i64 (-1),σ)) (fun r=>some (AV.int .i64 r,σ)) ?_ ?_ trivial (fun _ _ _ _ _ _ _ _=>trivial) ?_ ?_).trans ?_
 ·intro pre x rest u hl' _
  have hx:=oP hl'
  have hlt:=rO hl'
  have hi1:IntKind.i64.wrap ((pre.length:Int)+1)=(pre.length:Int)+1:=wrap64 (by unfold aN;unfold aW at hl;omega)
  have hlt':(pre.length:Int)<(l.length:Int):=by omega
  have jH:=lM 2 dQ l hx
  have nX:=hd x (by rw[hl'];simp)
  simp only[aP,reduceCtorEq,afZ,Py,aiL,ah3,LO,hlt',jH,A.jE,List.cons_append,List.nil_append,nX,hi1]
  cases p x<;>simp [aP,reduceCtorEq]
 ·intro u _;simp only[aP,reduceCtorEq,Int.lt_irrefl]
 ·intro u _;simp only[aP,reduceCtorEq]
 ·intro pre x rest s q hl' _ hb
  have:q=(pre.length:Int):=by
   cases hpx:p x
   ·rw[hpx]at hb;cases hb
   ·rw[hpx]at hb;simp at hb;exact hb.symm
  simp only[aP,reduceCtorEq,this]
 ·rw[C9 p _ _ l [] (by simp)]
  simp only[List.nil_append]
  split
  ·rename_i h;rw[h]
  ·rfl
theorem abq (dyn:Nat→List AV→Heap→Option (AV×Heap)) (l:List lJ) (hl:l.length≤aW) (n:Nat) (caps:List AV) (p:lJ→Bool) (σ:Heap) (hd:∀x∈l,dyn n ((.agg (bO x):AV)::caps) σ=some (.bool (p x),σ)):JU dyn [sl 3 bO l,.fn n caps] σ=some (.int .i64 (jZ p l),σ):=by
 refine wrap_eq rfl ?_ rfl
 show JV dyn (sl 3 bO l) (.fn n caps) σ=_
 unfold JV
 simp only[aP,reduceCtorEq]
 refine(oM (S:=Unit) (R:=Int) l (fun pre x _=>if p x=true then .out (pre.length:Int)else .go ())
  (fun pre _=>[.int .i64 0,.int .i64 (pre.length:Int)]) (fun _ _=>σ) (fun _=>(.exit 0,[.int .i64 0,.int .i64 (l.length:Int)],σ)) (fun pre _ r=>(.ret,[.int .i64 (pre.length:Int),.int .i64 (pre.length:Int)],σ))
  (fun _ _=>True) () (fun _=>some (AV.int .i64 (-1),σ)) (fun r=>some (AV.int .i64 r,σ)) ?_ ?_ trivial (fun _ _ _ _ _ _ _ _=>trivial) ?_ ?_).trans ?_
 ·intro pre x rest u hl' _
  have hx:=oP hl'
  have hlt:=rO hl'
  have hi1:IntKind.i64.wrap ((pre.length:Int)+1)=(pre.length:Int)+1:=wrap64 (by unfold aN;unfold aW at hl;omega)
  have hlt':(pre.length:Int)<(l.length:Int):=by omega
  have jH:=lM 3 bO l hx
  have nX:=hd x (by rw[hl'];simp)
  simp only[aP,reduceCtorEq,adv,adw,adx,aes,aec,Vi,hlt',jH,A.jE,List.cons_append,List.nil_append,nX,hi1]
  cases p x<;>simp [aP,reduceCtorEq]
 ·intro u _;simp only[aP,reduceCtorEq,Int.lt_irrefl]
 ·intro u _;simp only[aP,reduceCtorEq]
 ·intro pre x rest s q hl' _ hb
  have:q=(pre.length:Int):=by
   cases hpx:p x
   ·rw[hpx]at hb;cases hb
   ·rw[hpx]at hb;simp at hb;exact hb.symm
  simp only[aP,reduceCtorEq,this]
 ·rw[C9 p _ _ l [] (by simp)]
  simp only[List.nil_append]
  split
  ·rename_i h;rw[h]
  ·rfl
theorem abm (dyn:Nat→List AV→Heap→Option (AV×Heap)) (l:List lJ) (hl:l.length≤aW) (n:Nat) (caps:List AV) (p:lJ→Bool) (σ:Heap) (hd:∀x∈l,dyn n ((.agg (bO x):AV)::caps) σ=some (.bool (p x),σ)):JS dyn [sl 3 bO l,.fn n caps] σ=some (.bool (l.any p),σ):=by
 refine wrap_eq rfl ?_ rfl
 show JT dyn (sl 3 bO l) (.fn n caps) σ=_
 unfold JT
 simp only[aP,reduceCtorEq,abq dyn l hl n caps p σ hd]
 refine congrArg some (congrArg (fun b=>(AV.bool b,σ)) ?_)
 exact aiu p l
theorem O9 (nm:ByteArray):∀(l:List cV),jV nm l=match l.find? (fun x:cV=>decide (x.name=nm))with|some p=>(p,true)|none=>(⟨⟨#[]⟩,0,[]⟩,false)
 |[]=>rfl
 |p::l=>by
  rw[jV]
  by_cases h:p.name=nm
  ·simp [h]
  ·simp [h,O9 nm l]
theorem adA (x:cV) (nm:ByteArray) (σ:Heap):GK [.agg (ck x),.rp [.str nm]] σ=some (.bool (decide (x.name=nm)),σ):=by
 refine wrap_eq rfl ?_ rfl
 show NU (.agg (ck x)) (.rp [.str nm]) σ=_
 unfold NU
 simp only[aP,reduceCtorEq,qd,rA,qg,rE,rC,rF]
 show(some (AV.str nm)).bind _=_
 simp only[aP,reduceCtorEq]
theorem nnP (x:ep):A.bW [.k,.k,.k,.k,.k,.k,(.s 3)] (eU x)=eU x:=rfl
theorem alp (p:cV) (b:Bool):A.nn (.t [(.a Dq),.k]) (.aH [.agg (ck p),.bool b])=.aH [.agg (ck p),.bool b]:=by
 show AV.aH [.agg [.str p.name,.int .i64 p.size,A.nn (.e 7 [.k,.k,.k,.k,.k,.k,(.s 3)]) (sl 7 eU p.params)],.bool b]=_
 rw[tY nnP];rfl
theorem V5 (l:List cV) (hl:l.length≤aW) (nm:ByteArray) (σ:Heap):Kh [sl 3 ck l,.str nm] σ=some (.aH [.agg (ck (jV nm l).1),.bool (jV nm l).2],σ):=by
 have key:∃w,Kl (sl 3 ck l) (.str nm) σ=some (w,σ)∧A.nn (.t [(.a Dq),.k]) w=.aH [.agg (ck (jV nm l).1),.bool (jV nm l).2]:=by
  unfold Kl
  simp only[aP,reduceCtorEq]
  rw[abv _ l hl 64 [.rp [.str nm]] (fun x=>decide (x.name=nm)) σ (fun x _=>adA x nm σ)]
  simp only[aP,reduceCtorEq]
  rw[O9]
  rcases zk (fun x:cV=>decide (x.name=nm)) l with⟨h1,_,h3⟩|⟨k,x,h1,h2,h3,h4,_⟩
  ·refine⟨.aH [.agg [.str ⟨#[]⟩,.int .i64 0,.au],.bool false],?_,?_⟩
   ·rw[h1]
    simp only[aP,reduceCtorEq,show((-1:Int)<0)from by decide]
    rfl
   ·rw[h3];rfl
  ·refine⟨.aH [.agg (ck x),.bool true],?_,?_⟩
   ·rw[h3]
    simp only[aP,reduceCtorEq,qd,rA,qg,rE,rC,rF,show ¬((k:Int)<0)from by omega,lM 3 ck l h1]
   ·rw[h4];exact alp x true
 obtain⟨w,h1,h2⟩:=key
 exact wrap_eq rfl h1 h2
def marks (f:Nat→Bool):List AV:=(List.range 513).map fun k=>.bool (f k)
theorem Ff (f:Nat→Bool) {k:Nat} (h:k<513):(marks f)[k]? =some (.bool (f k)):=by simp [marks,h]
theorem C1 (f:Nat→Bool):(marks f).length=513:=by simp [marks]
theorem WD (f:Nat→Bool) {γ:Type} (K1 K2:γ):∀(s a:Nat) (pre:List Nat),(ku (fun _ k (_:Unit)=>if 512<k∨f k=true then(Rd.out ():Rd Unit Unit)else .go ()) pre (List.range' a s) ()).el (fun _=>K1) (fun _=>K2)=if u9 f s a=true then K1 else K2
 |0,a,pre=>by simp [ku,u9,Rd.el]
 |s+1,a,pre=>by
  rw[List.range'_succ,ku,u9]
  by_cases h:512<a∨f a=true
  ·simp only[if_pos h,Rd.el];simp
  ·simp only[if_neg h]
   exact WD f K1 K2 s (a+1) _
theorem ajK (a s:Int) (h:aN (a+s)) (h':aN (a+s-1)) (σ:Heap):EJ [.np,.int .i64 a,.int .i64 s] σ=some (.bool (decide (a+s-1≤512)),σ):=by
 refine wrap_eq rfl ?_ rfl
 show GL .np (.int .i64 a) (.int .i64 s) σ=_
 unfold GL
 simp only[aP,reduceCtorEq,show A.eql .p AV.np AV.np=some (.bool true)from rfl,wrap64 h,wrap64 h']
theorem ahT (cs:List AV) {k:Nat} (h:k<513):A.yF 513 1 (.rp cs) (.int .i64 (k:Int))=some (.rp (cs.drop k)):=by
 have h1:A.idx 513 (.int .i64 (k:Int))=some k:=by
  show(if(0:Int)≤(k:Int)∧(k:Int)<((513:Nat):Int)then some (k:Int).toNat else none)=some k
  rw[if_pos ⟨by omega,by omega⟩];rfl
 unfold A.yF
 rw[h1]
 simp only[Option.bind_some,Nat.mul_one]
theorem ajM (f:Nat→Bool) (a s:Nat) (hs:a≤1024∧s≤1024) (σ:Heap):EJ [.rp (marks f),.int .i64 (a:Int),.int .i64 (s:Int)] σ=some (.bool (u9 f s a),σ):=by
 refine wrap_eq rfl ?_ rfl
 show GL (.rp (marks f)) (.int .i64 (a:Int)) (.int .i64 (s:Int)) σ=_
 unfold GL
 have hw:IntKind.i64.wrap ((a:Int)+s)=(a:Int)+s:=wrap64 (by unfold aN;omega)
 simp only[aP,reduceCtorEq,show A.eql .p (AV.rp (marks f)) AV.np=some (.bool false)from rfl,hw]
 refine(oM (S:=Unit) (R:=Unit) (List.range' a s) (fun _ k (_:Unit)=>if 512<k∨f k=true then(Rd.out ():Rd Unit Unit)else .go ())
  (fun pre _=>[.bool false,.int .i64 ((a:Int)+(pre.length:Int))]) (fun _ _=>σ) (fun _=>(.exit 0,[.bool false,.int .i64 ((a:Int)+s)],σ)) (fun pre _ _=>(.ret,[.bool false,.int .i64 ((a:Int)+(pre.length:Int))],σ))
  (fun _ _=>True) () (fun _=>some (AV.bool true,σ)) (fun _=>some (AV.bool false,σ)) ?_ ?_ trivial (fun _ _ _ _ _ _ _ _=>trivial) ?_ ?_ (hv:=by simp)).trans ?_
 ·intro pre k rest u hl _
  have hx:=oP hl
  have hlt:=rO hl
  rw[List.length_range']at hlt
  obtain rfl:a+pre.length=k:=by
   have:=(List.getElem?_eq_some_iff.1 hx).2
   simpa [List.getElem_range']using this
  have hlt':(a:Int)+(pre.length:Int)<(a:Int)+s:=by omega
  have hi1:IntKind.i64.wrap ((a:Int)+(pre.length:Int)+1)=(a:Int)+((pre.length:Int)+1):=by rw[wrap64 (by unfold aN;omega)];omega
  have ecast:(a:Int)+(pre.length:Int)=((a+pre.length:Nat):Int):=by omega
  clear hl hx
  by_cases h5:512<a+pre.length
  ·have Tp:(512:Int)<(a:Int)+(pre.length:Int):=by omega
   simp only[aP,reduceCtorEq,hlt',h5,Tp]
  have Tp:¬(512:Int)<(a:Int)+(pre.length:Int):=by omega
  have hp:A.aj 0 ((marks f).drop (a+pre.length))=some (.bool (f (a+pre.length))):=by
   rw[TU];simp only[A.aj,Nat.add_zero,Ff f (show a+pre.length<513 by omega)];rfl
  simp only[aP,reduceCtorEq,hlt',h5,Tp,show A.aL (AV.rp (marks f))=some (.rp (marks f))from rfl]
  rw[ecast,ahT _ (by omega)]
  simp only[aP,reduceCtorEq,hp]
  cases hf:f (a+pre.length)
  ·simp only[aP,reduceCtorEq,←ecast,hi1]
  ·simp only[aP,reduceCtorEq,←ecast]
 ·intro u _
  rw[List.length_range']
  exact Fm _ _ _
 ·intro u _;simp only[aP,reduceCtorEq]
 ·intros;simp only[aP,reduceCtorEq]
 ·rw[WD]
  cases u9 f s a<;>rfl
theorem ajL (f:Nat→Bool) (a s:Nat) (hs:a≤1024∧s≤1024) {σ:Heap} {id:Nat} (h:σ[id]? =some (.box (marks f))):EJ [.op id 0,.int .i64 (a:Int),.int .i64 (s:Int)] σ=some (.bool (u9 f s a),σ):=by
 refine Yp (args':=[.rp (marks f),.int .i64 (a:Int),.int .i64 (s:Int)]) rfl ?_ rfl (ajM f a s hs []) rfl
 have e:A.tN σ 0 7 (marks f)=some (marks f):=by
  have key:∀(l:List Nat),A.tN σ 0 7 (l.map fun k=>AV.bool (f k))=some (l.map fun k=>AV.bool (f k)):=by
   intro l
   induction l with
   |nil=>simp [A.tN]
   |cons x l ih=>simp [A.tN,A.bw,ih]
  exact key _
 simp [A.eO,A.bw,h,e]
def tI (b:Nat):List Int→List (AV×AV)
 |[]=>[]
 |v::r=>(.int .i64 v,.op b 0)::tI (b+1) r
def iB (σ:Heap) (vs:List Int) (f:Int→Nat→Bool):Heap:=σ++(aJ.map (tI (σ.length+1) vs)::vs.map fun v=>aJ.box (marks (f v)))
theorem Yn (v:Int):∀(vs:List Int) (b:Nat),tI b (vs++[v])=tI b vs++[(.int .i64 v,.op (b+vs.length) 0)]
 |[],b=>rfl
 |w::r,b=>by
  simp only[List.cons_append,tI,Yn v r (b+1),List.length_cons]
  rw[show b+1+r.length=b+(r.length+1) by omega]
theorem LR (v:Int):∀(vs:List Int) (b:Nat),A.find .i (.int .i64 v) (tI b vs)=some (if v∈vs then some (.op (b+vs.idxOf v) 0)else none)
 |[],b=>rfl
 |w::r,b=>by
  simp only[tI,A.find,A.dZ,A.mI,if_true,Option.bind_some]
  by_cases h:v=w
  ·subst h;simp
  ·have h1:(v==w)=false:=by simpa using h
   have h2:(w==v)=false:=by simpa using fun e:w=v=>h e.symm
   simp only[h1,cond_false,LR v r (b+1),List.mem_cons,h,false_or,List.idxOf_cons,h2]
   rw[show b+1+r.idxOf v=b+(r.idxOf v+1) by omega]
theorem Y9 (v:Int) (w:AV):∀(vs:List Int) (b:Nat),v∉vs→A.upd .i (.int .i64 v) w (tI b vs)=some (tI b vs++[(.int .i64 v,w)])
 |[],b,_=>rfl
 |x::r,b,h=>by
  simp only[List.mem_cons,not_or]at h
  have h1:(v==x)=false:=by simpa using h.1
  simp only[tI,A.upd,A.dZ,A.mI,if_true,Option.bind_some,h1,cond_false,Y9 v w r (b+1) h.2,Option.map_some,List.cons_append]
theorem Zb (σ:Heap) (vs:List Int) (f:Int→Nat→Bool):(iB σ vs f).length=σ.length+1+vs.length:=by simp [iB];omega
theorem Md (σ:Heap) (vs:List Int) (f:Int→Nat→Bool):(iB σ vs f)[σ.length]? =some (.map (tI (σ.length+1) vs)):=by simp [iB]
theorem Za (σ:Heap) {vs:List Int} (f:Int→Nat→Bool) {v:Int} (h:v∈vs):(iB σ vs f)[σ.length+1+vs.idxOf v]? =some (.box (marks (f v))):=by
 unfold iB
 rw[List.getElem?_append_right (by omega),show σ.length+1+vs.idxOf v-σ.length=vs.idxOf v+1 by omega,List.getElem?_cons_succ,List.getElem?_map]
 have:vs[vs.idxOf v]? =some v:=by
  have hl:=List.idxOf_lt_length_of_mem h
  rw[List.getElem?_eq_getElem hl,List.getElem_idxOf hl]
 rw[this];rfl
theorem akP (σ:Heap) {vs:List Int} (hn:vs.Nodup) {f f':Int→Nat→Bool} {v:Int} (h:v∈vs) (ho:∀w,w≠v→f' w=f w):(iB σ vs f).set (σ.length+1+vs.idxOf v) (.box (marks (f' v)))=iB σ vs f':=by
 unfold iB
 rw[List.set_append_right _ _ (by omega),show σ.length+1+vs.idxOf v-σ.length=vs.idxOf v+1 by omega,List.set_cons_succ]
 refine congrArg (fun z=>σ++(aJ.map (tI (σ.length+1) vs)::z)) ?_
 clear σ
 induction vs with
 |nil=>cases h
 |cons w r ih=>
  rw[List.nodup_cons]at hn
  rw[List.idxOf_cons]
  by_cases e:w=v
  ·subst e
   simp only[beq_self_eq_true,cond_true,List.map_cons,List.set_cons_zero]
   exact congrArg (aJ.box (marks (f' w))::·) (List.map_congr_left fun x hx=>by rw[ho x (fun e=>hn.1 (e▸hx))])
  ·have e2:(w==v)=false:=by simpa using e
   simp only[e2,cond_false,List.map_cons,List.set_cons_succ]
   rw[ih hn.2 ((List.mem_cons.1 h).resolve_left fun q=>e q.symm),ho w e]
theorem akO (σ:Heap) (vs:List Int) {f:Int→Nat→Bool} {v:Int} (h:∀k,f v k=false):((iB σ vs f)++[aJ.box (List.replicate 513 aM)]).set σ.length (.map (tI (σ.length+1) (vs++[v])))=iB σ (vs++[v]) f:=by
 have e:marks (f v)=List.replicate 513 aM:=by
  rw[show f v=fun _=>false from funext h]
  refine List.eq_replicate_iff.2 ⟨C1 _,fun b hb=>?_⟩
  obtain⟨k,_,rfl⟩:=List.mem_map.1 hb
  rfl
 unfold iB
 simp only[List.append_assoc,List.cons_append]
 rw[List.set_append_right _ _ (Nat.le_refl _),Nat.sub_self,List.set_cons_zero,List.map_append,List.map_cons,e]
 rfl
theorem ahm (g g':Nat→Bool) {k:Nat} (hk:k<513) (h1:g' k=true) (h2:∀j,j≠k→g' j=g j):A.splice k [AV.bool true] (marks g)=some (marks g'):=by
 unfold A.splice
 rw[if_pos (by rw[C1];simp;omega)]
 refine congrArg some (List.ext_getElem? fun j=>?_)
 simp only[List.append_assoc,List.cons_append,List.nil_append,List.length_cons,List.length_nil]
 by_cases hj:j<k
 ·rw[List.getElem?_append_left (by rw[List.length_take,C1];omega),List.getElem?_take_of_lt hj,Ff _ (by omega),Ff _ (by omega),h2 j (by omega)]
 ·rw[List.getElem?_append_right (by rw[List.length_take,C1];omega),List.length_take,C1,Nat.min_eq_left (by omega)]
  by_cases e:j=k
  ·subst e
   rw[Nat.sub_self,List.getElem?_cons_zero,Ff _ hk,h1]
  ·rw[show j-k=(j-k-1)+1 by omega,List.getElem?_cons_succ,List.getElem?_drop,show k+(0+1)+(j-k-1)=j by omega]
   by_cases hj2:j<513
   ·rw[Ff _ hj2,Ff _ hj2,h2 j e]
   ·rw[List.getElem?_eq_none (by rw[C1];omega),List.getElem?_eq_none (by rw[C1];omega)]
theorem Mr {α γ:Type} (K1:Unit→γ) (K2:Unit→γ):∀(l pre:List α),(ku (fun _ (x:α) (_:Unit)=>(Rd.go ():Rd Unit Unit)) pre l ()).el K1 K2=K1 ()
 |[],pre=>rfl
 |x::l,pre=>by rw[ku];exact Mr K1 K2 l _
theorem Wb {α S:Type} {body:List α→α→S→Rd S Int} {uv:List α→List α→Int} (h0:∀pre,uv pre []=0) (h:∀pre x rest s,uv pre (x::rest)=(body pre x s).el (fun _=>uv (pre++[x]) rest) (fun r=>r)) {γ:Type} (K:Int→γ):
  ∀(l pre:List α) (s:S),(ku body pre l s).el (fun _=>K 0) K=K (uv pre l)
 |[],pre,s=>by rw[ku,h0];rfl
 |x::l,pre,s=>by
  rw[ku,h pre x l s]
  cases body pre x s with
  |go s'=>exact Wb h0 h K l (pre++[x]) s'
  |out r=>rfl
theorem afT (f:Int→Nat→Bool) (v:Int) (a:Nat):nE f v a 0=f:=by
 funext w k
 unfold nE
 rw[if_neg (by omega)]
theorem Xm {γ:Type} (σ:Heap) {vs:List Int} (hn:vs.Nodup) (f:Int→Nat→Bool) (u:gW) (a s:Nat) (ha:u.address=a) (hs:a+s≤513) (hm:u.univ∈vs) (K:List AV→Heap→Option γ):
  (A.loop (fun v11 kK=>
   ((A.lb (v11.getD 0 AV.undef)).bind fun _=>some (3)).bind fun p13=>
   ((A.lb (v11.getD 0 AV.undef)).bind fun jP=>A.aj p13 jP).bind fun cU=>
   (A.add cU (.int .i64 (s:Int))).bind fun cz=>
   (A.lss (v11.getD 1 AV.undef) cz).bind fun cG=>
   A.cond cG (
    ((A.lb (v11.getD 0 AV.undef)).bind fun _=>some (2)).bind fun p18=>
    ((A.lb (v11.getD 0 AV.undef)).bind fun gM=>A.aj p18 gM).bind fun dg=>
    (A.look .i (.om σ.length) dg AV.np kK).bind fun bM=>
    (A.aL bM).bind fun dh=>
    (A.yF 513 1 dh (v11.getD 1 AV.undef)).bind fun eP=>
    (A.storeAt eP [AV.bool true] kK).bind fun gO=>
    (A.add (v11.getD 1 AV.undef) aG).bind fun fC=>
    some (AX.normal,[(v11.getD 0 AV.undef),fC],gO)) (
    some (AX.exit 0,[(v11.getD 0 AV.undef),(v11.getD 1 AV.undef)],kK))) [.lbx (bV u),.int .i64 (a:Int)] (iB σ vs f)).bind (fun xK=>
 bif decide (xK.1=AX.exit 0)then K xK.2.1 xK.2.2 else none)=K [.lbx (bV u),.int .i64 ((a:Int)+s)] (iB σ vs (nE f u.univ a s)):=by
 have hw:IntKind.i64.wrap ((a:Int)+s)=(a:Int)+s:=wrap64 (by unfold aN;omega)
 refine(oM (S:=Unit) (R:=Unit) (List.range' a s) (fun _ k (_:Unit)=>(Rd.go ():Rd Unit Unit))
  (fun pre _=>[.lbx (bV u),.int .i64 ((a:Int)+(pre.length:Int))]) (fun pre _=>iB σ vs (nE f u.univ a pre.length)) (fun _=>(.exit 0,[.lbx (bV u),.int .i64 ((a:Int)+s)],iB σ vs (nE f u.univ a s))) (fun pre _ _=>(.ret,[],σ))
  (fun _ _=>True) () (fun _=>K [.lbx (bV u),.int .i64 ((a:Int)+s)] (iB σ vs (nE f u.univ a s))) (fun _=>none) ?_ ?_ trivial (fun _ _ _ _ _ _ _ _=>trivial) ?_ ?_ (hv:=by simp) (fS:=by rw[List.length_nil,afT])).trans (Mr _ _ _ _)
 ·intro pre k rest t hl _
  have hx:=oP hl
  have hlt:=rO hl
  rw[List.length_range']at hlt
  obtain rfl:a+pre.length=k:=by
   have:=(List.getElem?_eq_some_iff.1 hx).2
   simpa [List.getElem_range']using this
  have hlt':(a:Int)+(pre.length:Int)<(a:Int)+s:=by omega
  have hi1:IntKind.i64.wrap ((a:Int)+(pre.length:Int)+1)=(a:Int)+((pre.length:Int)+1):=by rw[wrap64 (by unfold aN;omega)];omega
  have ecast:(a:Int)+(pre.length:Int)=((a+pre.length:Nat):Int):=by omega
  clear hl hx
  have Ro:A.look .i (.om σ.length) (.int .i64 u.univ) AV.np (iB σ vs (nE f u.univ a pre.length))=some (.op (σ.length+1+vs.idxOf u.univ) 0):=by
   rw[BA .i rfl (Md σ vs _),LR,if_pos hm];rfl
  have anJ:A.yF 513 1 (.op (σ.length+1+vs.idxOf u.univ) 0) (.int .i64 ((a+pre.length:Nat):Int))=some (.op (σ.length+1+vs.idxOf u.univ) (a+pre.length)):=by
   have h1:A.idx 513 (.int .i64 ((a+pre.length:Nat):Int))=some (a+pre.length):=by
    show(if(0:Int)≤((a+pre.length:Nat):Int)∧((a+pre.length:Nat):Int)<((513:Nat):Int)then some ((a+pre.length:Nat):Int).toNat else none)=_
    rw[if_pos ⟨by omega,by omega⟩];rfl
   unfold A.yF
   rw[h1]
   simp only[Option.bind_some,Nat.mul_one,Nat.zero_add]
  have hst:A.storeAt (.op (σ.length+1+vs.idxOf u.univ) (a+pre.length)) [.bool true] (iB σ vs (nE f u.univ a pre.length))=some (iB σ vs (nE f u.univ a (pre.length+1))):=by
   simp only[A.storeAt,Za σ _ hm]
   rw[ahm _ (nE f u.univ a (pre.length+1) u.univ) (by omega) (by unfold nE;rw[if_pos ⟨rfl,by omega,by omega⟩]) (fun j hj=>by
    unfold nE
    by_cases q:a≤j∧j<a+pre.length
    ·rw[if_pos ⟨rfl,by omega,by omega⟩,if_pos ⟨rfl,q.1,q.2⟩]
    ·rw[if_neg (by omega),if_neg (by omega)])]
   simp only[Option.map_some]
   rw[akP σ hn hm (fun w hw=>by funext j;unfold nE;rw[if_neg (fun q=>hw q.1),if_neg (fun q=>hw q.1)])]
  simp only[aP,reduceCtorEq,qh,qi,qj,ql,qn,qm,qp,ha,hw,hlt',Ro,show A.aL (.op (σ.length+1+vs.idxOf u.univ) 0)=some (.op (σ.length+1+vs.idxOf u.univ) 0)from rfl]
  rw[ecast,anJ]
  simp only[aP,reduceCtorEq,hst,←ecast,hi1]
 ·intro t _
  rw[List.length_range']
  simp only[aP,reduceCtorEq,qh,qi,qj,ql,qn,qm,qp,ha,hw,Int.lt_irrefl]
 ·intro t _;simp only[aP,reduceCtorEq]
 ·intro pre x rest t r _ _ hb;cases hb
theorem akL (σ:Heap) {vs:List Int} (hn:vs.Nodup) (f:Int→Nat→Bool) (u:gW) (a s:Nat) (ha:u.address=a) (hs:a+s≤513) (hf:u.univ∉vs→∀k,f u.univ k=false):
  Ko [.om σ.length,.agg (bV u),.int .i64 (s:Int)] (iB σ vs f)=some (.aH [],iB σ (if u.univ∈vs then vs else vs++[u.univ]) (nE f u.univ a s)):=by
 have e:GX (.om σ.length) (.agg (bV u)) (.int .i64 (s:Int)) (iB σ vs f)=some (.aH [],iB σ (if u.univ∈vs then vs else vs++[u.univ]) (nE f u.univ a s)):=by
  unfold GX
  have Ro:A.look .i (.om σ.length) (.int .i64 u.univ) AV.np (iB σ vs f)=some (if u.univ∈vs then .op (σ.length+1+vs.idxOf u.univ) 0 else .np):=by
   rw[BA .i rfl (Md σ vs _),LR]
   by_cases hm:u.univ∈vs<;>simp [hm]
  simp only[aP,reduceCtorEq,qh,qi,qj,ql,qn,qm,qp,Ro]
  by_cases hm:u.univ∈vs
  ·simp only[if_pos hm,show A.eql .p (.op (σ.length+1+vs.idxOf u.univ) 0) AV.np=some (.bool false)from rfl,aP,reduceCtorEq,qh,qi,qj,ql,qn,qm,qp,ha]
   exact Xm σ hn f u a s ha hs hm fun _ h=>some (AV.aH [],h)
  ·have hup:A.ew .i (.om σ.length) (.int .i64 u.univ) (.op (iB σ vs f).length 0) (iB σ vs f++[aJ.box (List.replicate 513 aM)])=some (iB σ (vs++[u.univ]) f):=by
    rw[zz .i rfl (es:=tI (σ.length+1) vs) (by rw[List.getElem?_append_left (by rw[Zb];omega)];exact Md σ vs f),Y9 _ _ _ _ hm]
    rw[Option.map_some,Zb,←Yn,akO σ vs (hf hm)]
   simp only[if_neg hm,show A.eql .p AV.np AV.np=some (.bool true)from rfl,aP,reduceCtorEq,qh,qi,qj,ql,qn,qm,qp,hup,ha]
   exact Xm σ (by rw[List.nodup_append];exact⟨hn,by simp,fun x hx y hy e=>hm (by simp at hy;rw[←hy,←e];exact hx)⟩) f u a s ha hs (by simp) fun _ h=>some (AV.aH [],h)
 unfold Ko A.wrap
 rw[Bool.false_and,cond_false]
 show(GX (.om σ.length) (.agg (bV u)) (.int .i64 (s:Int)) (iB σ vs f)).map _=_
 rw[e];rfl
theorem afW {α:Type} (f:α→Int) {l pre rest:List α} {x:α} (h:l=pre++x::rest) (n:Int):(∃y,0<pre.length∧l[pre.length-1]? =some y∧DM (pre.map f) n=decide (n≤f y))∨(¬0<pre.length∧DM (pre.map f) n=false):=by
 by_cases h0:0<pre.length
 ·obtain⟨y,hy,hy2⟩:=X4 h h0
  exact .inl ⟨y,h0,hy2,by simp [DM,List.getLast?_map,hy]⟩
 ·obtain rfl:pre=[]:=List.eq_nil_of_length_eq_zero (by omega)
  exact .inr ⟨h0,rfl⟩
theorem ajb (σ:Heap) (vs:List Int) (f:Int→Nat→Bool) (v:Int):A.look .i (.om σ.length) (.int .i64 v) AV.np (iB σ vs f)=some (if v∈vs then .op (σ.length+1+vs.idxOf v) 0 else .np):=by
 rw[BA .i rfl (Md σ vs _),LR]
 by_cases hm:v∈vs<;>simp [hm]
theorem YD (σ:Heap) (vs:List Int) (f:Int→Nat→Bool) (n:Int):A.fin σ (.int .i64 n) (iB σ vs f)=some (.int .i64 n,σ):=QD _ _ _ _
theorem O0 (r:gp) (hok:BZ r) (σ:Heap):J9 [.agg (jM r)] σ=some (.int .i64 (j0 r),σ):=by
 refine wrap_eq rfl ?_ rfl
 show N2 (.agg (jM r)) σ=_
 obtain⟨Sn,TJ⟩:=hok
 have Jb:=Sn.1
 unfold N2 j0
 simp only[aP,reduceCtorEq,yg,yh,yw,yq,yx,ada _ Sn]
 by_cases hf:wX r.aY=0
 case neg=>simp only[aP,reduceCtorEq,hf]
 by_cases h4:400<r.units.length
 ·have h4':(400:Int)<r.units.length:=by omega
  simp only[aP,reduceCtorEq,yg,yh,yw,yq,yx,hf,h4,h4']
 have h4':¬(400:Int)<r.units.length:=by omega
 simp only[aP,reduceCtorEq,yg,yh,yw,yq,yx,hf,h4,h4']
 have ZD:=afQ hf
 generalize Ng:r.units=l at *
 refine(oM (S:=List Int×(Int→Nat→Bool)) (R:=Int) l (fun pre u s=>if aR u.number 1 9999=false then .out 1
    else if DM (pre.map (·.number)) u.number=true then .out 7
    else if(jV u.profile r.aY).2=false then .out 5
    else if aR u.univ 1 64=false∨aR u.address 1 512=false∨512<pe r.aY u then .out 1
    else if FH r.aY u pre=true then .out 12 else .go (if u.univ∈s.1 then s.1 else s.1++[u.univ],nE s.2 u.univ u.address.toNat (jV u.profile r.aY).1.size.toNat))
  (fun pre _=>[.lbx (jM r),.int .i64 0,.int .i64 (pre.length:Int)]) (fun pre s=>iB σ s.1 s.2)
  (fun s=>(.exit 0,[.lbx (jM r),.int .i64 0,.int .i64 (l.length:Int)],iB σ s.1 s.2)) (fun pre s n=>(.ret,[.lbx (jM r),.int .i64 n,.int .i64 (pre.length:Int)],iB σ s.1 s.2))
  (fun pre s=>Hy r.aY pre∧BF r.aY pre s.2∧s.1.Nodup∧∀v,v∉s.1→∀k,s.2 v k=false) ([],fun _ _=>false) (fun _=>some (AV.int .i64 0,σ)) (fun n=>some (AV.int .i64 n,σ)) ?_ ?_ ⟨(by intro x hx;simp at hx),BF.nil _,List.nodup_nil,fun _ _ _=>rfl⟩ ?_ ?_ ?_).trans ?_
 ·intro pre u rest s hl hP
  have hx:=oP hl;have hlt:=rO hl;have hi1:IntKind.i64.wrap ((pre.length:Int)+1)=(pre.length:Int)+1:=wrap64 (by unfold aN;omega);have hi2:IntKind.i64.wrap ((pre.length:Int) -1)=(pre.length:Int) -1:=wrap64 (by unfold aN;omega);have hlt':(pre.length:Int)<(l.length:Int):=by omega
  have hmp:pre.length≤aW:=by unfold aW;omega
  have jH:=lM 4 bV l hx
  have M9:=V5 r.aY Jb u.profile
  have ho:=afW (·.number) hl u.number
  obtain⟨vs,f⟩:=s
  obtain⟨I2,I3,Gq,Gs⟩:=hP
  dsimp only at I2 I3 Gq Gs ⊢
  clear TJ h4 h4' hl hx
  simp only[aP,reduceCtorEq,qh,qi,qj,ql,qn,qm,qp,yg,yh,yw,yq,yx,Ng,hlt',jH,M9,qd,rA,qg,rE,rC,rF,jT]
  cases h1:aR u.number 1 9999
  ·simp only[aP,reduceCtorEq]
  simp only[aP,reduceCtorEq]
  rcases ho with⟨y,h0,hy,ho⟩|⟨h0,ho⟩
  case' inl=>
   have qQ:(0:Int)<pre.length:=by omega
   have Si:=KP 4 bV l h0 hy
   by_cases hq:u.number≤y.number
   ·simp only[aP,reduceCtorEq,qh,qi,qj,ql,qn,qm,qp,yg,yh,yw,yq,yx,Ng,qQ,hi2,Si,ho,hq]
   simp only[aP,reduceCtorEq,qh,qi,qj,ql,qn,qm,qp,yg,yh,yw,yq,yx,Ng,qQ,hi2,Si,ho,hq]
  case' inr=>
   have qQ:¬(0:Int)<pre.length:=by omega
   simp only[aP,reduceCtorEq,qQ,ho]
  all_goals
   try simp only[aP,reduceCtorEq,qh,qi,qj,ql,qn,qm,qp,yg,yh,yw,yq,yx,Ng,M9]
   cases hp:(jV u.profile r.aY).2
   ·simp only[aP,reduceCtorEq,qd,rA,qg,rE,rC,rF]
   have hsz:=ZD _ (Pz _ _ hp)
   try simp only[aP,reduceCtorEq,qh,qi,qj,ql,qn,qm,qp,qd,rA,qg,rE,rC,rF,jT]
   cases hu:aR u.univ 1 64
   ·simp only[aP,reduceCtorEq]
   cases ha:aR u.address 1 512
   ·simp only[aP,reduceCtorEq,qh,qi,qj,ql,qn,qm,qp,jT,ha]
   have ha':1≤u.address∧u.address≤512:=by simpa [aR]using ha
   have hw1:IntKind.i64.wrap (u.address+(jV u.profile r.aY).1.size)=u.address+(jV u.profile r.aY).1.size:=wrap64 (by unfold aN;omega)
   have hw2:IntKind.i64.wrap (u.address+(jV u.profile r.aY).1.size-1)=pe r.aY u:=wrap64 (by unfold aN;omega)
   have hlu:pe r.aY u=u.address+(jV u.profile r.aY).1.size-1:=rfl
   by_cases h5:512<pe r.aY u
   ·simp only[aP,reduceCtorEq,qh,qi,qj,ql,qn,qm,qp,qd,rA,qg,rE,rC,rF,jT,ha,hw1,hw2,h5]
   obtain⟨a,Tt⟩:∃a:Nat,u.address=a:=⟨u.address.toNat,by omega⟩
   obtain⟨n,hne⟩:∃n:Nat,(jV u.profile r.aY).1.size=n:=⟨(jV u.profile r.aY).1.size.toNat,by omega⟩
   have Nd:=afL I3 I2 u a n Tt (by omega) (by omega) (by omega)
   have hfree:EJ [if u.univ∈vs then .op (σ.length+1+vs.idxOf u.univ) 0 else .np,.int .i64 (a:Int),.int .i64 (n:Int)] (iB σ vs f)=some (.bool (!FH r.aY u pre),iB σ vs f):=by
    by_cases hm:u.univ∈vs
    ·rw[if_pos hm,ajL (f u.univ) a n (by omega) (Za σ f hm),Nd]
    ·rw[if_neg hm,ajK a n (by unfold aN;omega) (by unfold aN;omega),←Nd]
     have e:u9 (f u.univ) n a=true:=(PT _ _ _).2 fun k h1 h2=>⟨by omega,Gs _ hm k⟩
     rw[e,show decide ((a:Int)+n-1≤512)=true from decide_eq_true (by omega)]
   have qU:=akL σ Gq f u a n Tt (by omega) (Gs u.univ)
   simp only[aP,reduceCtorEq,qh,qi,qj,ql,qn,qm,qp,qd,rA,qg,rE,rC,rF,jT,ha,hw1,hw2,h5,ajb]
   rw[Tt,hne]
   simp only[aP,reduceCtorEq,hfree]
   cases hc:FH r.aY u pre
   ·simp only[aP,reduceCtorEq,qh,qi,qj,ql,qn,qm,qp,qd,rA,qg,rE,rC,rF,hne,qU,hi1,Int.toNat_natCast]
   ·simp only[aP,reduceCtorEq]
 ·intro s _
  exact Fm _ _ _
 ·intro pre u rest s s' hl hP hb
  obtain⟨vs,f⟩:=s
  obtain⟨I2,I3,Gq,Gs⟩:=hP
  dsimp only at I2 I3 Gq Gs hb
  split at hb
  ·cases hb
  split at hb
  ·cases hb
  split at hb
  ·cases hb
  rename_i hp
  split at hb
  ·cases hb
  rename_i hw
  split at hb
  ·cases hb
  injection hb with hb
  subst hb
  simp only[not_or,Bool.not_eq_false,aR,Bool.and_eq_true,decide_eq_true_eq]at hw hp
  have hsz:=ZD _ (Pz _ _ (by simpa using hp))
  have hlu:pe r.aY u=u.address+(jV u.profile r.aY).1.size-1:=rfl
  refine⟨I2.snoc ⟨hw.2.1.1,by omega,by omega⟩,I3.snoc u u.address.toNat _ (by omega) (by omega),?_,?_⟩
  ·dsimp only
   split
   ·exact Gq
   ·rename_i hm
    rw[List.nodup_append];exact⟨Gq,by simp,fun x hx y hy e=>hm (by simp at hy;rw[←hy,←e];exact hx)⟩
  ·intro v hv k
   dsimp only at hv ⊢
   have h1:v≠u.univ∧v∉vs:=by
    split at hv
    ·rename_i hm
     exact⟨fun e=>hv (e▸hm),hv⟩
    ·simp only[List.mem_append,List.mem_singleton,not_or]at hv
     exact⟨hv.2,hv.1⟩
   unfold nE
   rw[if_neg (fun q=>h1.1 q.1)]
   exact Gs v h1.2 k
 ·intro s _;simp only[aP,reduceCtorEq,YD]
 ·intros;simp only[aP,reduceCtorEq,YD]
 ·refine(Wb (uv:=F0 r.aY) ?_ ?_ (fun n=>some (AV.int .i64 n,σ)) l [] _).trans ?_
  ·intro pre;rfl
  ·intro pre x rest s;rw[F0];simp only[FI,BH,BS]
  ·rfl
def rI (gG:List cV) (u:gW):List aB:=(jV u.profile gG).1.params.map fun x=>⟨u.number,x.name⟩
def mY (r:gp):List aB:=r.units.flatMap (rI r.aY)
theorem UL {p:cV} (h:qo p=0):p.params.length≤40:=by
 unfold qo at h
 repeat' split at h
 all_goals first|(simp at h;done)|omega
theorem VN:∀(l pre:List cV),Ce pre l=0→∀p∈l,qo p=0
 |[],pre,h,p,hp=>by simp at hp
 |q::rest,pre,h,p,hp=>by
  rw[Ce]at h
  by_cases e:qo q=0
  ·rw[if_pos e]at h
   by_cases e2:jr q.name (pre.map (·.name))=true
   ·rw[if_pos e2]at h;simp at h
   ·rw[if_neg e2]at h
    simp only[List.mem_cons]at hp
    rcases hp with rfl|hp
    ·exact e
    ·exact VN rest _ h p hp
  ·rw[if_neg e]at h;exact absurd h e
theorem Ql {r:gp} (h:j0 r=0):wX r.aY=0:=by
 unfold j0 at h
 split at h
 ·assumption
 ·rename_i h2;exact absurd h h2
theorem Pq {l:List cV} (h:wX l=0):∀p∈l,qo p=0:=by
 unfold wX at h
 by_cases e:60<l.length
 ·rw[if_pos e]at h;simp at h
 ·rw[if_neg e]at h;exact VN l [] h
theorem V4 {r:gp} (h:j0 r=0) (nm:ByteArray):(jV nm r.aY).1.params.length≤40:=by
 rw[O9]
 cases hf:r.aY.find? (fun x:cV=>decide (x.name=nm))with
 |none=>exact Nat.zero_le _
 |some p=>exact UL (Pq (Ql h) p (List.mem_of_find?_eq_some hf))
theorem OZ {r:gp} (h:j0 r=0):∀(l:List gW),(l.flatMap (rI r.aY)).length≤l.length*40
 |[]=>by simp
 |u::l=>by
  have h1:=V4 h u.profile
  have h2:=OZ h l
  rw[List.flatMap_cons,List.length_append,List.length_cons,Nat.succ_mul]
  have h3:(rI r.aY u).length=(jV u.profile r.aY).1.params.length:=by simp [rI]
  omega
theorem alo (l:List aB) (n:Int):A.nn (.t [(.s 2),.k]) (.aH [if l=[]then .au else sl 2 aO l,.int .i64 n])=.aH [sl 2 aO l,.int .i64 n]:=by
 show AV.aH [A.nn (.s 2) (if l=[]then .au else sl 2 aO l),.int .i64 n]=_
 rw[alq]
theorem Wa {r:gp} (h:j0 r=0):r.units.length≤400:=by
 unfold j0 at h
 split at h
 ·split at h
  ·cases h
  ·omega
 ·rename_i h2;exact absurd h h2
theorem Qt (r:gp) (hok:BZ r) (σ:Heap):ET [.agg (jM r)] σ=some (.aH [sl 2 aO (if j0 r=0 then mY r else[]),.int .i64 (j0 r)],σ):=by
 by_cases hf:j0 r=0
 ·refine wrap_eq rfl (v:=.aH [if mY r=[]then .au else sl 2 aO (mY r),.int .i64 0]) ?_ (by rw[if_pos hf,hf];exact alo _ _)
  show GW (.agg (jM r)) σ=_
  unfold GW
  have hu:=Wa hf
  have Sn:=hok.1.2
  simp only[aP,reduceCtorEq,yg,yh,yw,yq,yx,O0 r hok,hf]
  refine(oM (S:=Unit) (R:=Unit) r.units (fun pre u _=>(Rd.go ():Rd Unit Unit))
   (fun pre _=>[.lbx (jM r),vr σ.length 2 (pre.flatMap (rI r.aY)),.int .i64 (pre.length:Int)]) (fun pre _=>σ++rY 2 aO (pre.flatMap (rI r.aY)))
   (fun _=>(.exit 0,[.lbx (jM r),vr σ.length 2 (mY r),.int .i64 (r.units.length:Int)],σ++rY 2 aO (mY r))) (fun pre _ _=>(.ret,[],σ))
   (fun _ _=>True) () (fun _=>some (AV.aH [if mY r=[]then .au else sl 2 aO (mY r),.int .i64 0],σ)) (fun _=>none) ?_ ?_ trivial (fun _ _ _ _ _ _ _ _=>trivial) ?_ ?_ (fS:=by simp [aiK])).trans (Mr _ _ _ _)
  ·intro pre u rest s hl _
   have hx:=oP hl
   have hlt:=rO hl
   have hi1:IntKind.i64.wrap ((pre.length:Int)+1)=(pre.length:Int)+1:=wrap64 (by unfold aN;omega)
   have hlt':(pre.length:Int)<(r.units.length:Int):=by omega
   have jH:=lM 4 bV r.units hx
   have M9:=V5 r.aY hok.1.1 u.profile
   have hps:=V4 hf u.profile
   have AZ:=OZ hf pre
   have A6:(pre++[u]).flatMap (rI r.aY)=pre.flatMap (rI r.aY)++rI r.aY u:=by simp
   have apz:pre.length≤399:=by omega
   generalize hK:pre.flatMap (rI r.aY)=K at *
   generalize hq:(jV u.profile r.aY).1=p at *
   simp only[aP,reduceCtorEq,qh,qi,qj,ql,qn,qm,qp,yg,yh,yw,yq,yx,hlt',jH,M9,hq,qd,rA,qg,rE,rC,rF]
   refine(oM (S:=Unit) (R:=Unit) p.params (fun pre u _=>(Rd.go ():Rd Unit Unit))
    (fun xJ _=>[.lbx (jM r),vr σ.length 2 (K++xJ.map fun x=>(⟨u.number,x.name⟩:aB)),.lbx (bV u),.int .i64 (xJ.length:Int)]) (fun xJ _=>σ++rY 2 aO (K++xJ.map fun x=>(⟨u.number,x.name⟩:aB)))
    (fun _=>(.exit 2,[.lbx (jM r),vr σ.length 2 (K++rI r.aY u),.lbx (bV u),.int .i64 (p.params.length:Int)],σ++rY 2 aO (K++rI r.aY u))) (fun pre _ _=>(.ret,[],σ))
    (fun _ _=>True) () (fun _=>some (.normal,[.lbx (jM r),vr σ.length 2 (K++rI r.aY u),.int .i64 ((pre.length:Int)+1)],σ++rY 2 aO (K++rI r.aY u))) (fun _=>none) ?_ ?_ trivial (fun _ _ _ _ _ _ _ _=>trivial) ?_ ?_ (hv:=by simp) (fS:=by simp)).trans ((Mr _ _ _ _).trans ?_)
   ·intro xJ x rest' s hl' _
    have gx:=oP hl'
    have glt:=rO hl'
    have gi1:IntKind.i64.wrap ((xJ.length:Int)+1)=(xJ.length:Int)+1:=wrap64 (by unfold aN;omega)
    have anI:(xJ.length:Int)<(p.params.length:Int):=by omega
    have gia:=lM 7 eU p.params gx
    have hap:=afY (most:=140737488355328 / 24) (sz:=2) aO (K++xJ.map fun x=>(⟨u.number,x.name⟩:aB)) ⟨u.number,x.name⟩ σ (by
     rw[List.length_append,List.length_map]
     omega)
    have an6:(K++(xJ++[x]).map fun x=>(⟨u.number,x.name⟩:aB))=(K++xJ.map fun x=>(⟨u.number,x.name⟩:aB))++[⟨u.number,x.name⟩]:=by simp
    clear hl gx glt hx hlt AZ hl'
    rw[an6]
    have hch:AV.sl 2 (chunks 2 1 [AV.int .i64 u.number,AV.str x.name])=.sl 2 [aO ⟨u.number,x.name⟩]:=rfl
    simp only[aP,reduceCtorEq,KG,O3,O4,O5,O6,O7,O8,P4,PR,Ln,qh,qi,qj,ql,qn,qm,qp,anI,gia,gi1]
    show(A.append 2 _ _ (AV.sl 2 [aO ⟨u.number,x.name⟩]) _).bind _=_
    rw[hap]
    simp only[aP,reduceCtorEq,gi1]
   ·intro s _
    refine(Fm _ _ _).trans ?_
    subst hq
    rfl
   ·intro s _;simp only[aP,reduceCtorEq,hi1]
   ·intros;rename_i hb;cases hb
   ·rw[A6]
  ·intro s _
   exact Fm _ _ _
  ·intro s _
   simp only[aP,reduceCtorEq,aij zy]
  ·intros;rename_i hb;cases hb
 ·refine wrap_eq rfl (v:=.aH [.au,.int .i64 (j0 r)]) ?_ (by rw[if_neg hf];rfl)
  show GW (.agg (jM r)) σ=_
  unfold GW
  simp only[aP,reduceCtorEq,yg,yh,yw,yq,yx,O0 r hok,hf]
theorem Vw (n:Int) (σ:Heap):Kq [.int .i64 n] σ=some (.bool (aR n 0 65535),σ):=by
 refine wrap_eq rfl ?_ rfl
 show Oz (.int .i64 n) σ=_
 unfold Oz
 simp only[aP,reduceCtorEq,jT]
def Dc (s:ByteArray):Bool:=if s=⟨#[]⟩then true else HT s
theorem ahU (s:ByteArray) (hs:jc s) (σ:Heap):OL [.str s] σ=some (.bool (Dc s),σ):=by
 refine wrap_eq rfl ?_ rfl
 show OS (.str s) σ=_
 unfold OS Dc
 by_cases h:s=⟨#[]⟩
 ·simp only[aP,reduceCtorEq,h]
 ·simp only[aP,reduceCtorEq,h,Xp s hs]
def Z2:ep:=⟨⟨#[]⟩,0,0,0,0,false,[]⟩
def Ra (p:cV) (nm:ByteArray):ep×Bool:=(p.params.find? fun x=>decide (x.name=nm)).elim (Z2,false) fun x=>(x,true)
def YY (r:gp) (k:aB):ep×Bool:=(r.units.find? fun u=>decide (u.number=k.unit)).elim (Z2,false) fun u=>Ra (jV u.profile r.aY).1 k.param
section
set_option maxRecDepth 100000
noncomputable def OY (a0:Int):Option Bool:=
 some (aR a0 0 36000000)
theorem EY {a0:Int} {σ:Heap} {r:Bool} (h:OY a0=some r):Bn [(AV.int .i64 a0)] σ=some ((AV.bool r),σ):=by
 refine yp (f:=OQ) (y0:=(AV.int .i64 a0)) (enc:=fun r:Bool=>(AV.bool r)) (T:=OY a0) rfl rfl ?_ r h
 unfold OQ OY
 refine aq _ (jT a0 0 36000000 σ) ?_
 exact eD _ (bC _ _) ⟨rfl,rfl⟩
noncomputable def EW (a0:aB) (a1:aB):Option Int:=
 if ¬(a0.unit=a1.unit)then
  if a0.unit<a1.unit then
   some (-1)
  else
  some 1
 else
 some (Lib.compareBytes a0.param.data.toList a1.param.data.toList)
theorem adS {a0:aB} {a1:aB} {σ:Heap} {r:Int} (h:EW a0 a1=some r):Ku [(AV.agg (aO a0)),(AV.agg (aO a1))] σ=some ((AV.int .i64 r),σ):=by
 refine uQ (f:=OF) (y0:=(AV.agg (aO a0))) (y1:=(AV.agg (aO a1))) (enc:=fun r:Int=>(AV.int .i64 r)) (T:=EW a0 a1) rfl rfl ?_ r h
 unfold OF EW
 refine aq _ rfl<|aq _ rfl<|aq _ rfl<|aq _ rfl<|aq _ (gC _ _ _) ?_
 refine kY (p:=¬(a0.unit=a1.unit)) (fun c2=>?_) (fun c2=>?_)
 ·refine aq _ rfl<|aq _ rfl<|aq _ rfl ?_
  refine kY (p:=a0.unit<a1.unit) (fun c1=>?_) (fun c1=>?_)
  ·exact eD _ (bC _ _) ⟨rfl,rfl⟩
  exact eD _ (bC _ _) ⟨rfl,rfl⟩
 refine aq _ rfl<|aq _ rfl<|aq _ rfl ?_
 exact eD _ (bC _ _) ⟨rfl,rfl⟩
noncomputable def EP (a0:(List fF)):Option Int:=
 kW a0 (fun(i8:Nat) e7 (s1:Unit)=>(show Option (Lr Unit Unit Int)from
   if(!(aR e7.key.unit 1 9999))=true then
    some (.ret 1)
   else
   (tq (jc e7.key.param) (tO e7.key.param)).bind fun r9=>
   if(!r9)=true then
    some (.ret 5)
   else
   if((e7.release&&(decide (¬(e7.value=(⟨0,0⟩:lW)))))||((decide (¬(e7.value.level=0)))&&(decide (¬(e7.value.gf=0)))))=true then
    some (.ret 3)
   else
   if((!(aR e7.value.level 0 65535))||(!(aR e7.value.gf 0 999)))=true then
    some (.ret 1)
   else
   if((!e7.yK)&&((decide (¬(e7.delay=0)))||(decide (¬(e7.time=0)))))=true then
    some (.ret 3)
   else
   if((!((aR e7.delay 0 36000000)))||(!((aR e7.time 0 36000000))))=true then
    some (.ret 1)
   else
   (if decide (0<(i8:Int))=true then uH a0 (IntKind.i64.wrap ((i8:Int) -1))else some default).bind fun bJ=>
   (if decide (0<(i8:Int))=true then EW bJ.key e7.key else some default).bind fun dF=>
   if((decide (0<(i8:Int)))&&(decide (0≤dF)))=true then
    some (.ret 7)
   else
   some (.go ()))) (fun s1=>some ()) () (fun b2=>
  some 0) (fun b2=>
  some b2)
theorem ac1 {a0:(List fF)} {σ:Heap} {r:Int} (h:EP a0=some r):Oc [(sl 8 fH a0)] σ=some ((AV.int .i64 r),σ):=by
 refine yp (f:=Od) (y0:=(sl 8 fH a0)) (enc:=fun r:Int=>(AV.int .i64 r)) (T:=EP a0) rfl rfl ?_ r h
 unfold Od EP
 refine aq _ (fE _ _ _) ?_
 refine qx (B:=Unit) (R:=Int) (fun(i8:Nat) (s1:Unit) v w3=>v=[ah,(AV.int .i64 (i8:Int))]∧σ=w3) (fun(b2:Unit) (q:LS)=>∃u2 u7,q=((AX.exit 0),([u2,u7]:List AV),σ)) (fun(b2:Int) (q:LS)=>∃u7,q=(AX.ret,([(AV.int .i64 b2),u7]:List AV),σ)) ?_ ?_ ⟨rfl,rfl⟩ ?_ ?_
 ·intro Ar i8 e7 s1 v w3 nY hI
  obtain⟨rfl,rfl⟩:=hI
  refine aq _ (jF nY)<|qC<|aq _ (iO nY)<|aq _ rfl<|aq _ rfl<|aq _ (LP _ _ rfl)<|aq _ rfl<|aq _ (jT e7.key.unit 1 9999 σ)<|aq _ rfl ?_
  refine ji (c:=(!(aR e7.key.unit 1 9999))) (fun iZ=>?_) (fun iZ=>?_)
  ·exact bZ (iw (by simp) ⟨_,rfl⟩)
  refine aq _ rfl ?_
  refine kZ (fun r9:Bool=>((AV.bool r9),σ)) (fun r9 hr9=>(wC (e:=fun r:Bool=>((AV.bool r),σ)) (fun hs=>LU e7.key.param hs σ)) hr9) (fun r9 hr9=>?_)
  refine aq _ rfl ?_
  refine ji (c:=(!r9)) (fun mF=>?_) (fun mF=>?_)
  ·exact bZ (iw (by simp) ⟨_,rfl⟩)
  refine aq _ rfl<|dS (AV.agg (uV e7.value)) (fun hg=>rfl)<|dS (AV.agg (uV (⟨0,0⟩:lW))) (fun hg=>rfl)<|dS (AV.bool (decide (¬(e7.value=(⟨0,0⟩:lW))))) (fun hg=>by(try rw[hg]);exact(aiI _ _))<|aq _ (rN _ _)<|eE (AV.int .i64 e7.value.level) (fun hg=>rfl)<|eE (AV.bool (decide (¬(e7.value.level=0)))) (fun hg=>by(try rw[hg]);exact(gC _ _ _))<|eE (AV.bool (decide (¬(e7.value.level=0)))) (fun hg=>by(try rw[hg]);exact rfl)<|FN (AV.int .i64 e7.value.gf) (fun hg=>rfl)<|FN (AV.bool (decide (¬(e7.value.gf=0)))) (fun hg=>by(try rw[hg]);exact(gC _ _ _))<|eE (AV.bool ((decide (¬(e7.value.level=0)))&&(decide (¬(e7.value.gf=0))))) (fun hg=>by(try rw[hg]);exact(rN _ _))<|aq _ (pg _ _) ?_
  refine ji (c:=((e7.release&&(decide (¬(e7.value=(⟨0,0⟩:lW)))))||((decide (¬(e7.value.level=0)))&&(decide (¬(e7.value.gf=0)))))) (fun mE=>?_) (fun mE=>?_)
  ·exact bZ (iw (by simp) ⟨_,rfl⟩)
  refine aq _ rfl<|aq _ (jT e7.value.level 0 65535 σ)<|aq _ rfl<|eE (AV.int .i64 e7.value.gf) (fun hg=>rfl)<|eE (AV.bool (aR e7.value.gf 0 999)) (fun hg=>by(try rw[hg]);exact(quiet_of (jT e7.value.gf 0 999 σ)))<|eE (AV.bool (!(aR e7.value.gf 0 999))) (fun hg=>by(try rw[hg]);exact rfl)<|aq _ (pg _ _) ?_
  refine ji (c:=((!(aR e7.value.level 0 65535))||(!(aR e7.value.gf 0 999)))) (fun lH=>?_) (fun lH=>?_)
  ·exact bZ (iw (by simp) ⟨_,rfl⟩)
  refine aq _ rfl<|aq _ rfl<|dS (AV.int .i64 e7.delay) (fun hg=>rfl)<|dS (AV.bool (decide (¬(e7.delay=0)))) (fun hg=>by(try rw[hg]);exact(gC _ _ _))<|dS (AV.bool (decide (¬(e7.delay=0)))) (fun hg=>by(try rw[hg]);exact rfl)<|ZS (AV.int .i64 e7.time) (fun hg=>rfl)<|ZS (AV.bool (decide (¬(e7.time=0)))) (fun hg=>by(try rw[hg]);exact(gC _ _ _))<|dS (AV.bool ((decide (¬(e7.delay=0)))||(decide (¬(e7.time=0))))) (fun hg=>by(try rw[hg]);exact(pg _ _))<|aq _ (rN _ _) ?_
  refine ji (c:=((!e7.yK)&&((decide (¬(e7.delay=0)))||(decide (¬(e7.time=0)))))) (fun jP=>?_) (fun jP=>?_)
  ·exact bZ (iw (by simp) ⟨_,rfl⟩)
  refine aq _ rfl<|aq _ (EY (σ:=σ) (r:=(aR e7.delay 0 36000000)) rfl)<|aq _ rfl<|eE (AV.int .i64 e7.time) (fun hg=>rfl)<|eE (AV.bool ((aR e7.time 0 36000000))) (fun hg=>by(try rw[hg]);exact(quiet_of (EY (σ:=σ) (r:=(aR e7.time 0 36000000)) rfl)))<|eE (AV.bool (!((aR e7.time 0 36000000)))) (fun hg=>by(try rw[hg]);exact rfl)<|aq _ (pg _ _) ?_
  refine ji (c:=((!((aR e7.delay 0 36000000)))||(!((aR e7.time 0 36000000))))) (fun iY=>?_) (fun iY=>?_)
  ·exact bZ (iw (by simp) ⟨_,rfl⟩)
  refine aq _ rfl<|dS (sl 8 fH a0) (fun hg=>rfl)<|dS (AV.int .i64 (i8:Int)) (fun hg=>rfl)<|dS (AV.int .i64 (IntKind.i64.wrap ((i8:Int) -1))) (fun hg=>by(try rw[hg]);exact rfl) ?_
  refine yC (ω:=fF) (fun bJ=>(AV.rp (fH bJ))) (fun hg bJ aa6=>by(try rw[hg]);exact BX aa6) (fun bJ aa6=>?_)
  refine dS (AV.rp (fH bJ)) (fun hg=>by(try rw[hg]);exact rfl)<|dS (AV.agg (aO bJ.key)) (fun hg=>by(try rw[hg]);exact rfl)<|dS (AV.agg (aO e7.key)) (fun hg=>rfl) ?_
  refine yC (ω:=Int) (fun dF=>(AV.int .i64 dF)) (fun hg dF Iy=>by(try rw[hg]);exact(quiet_of (adS Iy))) (fun dF Iy=>?_)
  refine dS (AV.bool (decide (0≤dF))) (fun hg=>by(try rw[hg]);exact rfl)<|aq _ (rN _ _) ?_
  refine ji (c:=((decide (0<(i8:Int)))&&(decide (0≤dF)))) (fun eo=>?_) (fun eo=>?_)
  ·exact bZ (iw (by simp) ⟨_,rfl⟩)
  refine aq _ (gd nY Ar) ?_
  exact bZ (qy ⟨rfl,rfl⟩)
 ·intro hl s1 v w3 hI
  obtain⟨rfl,rfl⟩:=hI
  refine aq _ (jD _)<|qB ?_
  exact bZ ⟨by simp,⟨_,_,rfl⟩⟩
 ·intro hl b2 q hq
  obtain⟨u2,u7,rfl⟩:=hq
  refine jW rfl ?_
  exact eD _ (bC _ _) ⟨rfl,rfl⟩
 ·intro hl b2 q hq
  obtain⟨u7,rfl⟩:=hq
  refine vg rfl<|jW rfl ?_
  exact eD _ (bC _ _) ⟨rfl,rfl⟩
noncomputable def Fa (a0:(List bg)):Option Int:=
 if 300<(a0.length:Int)then
  some 2
 else
 kW a0 (fun(i8:Nat) e7 (s1:Int)=>(show Option (Lr Int Int Int)from
   if(!(aR e7.number 1 9999999))=true then
    some (.ret 1)
   else
   (if decide (0<(i8:Int))=true then uH a0 (IntKind.i64.wrap ((i8:Int) -1))else some default).bind fun x9=>
   if((decide (0<(i8:Int)))&&(decide (e7.number≤x9.number)))=true then
    some (.ret 7)
   else
   (if decide (¬(e7.title=(⟨#[]⟩:ByteArray)))=true then tq (jc e7.title) (HT e7.title)else some default).bind fun jm=>
   if((decide (¬(e7.title=(⟨#[]⟩:ByteArray))))&&(!jm))=true then
    some (.ret 3)
   else
   if(((((!((aR e7.delay 0 36000000)))||(!((aR e7.up 0 36000000))))||(!((aR e7.down 0 36000000))))||(!((aR e7.other 0 36000000))))||(!(aR e7.follow (-1) 36000000)))=true then
    some (.ret 1)
   else
   if ¬((oR e7.fu)=0)then
    some (.ret (oR e7.fu))
   else
   if 2000<(e7.dw.length:Int)then
    some (.ret 2)
   else
   (EP e7.dw).bind fun dF=>
   if ¬(dF=0)then
    some (.ret dF)
   else
   some (.go (IntKind.i64.wrap (s1+(e7.dw.length:Int)))))) (fun s1=>some s1) 0 (fun b2=>
  some (if(decide (10000<b2))=true then 2 else 0)) (fun b2=>
  some b2)
theorem VV {a0:(List bg)} {σ:Heap} {r:Int} (h:Fa a0=some r):Hh [(sl 11 aZ a0)] σ=some ((AV.int .i64 r),σ):=by
 refine yp (f:=PB) (y0:=(sl 11 aZ a0)) (enc:=fun r:Int=>(AV.int .i64 r)) (T:=Fa a0) (iV (tY (fun _=>rfl) _) rfl) rfl ?_ r h
 unfold PB Fa
 refine aq _ (fE _ _ _)<|aq _ rfl ?_
 refine kY (p:=300<(a0.length:Int)) (fun gM=>?_) (fun gM=>?_)
 ·exact eD _ (bC _ _) ⟨rfl,rfl⟩
 refine aq _ (fE _ _ _) ?_
 refine qx (B:=Int) (R:=Int) (fun(i8:Nat) (s1:Int) v w3=>v=[ah,(AV.int .i64 s1),(AV.int .i64 (i8:Int))]∧σ=w3) (fun(b2:Int) (q:LS)=>∃u2 xV,q=((AX.exit 0),([u2,(AV.int .i64 b2),xV]:List AV),σ)) (fun(b2:Int) (q:LS)=>∃u3 xV,q=(AX.ret,([(AV.int .i64 b2),u3,xV]:List AV),σ)) ?_ ?_ ⟨rfl,rfl⟩ ?_ ?_
 ·intro Ar i8 e7 s1 v w3 nY hI
  obtain⟨rfl,rfl⟩:=hI
  refine aq _ (jF nY)<|qC<|aq _ (iO nY)<|aq _ rfl<|aq _ rfl<|aq _ (HH _ _ rfl)<|aq _ rfl<|aq _ (jT e7.number 1 9999999 σ)<|aq _ rfl ?_
  refine ji (c:=(!(aR e7.number 1 9999999))) (fun iZ=>?_) (fun iZ=>?_)
  ·exact bZ (iw (by simp) ⟨_,_,rfl⟩)
  refine aq _ rfl<|dS (AV.int .i64 e7.number) (fun hg=>rfl)<|dS (sl 11 aZ a0) (fun hg=>rfl)<|dS (AV.int .i64 (i8:Int)) (fun hg=>rfl)<|dS (AV.int .i64 (IntKind.i64.wrap ((i8:Int) -1))) (fun hg=>by(try rw[hg]);exact rfl) ?_
  refine yC (ω:=bg) (fun x9=>(AV.rp (aZ x9))) (fun hg x9 Jl=>by(try rw[hg]);exact BX Jl) (fun x9 Jl=>?_)
  refine dS (AV.rp (aZ x9)) (fun hg=>by(try rw[hg]);exact rfl)<|dS (AV.int .i64 x9.number) (fun hg=>by(try rw[hg]);exact rfl)<|dS (AV.bool (decide (e7.number≤x9.number))) (fun hg=>by(try rw[hg]);exact rfl)<|aq _ (rN _ _) ?_
  refine ji (c:=((decide (0<(i8:Int)))&&(decide (e7.number≤x9.number)))) (fun mF=>?_) (fun mF=>?_)
  ·exact bZ (iw (by simp) ⟨_,_,rfl⟩)
  refine aq _ rfl<|aq _ (RJ _ _)<|dS (AV.str e7.title) (fun hg=>rfl) ?_
  refine yC (ω:=Bool) (fun jm=>(AV.bool jm)) (fun hg jm aaZ=>by(try rw[hg]);exact(quiet_of ((wC (e:=fun r:Bool=>((AV.bool r),σ)) (fun hs=>Xp e7.title hs σ)) aaZ))) (fun jm aaZ=>?_)
  refine dS (AV.bool (!jm)) (fun hg=>by(try rw[hg]);exact rfl)<|aq _ (rN _ _) ?_
  refine ji (c:=((decide (¬(e7.title=(⟨#[]⟩:ByteArray))))&&(!jm))) (fun mE=>?_) (fun mE=>?_)
  ·exact bZ (iw (by simp) ⟨_,_,rfl⟩)
  refine aq _ rfl<|aq _ (EY (σ:=σ) (r:=(aR e7.delay 0 36000000)) rfl)<|aq _ rfl<|eE (AV.int .i64 e7.up) (fun hg=>rfl)<|eE (AV.bool ((aR e7.up 0 36000000))) (fun hg=>by(try rw[hg]);exact(quiet_of (EY (σ:=σ) (r:=(aR e7.up 0 36000000)) rfl)))<|eE (AV.bool (!((aR e7.up 0 36000000)))) (fun hg=>by(try rw[hg]);exact rfl)<|aq _ (pg _ _)<|eE (AV.int .i64 e7.down) (fun hg=>rfl)<|eE (AV.bool ((aR e7.down 0 36000000))) (fun hg=>by(try rw[hg]);exact(quiet_of (EY (σ:=σ) (r:=(aR e7.down 0 36000000)) rfl)))<|eE (AV.bool (!((aR e7.down 0 36000000)))) (fun hg=>by(try rw[hg]);exact rfl)<|aq _ (pg _ _)<|eE (AV.int .i64 e7.other) (fun hg=>rfl)<|eE (AV.bool ((aR e7.other 0 36000000))) (fun hg=>by(try rw[hg]);exact(quiet_of (EY (σ:=σ) (r:=(aR e7.other 0 36000000)) rfl)))<|eE (AV.bool (!((aR e7.other 0 36000000)))) (fun hg=>by(try rw[hg]);exact rfl)<|aq _ (pg _ _)<|eE (AV.int .i64 e7.follow) (fun hg=>rfl)<|eE (AV.bool (aR e7.follow (-1) 36000000)) (fun hg=>by(try rw[hg]);exact(quiet_of (jT e7.follow (-1) 36000000 σ)))<|eE (AV.bool (!(aR e7.follow (-1) 36000000))) (fun hg=>by(try rw[hg]);exact rfl)<|aq _ (pg _ _) ?_
  refine ji (c:=(((((!((aR e7.delay 0 36000000)))||(!((aR e7.up 0 36000000))))||(!((aR e7.down 0 36000000))))||(!((aR e7.other 0 36000000))))||(!(aR e7.follow (-1) 36000000)))) (fun lH=>?_) (fun lH=>?_)
  ·exact bZ (iw (by simp) ⟨_,_,rfl⟩)
  refine aq _ rfl<|aq _ (UY e7.fu σ)<|aq _ (gC _ _ _) ?_
  refine kY (p:=¬((oR e7.fu)=0)) (fun jP=>?_) (fun jP=>?_)
  ·exact bZ (iw (by simp) ⟨_,_,rfl⟩)
  refine aq (sl 8 fH e7.dw) rfl<|aq _ (fE _ _ _)<|aq _ rfl ?_
  refine kY (p:=2000<(e7.dw.length:Int)) (fun iY=>?_) (fun iY=>?_)
  ·exact bZ (iw (by simp) ⟨_,_,rfl⟩)
  refine aq (sl 8 fH e7.dw) rfl ?_
  refine kZ (fun dF:Int=>((AV.int .i64 dF),σ)) (fun dF Iy=>ac1 Iy) (fun dF Iy=>?_)
  refine aq _ (gC _ _ _) ?_
  refine kY (p:=¬(dF=0)) (fun eo=>?_) (fun eo=>?_)
  ·exact bZ (iw (by simp) ⟨_,_,rfl⟩)
  refine aq (sl 8 fH e7.dw) rfl<|aq _ (fE _ _ _)<|aq _ rfl<|aq _ (gd nY Ar) ?_
  exact bZ (qy ⟨rfl,rfl⟩)
 ·intro hl s1 v w3 hI
  obtain⟨rfl,rfl⟩:=hI
  refine aq _ (jD _)<|qB ?_
  exact bZ ⟨by simp,⟨_,_,rfl⟩⟩
 ·intro hl b2 q hq
  obtain⟨u2,xV,rfl⟩:=hq
  refine jW rfl<|aq _ rfl<|aq _ (uS (decide (10000<b2)) 2 σ) ?_
  exact eD _ (bC _ _) ⟨rfl,rfl⟩
 ·intro hl b2 q hq
  obtain⟨u3,xV,rfl⟩:=hq
  refine vg rfl<|jW rfl ?_
  exact eD _ (bC _ _) ⟨rfl,rfl⟩
noncomputable def E6 (a0:gp):Option (List (aB×Bool)):=
 (tq (BZ a0) (((if j0 a0=0 then mY a0 else[]:List aB),j0 a0))).bind fun r1=>
 kW r1.1 (fun(uE:Nat) kF (s4:(List (aB×Bool)))=>(show Option (Lr (List (aB×Bool)) (List (aB×Bool)) Unit)from
   some (.go (dD kF true s4)))) (fun s4=>some s4) ([]:List (aB×Bool)) (fun b5=>
  some b5) (fun b5=>
  none)
theorem aeV {a0:gp} {σ:Heap} {r:(List (aB×Bool))} (h:E6 a0=some r):O2 [(AV.agg (jM a0))] σ=some ((uw (fun x=>(AV.agg (aO x))) (fun x=>(AV.bool x)) r),σ):=by
 refine yp (f:=Pb) (y0:=(AV.agg (jM a0))) (enc:=fun r:(List (aB×Bool))=>(uw (fun x=>(AV.agg (aO x))) (fun x=>(AV.bool x)) r)) (T:=E6 a0) rfl rfl ?_ r h
 unfold Pb E6
 refine aq _ rfl<|aq _ rfl ?_
 refine kZ (fun r1:((List aB)×Int)=>((AV.aH [(sl 2 aO r1.1),(AV.int .i64 r1.2)]),σ)) (fun r1 kQ=>(wC (e:=fun r:((List aB)×Int)=>((AV.aH [(sl 2 aO r.1),(AV.int .i64 r.2)]),σ)) (fun hs=>Qt a0 hs σ)) kQ) (fun r1 kQ=>?_)
 refine aq (sl 2 aO r1.1) rfl<|aq _ rfl ?_
 have hp2:Hp σ σ []:=Q4 σ
 have hp3:Hp σ (σ++[aJ.map []]) [((AV.om σ.length),(Ct.m (List.map (fun p=>((fun x=>(AV.agg (aO x))) p.1,(fun x=>(AV.bool x)) p.2)) ([]:List (aB×Bool)))))]:=Rp hp2
 refine aq _ (fE _ _ _) ?_
 refine qx (B:=(List (aB×Bool))) (R:=Unit) (fun(uE:Nat) (s4:(List (aB×Bool))) v w6=>v=[(AV.int .i64 (uE:Int))]∧Hp σ w6 [((AV.om σ.length),(Ct.m (List.map (fun p=>((fun x=>(AV.agg (aO x))) p.1,(fun x=>(AV.bool x)) p.2)) s4)))]) (fun(b5:(List (aB×Bool))) (q:LS)=>∃u16 w7,q=((AX.exit 0),([u16]:List AV),w7)∧Hp σ w7 [((AV.om σ.length),(Ct.m (List.map (fun p=>((fun x=>(AV.agg (aO x))) p.1,(fun x=>(AV.bool x)) p.2)) b5)))]) (fun(b5:Unit) (q:LS)=>False) ?_ ?_ ⟨rfl,hp3⟩ ?_ ?_
 ·intro Rn uE kF s4 v w6 DK hI
  obtain⟨rfl,vJ⟩:=hI
  refine aq _ (jF DK)<|qC<|aq _ (iO DK)<|aq _ rfl<|aq _ rfl<|aq _ (HI _ _ rfl)<|aq _ rfl ?_
  obtain⟨w12,e14,aaX⟩:=QG (ek:=(.s [0,2])) (eK:=(fun x=>(AV.agg (aO x)))) (eV:=(fun x=>(AV.bool x))) vJ 0 rfl qt kF true rfl
  change Hp σ w12 [((AV.om σ.length),(Ct.m (List.map (fun p=>((fun x=>(AV.agg (aO x))) p.1,(fun x=>(AV.bool x)) p.2)) (dD kF true s4))))]at aaX
  refine aq w12 e14<|aq _ (gd DK Rn) ?_
  exact bZ (qy ⟨rfl,aaX⟩)
 ·intro hl s4 v w6 hI
  obtain⟨rfl,vJ⟩:=hI
  refine aq _ (jD _)<|qB ?_
  exact bZ ⟨by simp,⟨_,_,rfl,vJ⟩⟩
 ·intro hl b5 q hq
  obtain⟨u16,w7,rfl,hp9⟩:=hq
  refine jW rfl ?_
  exact eD _ (Mn hp9 (Zw hp9 (k:=0) rfl (by intro p hp;obtain⟨x,_,rfl⟩:=List.mem_map.1 hp;exact⟨(wq (zy _)),(By _)⟩))) ⟨rfl,rfl⟩
 ·intro hl b5 q hq
  exact False.elim hq
noncomputable def EX (a0:aB) (a1:aB):Option Bool:=
 if ¬(a0.unit=a1.unit)then
  some (decide (a0.unit<a1.unit))
 else
 some (decide ((Lib.compareBytes a0.param.data.toList a1.param.data.toList)<0))
theorem adU {a0:aB} {a1:aB} {σ:Heap} {r:Bool} (h:EX a0 a1=some r):OD [(AV.agg (aO a0)),(AV.agg (aO a1))] σ=some ((AV.bool r),σ):=by
 refine uQ (f:=OH) (y0:=(AV.agg (aO a0))) (y1:=(AV.agg (aO a1))) (enc:=fun r:Bool=>(AV.bool r)) (T:=EX a0 a1) rfl rfl ?_ r h
 unfold OH EX
 refine aq _ rfl<|aq _ rfl<|aq _ rfl<|aq _ rfl<|aq _ (gC _ _ _) ?_
 refine kY (p:=¬(a0.unit=a1.unit)) (fun c1=>?_) (fun c1=>?_)
 ·refine aq _ rfl<|aq _ rfl<|aq _ rfl ?_
  exact eD _ (bC _ _) ⟨rfl,rfl⟩
 refine aq _ rfl<|aq _ rfl<|aq _ rfl<|aq _ rfl ?_
 exact eD _ (bC _ _) ⟨rfl,rfl⟩
noncomputable def CL (a0:gp) (a1:(List jU)):Option Int:=
 (tq (BZ a0) (j0 a0)).bind fun r1=>
 (tq (([r1,(if(decide (200<(a1.length:Int)))=true then 2 else 0)]:(List Int)).length≤aW) ((([r1,(if(decide (200<(a1.length:Int)))=true then 2 else 0)]:(List Int)).find? fun n=>decide (¬n=0)).getD 0)).bind fun r2=>
 if ¬(r2=0)then
  some r2
 else
 (E6 a0).bind fun r3=>
 kW a1 (fun(uE:Nat) kF (s4:Unit)=>(show Option (Lr Unit Unit Int)from
   if(!(aR kF.number 1 999))=true then
    some (.ret 1)
   else
   (if decide (0<(uE:Int))=true then uH a1 (IntKind.i64.wrap ((uE:Int) -1))else some default).bind fun cO=>
   if((decide (0<(uE:Int)))&&(decide (kF.number≤cO.number)))=true then
    some (.ret 7)
   else
   (tq (jc kF.title) (Dc kF.title)).bind fun qX=>
   if(!qX)=true then
    some (.ret 3)
   else
   if 2000<(kF.jK.length:Int)then
    some (.ret 2)
   else
   kW kF.jK (fun(i21:Nat) AR (xT:Unit)=>(show Option (Lr Unit Unit Int)from
     if(!((cC AR.key r3).getD false))=true then
      some (.ret 8)
     else
     if(!(aR AR.level 0 65535))=true then
      some (.ret 1)
     else
     (if decide (0<(i21:Int))=true then uH kF.jK (IntKind.i64.wrap ((i21:Int) -1))else some default).bind fun dh=>
     (if decide (0<(i21:Int))=true then EX dh.key AR.key else some default).bind fun nC=>
     if((decide (0<(i21:Int)))&&(!nC))=true then
      some (.ret 7)
     else
     some (.go ()))) (fun xT=>some ()) () (fun D1=>
    some (.go ())) (fun D1=>
    some (.ret D1)))) (fun s4=>some ()) () (fun b5=>
  some 0) (fun b5=>
  some b5)
theorem Uq {a0:gp} {a1:(List jU)} {σ:Heap} {r:Int} (h:CL a0 a1=some r):J8 [(AV.agg (jM a0)),(sl 3 dL a1)] σ=some ((AV.int .i64 r),σ):=by
 refine uQ (f:=NW) (y0:=(AV.agg (jM a0))) (y1:=(sl 3 dL a1)) (enc:=fun r:Int=>(AV.int .i64 r)) (T:=CL a0 a1) rfl rfl ?_ r h
 unfold NW CL
 refine aq _ rfl<|aq _ rfl ?_
 refine kZ (fun r1:Int=>((AV.int .i64 r1),σ)) (fun r1 kQ=>(wC (e:=fun r:Int=>((AV.int .i64 r),σ)) (fun hs=>O0 a0 hs σ)) kQ) (fun r1 kQ=>?_)
 refine aq _ (fE _ _ _)<|aq _ rfl<|aq _ (uS (decide (200<(a1.length:Int))) 2 σ)<|aq (sl 1 rT ([r1,(if(decide (200<(a1.length:Int)))=true then 2 else 0)]:(List Int))) rfl ?_
 refine kZ (fun r2:Int=>((AV.int .i64 r2),σ)) (fun r2 tu=>(wC (e:=fun r:Int=>((AV.int .i64 r),σ)) (fun hs=>C5 ([r1,(if(decide (200<(a1.length:Int)))=true then 2 else 0)]:(List Int)) hs σ)) tu) (fun r2 tu=>?_)
 refine aq _ (gC _ _ _) ?_
 refine kY (p:=¬(r2=0)) (fun vC=>?_) (fun vC=>?_)
 ·exact eD _ (bC _ _) ⟨rfl,rfl⟩
 refine aq _ rfl ?_
 refine kZ (fun r3:(List (aB×Bool))=>((uw (fun x=>(AV.agg (aO x))) (fun x=>(AV.bool x)) r3),σ)) (fun r3 Jh=>aeV Jh) (fun r3 Jh=>?_)
 refine aq _ (fE _ _ _) ?_
 refine qx (B:=Unit) (R:=Int) (fun(uE:Nat) (s4:Unit) v w6=>∃u4,v=[u4,(AV.int .i64 (uE:Int))]∧σ=w6) (fun(b5:Unit) (q:LS)=>∃u4 JG,q=((AX.exit 0),([u4,JG]:List AV),σ)) (fun(b5:Int) (q:LS)=>∃JG,q=(AX.ret,([(AV.int .i64 b5),JG]:List AV),σ)) ?_ ?_ ⟨_,rfl,rfl⟩ ?_ ?_
 ·intro Rn uE kF s4 v w6 DK hI
  obtain⟨u4,rfl,rfl⟩:=hI
  refine aq _ (jF DK)<|qC<|aq _ (iO DK)<|aq _ rfl<|aq _ rfl<|aq _ (Wl _ _ rfl)<|aq _ rfl<|aq _ (jT kF.number 1 999 σ)<|aq _ rfl ?_
  refine ji (c:=(!(aR kF.number 1 999))) (fun su=>?_) (fun su=>?_)
  ·exact bZ (iw (by simp) ⟨_,rfl⟩)
  refine aq _ rfl<|dS (AV.int .i64 kF.number) (fun hg=>rfl)<|dS (sl 3 dL a1) (fun hg=>rfl)<|dS (AV.int .i64 (uE:Int)) (fun hg=>rfl)<|dS (AV.int .i64 (IntKind.i64.wrap ((uE:Int) -1))) (fun hg=>by(try rw[hg]);exact rfl) ?_
  refine yC (ω:=jU) (fun cO=>(AV.rp (dL cO))) (fun hg cO aa8=>by(try rw[hg]);exact BX aa8) (fun cO aa8=>?_)
  refine dS (AV.rp (dL cO)) (fun hg=>by(try rw[hg]);exact rfl)<|dS (AV.int .i64 cO.number) (fun hg=>by(try rw[hg]);exact rfl)<|dS (AV.bool (decide (kF.number≤cO.number))) (fun hg=>by(try rw[hg]);exact rfl)<|aq _ (rN _ _) ?_
  refine ji (c:=((decide (0<(uE:Int)))&&(decide (kF.number≤cO.number)))) (fun oG=>?_) (fun oG=>?_)
  ·exact bZ (iw (by simp) ⟨_,rfl⟩)
  refine aq _ rfl ?_
  refine kZ (fun qX:Bool=>((AV.bool qX),σ)) (fun qX aa1=>(wC (e:=fun r:Bool=>((AV.bool r),σ)) (fun hs=>ahU kF.title hs σ)) aa1) (fun qX aa1=>?_)
  refine aq _ rfl ?_
  refine ji (c:=(!qX)) (fun nQ=>?_) (fun nQ=>?_)
  ·exact bZ (iw (by simp) ⟨_,rfl⟩)
  refine aq (sl 3 dX kF.jK) rfl<|aq _ (fE _ _ _)<|aq _ rfl ?_
  refine kY (p:=2000<(kF.jK.length:Int)) (fun kD=>?_) (fun kD=>?_)
  ·exact bZ (iw (by simp) ⟨_,rfl⟩)
  refine aq (sl 3 dX kF.jK) rfl<|aq _ (fE _ _ _) ?_
  refine qx (B:=Unit) (R:=Int) (fun(i21:Nat) (xT:Unit) v Uc=>∃u4,v=[u4,(AV.lbx (dL kF)),(AV.int .i64 (i21:Int))]∧σ=Uc) (fun(D1:Unit) (q:LS)=>∃u4 u8 JM,q=((AX.exit 3),([u4,u8,JM]:List AV),σ)) (fun(D1:Int) (q:LS)=>∃u8 JM,q=(AX.ret,([(AV.int .i64 D1),u8,JM]:List AV),σ)) ?_ ?_ ⟨_,rfl,rfl⟩ ?_ ?_
  ·intro amf i21 AR xT v Uc Sd hI
   obtain⟨u4,rfl,rfl⟩:=hI
   refine aq _ (jF Sd)<|qC<|aq _ (iO Sd)<|aq _ rfl<|aq _ rfl<|aq _ (VH _ _ rfl)<|aq _ rfl<|aq _ (aim (ek:=(.s [0,2])) (eK:=(fun x=>(AV.agg (aO x)))) (eV:=(fun x=>(AV.bool x))) qt AR.key false rfl)<|aq _ rfl ?_
   refine ji (c:=(!((cC AR.key r3).getD false))) (fun fM=>?_) (fun fM=>?_)
   ·exact bZ (iw (by simp) ⟨_,_,rfl⟩)
   refine aq _ rfl<|aq _ (Vw AR.level σ)<|aq _ rfl ?_
   refine ji (c:=(!(aR AR.level 0 65535))) (fun gO=>?_) (fun gO=>?_)
   ·exact bZ (iw (by simp) ⟨_,_,rfl⟩)
   refine aq _ rfl<|aq _ rfl<|dS (sl 3 dX kF.jK) (fun hg=>rfl)<|dS (AV.int .i64 (i21:Int)) (fun hg=>rfl)<|dS (AV.int .i64 (IntKind.i64.wrap ((i21:Int) -1))) (fun hg=>by(try rw[hg]);exact rfl) ?_
   refine yC (ω:=lK) (fun dh=>(AV.rp (dX dh))) (fun hg dh aa9=>by(try rw[hg]);exact BX aa9) (fun dh aa9=>?_)
   refine dS (AV.rp (dX dh)) (fun hg=>by(try rw[hg]);exact rfl)<|dS (AV.agg (aO dh.key)) (fun hg=>by(try rw[hg]);exact rfl)<|dS (AV.agg (aO AR.key)) (fun hg=>rfl) ?_
   refine yC (ω:=Bool) (fun nC=>(AV.bool nC)) (fun hg nC aa2=>by(try rw[hg]);exact(quiet_of (adU aa2))) (fun nC aa2=>?_)
   refine dS (AV.bool (!nC)) (fun hg=>by(try rw[hg]);exact rfl)<|aq _ (rN _ _) ?_
   refine ji (c:=((decide (0<(i21:Int)))&&(!nC))) (fun gr=>?_) (fun gr=>?_)
   ·exact bZ (iw (by simp) ⟨_,_,rfl⟩)
   refine aq _ (gd Sd amf) ?_
   exact bZ (qy ⟨_,rfl,rfl⟩)
  ·intro hl xT v Uc hI
   obtain⟨u4,rfl,rfl⟩:=hI
   refine aq _ (jD _)<|qB ?_
   exact bZ ⟨by simp,⟨_,_,_,rfl⟩⟩
  ·intro hl D1 q hq
   obtain⟨u4,u8,JM,rfl⟩:=hq
   refine jW rfl<|aq _ (gd DK Rn) ?_
   exact bZ (qy ⟨_,rfl,rfl⟩)
  ·intro hl D1 q hq
   obtain⟨u8,JM,rfl⟩:=hq
   refine vg rfl<|jW rfl ?_
   exact bZ (iw (by simp) ⟨_,rfl⟩)
 ·intro hl s4 v w6 hI
  obtain⟨u4,rfl,rfl⟩:=hI
  refine aq _ (jD _)<|qB ?_
  exact bZ ⟨by simp,⟨_,_,rfl⟩⟩
 ·intro hl b5 q hq
  obtain⟨u4,JG,rfl⟩:=hq
  refine jW rfl ?_
  exact eD _ (bC _ _) ⟨rfl,rfl⟩
 ·intro hl b5 q hq
  obtain⟨JG,rfl⟩:=hq
  refine vg rfl<|jW rfl ?_
  exact eD _ (bC _ _) ⟨rfl,rfl⟩
noncomputable def E1 (a0:(List jU)) (a1:aB) (a2:lW):Option (Int×Int):=
 if((decide (¬(a2.level=0)))&&(decide (¬(a2.gf=0))))=true then
  some (0,3)
 else
 if(!(aR a2.level 0 65535))=true then
  some (0,1)
 else
 if a2.gf=0 then
  some (a2.level,0)
 else
 kW a0 (fun(i8:Nat) e7 (s1:Unit)=>(show Option (Lr Unit Unit Int)from
   if ¬(e7.number=a2.gf)then
    some (.go ())
   else
   kW e7.jK (fun(i16:Nat) M6 (s9:Unit)=>(show Option (Lr Unit Unit Int)from
     if M6.key=a1 then
      some (.ret M6.level)
     else
     some (.go ()))) (fun s9=>some ()) () (fun DZ=>
    some (.brk ())) (fun DZ=>
    some (.ret DZ)))) (fun s1=>some ()) () (fun b2=>
  some (0,8)) (fun b2=>
  some (b2,0))
theorem Vc {a0:(List jU)} {a1:aB} {a2:lW} {σ:Heap} {r:(Int×Int)} (h:E1 a0 a1 a2=some r):CW [(sl 3 dL a0),(AV.agg (aO a1)),(AV.agg (uV a2))] σ=some ((AV.aH [(AV.int .i64 r.1),(AV.int .i64 r.2)]),σ):=by
 refine Yb (f:=OR) (y0:=(sl 3 dL a0)) (y1:=(AV.agg (aO a1))) (y2:=(AV.agg (uV a2))) (enc:=fun r:(Int×Int)=>(AV.aH [(AV.int .i64 r.1),(AV.int .i64 r.2)])) (T:=E1 a0 a1 a2) rfl rfl ?_ r h
 unfold OR E1
 refine aq _ rfl<|aq _ rfl<|aq _ rfl<|aq _ (gC _ _ _)<|dS (AV.int .i64 a2.gf) (fun hg=>rfl)<|dS (AV.bool (decide (¬(a2.gf=0)))) (fun hg=>by(try rw[hg]);exact(gC _ _ _))<|aq _ (rN _ _) ?_
 refine ji (c:=((decide (¬(a2.level=0)))&&(decide (¬(a2.gf=0))))) (fun kC=>?_) (fun kC=>?_)
 ·exact eD _ (bC _ _) ⟨rfl,rfl⟩
 refine aq _ rfl<|aq _ (Vw a2.level σ)<|aq _ rfl ?_
 refine ji (c:=(!(aR a2.level 0 65535))) (fun iz=>?_) (fun iz=>?_)
 ·exact eD _ (bC _ _) ⟨rfl,rfl⟩
 refine aq _ rfl<|aq _ (iH _ _ _) ?_
 refine kY (p:=a2.gf=0) (fun gM=>?_) (fun gM=>?_)
 ·refine aq _ rfl ?_
  exact eD _ (bC _ _) ⟨rfl,rfl⟩
 refine aq _ (fE _ _ _) ?_
 refine qx (B:=Unit) (R:=Int) (fun(i8:Nat) (s1:Unit) v w3=>v=[(AV.lbx (aO a1)),(AV.lbx (uV a2)),ah,ah,(AV.int .i64 (i8:Int))]∧σ=w3) (fun(b2:Unit) (q:LS)=>∃u4 u5 u6 u7 JI,q=((AX.exit 0),([u4,u5,u6,u7,JI]:List AV),σ)) (fun(b2:Int) (q:LS)=>∃u4 u5 JI,q=(AX.ret,([u4,u5,(AV.int .i64 b2),ah,JI]:List AV),σ)) ?_ ?_ ⟨rfl,rfl⟩ ?_ ?_
 ·intro Ar i8 e7 s1 v w3 nY hI
  obtain⟨rfl,rfl⟩:=hI
  refine aq _ (jF nY)<|qC<|aq _ (iO nY)<|aq _ rfl<|aq _ rfl<|aq _ (Wl _ _ rfl)<|aq _ rfl<|aq _ rfl<|aq _ rfl<|aq _ (gC _ _ _) ?_
  refine kY (p:=¬(e7.number=a2.gf)) (fun iZ=>?_) (fun iZ=>?_)
  ·refine aq _ (gd nY Ar) ?_
   exact bZ (qy ⟨rfl,rfl⟩)
  refine aq (sl 3 dX e7.jK) rfl<|aq _ (fE _ _ _) ?_
  refine qx (B:=Unit) (R:=Int) (fun(i16:Nat) (s9:Unit) v T9=>v=[(AV.lbx (aO a1)),ah,ah,(AV.int .i64 (i16:Int))]∧σ=T9) (fun(DZ:Unit) (q:LS)=>∃u4 u6 u7 JJ,q=((AX.exit 2),([u4,u6,u7,JJ]:List AV),σ)) (fun(DZ:Int) (q:LS)=>∃u4 JJ,q=(AX.ret,([u4,(AV.int .i64 DZ),ah,JJ]:List AV),σ)) ?_ ?_ ⟨rfl,rfl⟩ ?_ ?_
  ·intro amd i16 M6 s9 v T9 Sb hI
   obtain⟨rfl,rfl⟩:=hI
   refine aq _ (jF Sb)<|qC<|aq _ (iO Sb)<|aq _ rfl<|aq _ rfl<|aq _ (VH _ _ rfl)<|aq _ rfl<|aq _ rfl<|aq _ (Zq _ _) ?_
   refine kY (p:=M6.key=a1) (fun mF=>?_) (fun mF=>?_)
   ·refine aq _ rfl ?_
    exact bZ (iw (by simp) ⟨_,_,rfl⟩)
   refine aq _ (gd Sb amd) ?_
   exact bZ (qy ⟨rfl,rfl⟩)
  ·intro hl s9 v T9 hI
   obtain⟨rfl,rfl⟩:=hI
   refine aq _ (jD _)<|qB ?_
   exact bZ ⟨by simp,⟨_,_,_,_,rfl⟩⟩
  ·intro hl DZ q hq
   obtain⟨u4,u6,u7,JJ,rfl⟩:=hq
   refine jW rfl ?_
   exact bZ (akw (by simp) ⟨_,_,_,_,_,rfl⟩)
  ·intro hl DZ q hq
   obtain⟨u4,JJ,rfl⟩:=hq
   refine vg rfl<|jW rfl ?_
   exact bZ (iw (by simp) ⟨_,_,_,rfl⟩)
 ·intro hl s1 v w3 hI
  obtain⟨rfl,rfl⟩:=hI
  refine aq _ (jD _)<|qB ?_
  exact bZ ⟨by simp,⟨_,_,_,_,_,rfl⟩⟩
 ·intro hl b2 q hq
  obtain⟨u4,u5,u6,u7,JI,rfl⟩:=hq
  refine jW rfl ?_
  exact eD _ (bC _ _) ⟨rfl,rfl⟩
 ·intro hl b2 q hq
  obtain⟨u4,u5,JI,rfl⟩:=hq
  refine vg rfl<|jW rfl ?_
  exact eD _ (bC _ _) ⟨rfl,rfl⟩
noncomputable def ES (a0:gp) (a1:(List jU)) (a2:(List bg)):Option Int:=
 (CL a0 a1).bind fun r1=>
 (Fa a2).bind fun r2=>
 (tq (([r1,r2]:(List Int)).length≤aW) ((([r1,r2]:(List Int)).find? fun n=>decide (¬n=0)).getD 0)).bind fun r3=>
 if ¬(r3=0)then
  some r3
 else
 (tq (BZ a0) (((if j0 a0=0 then mY a0 else[]:List aB),j0 a0))).bind fun r4=>
 kW r4.1 (fun(TN:Nat) M5 (s7:(List (aB×Bool)))=>(show Option (Lr (List (aB×Bool)) (List (aB×Bool)) Unit)from
   some (.go (dD M5 true s7)))) (fun s7=>some s7) ([]:List (aB×Bool)) (fun b8=>
  kW a2 (fun(TP:Nat) IU (vO:Unit)=>(show Option (Lr Unit Unit Int)from
    kW IU.dw (fun(i33:Nat) Gl (Nu:Unit)=>(show Option (Lr Unit Unit Int)from
      if(!((cC Gl.key b8).getD false))=true then
       some (.ret 8)
      else
      (E1 a1 Gl.key Gl.value).bind fun lB=>
      if ¬(lB.2=0)then
       some (.ret lB.2)
      else
      some (.go ()))) (fun Nu=>some ()) () (fun D4=>
     some (.go ())) (fun D4=>
     some (.ret D4)))) (fun vO=>some ()) () (fun D3=>
   some 0) (fun D3=>
   some D3)) (fun b8=>
  none)
theorem ade {a0:gp} {a1:(List jU)} {a2:(List bg)} {σ:Heap} {r:Int} (h:ES a0 a1 a2=some r):Oi [(AV.agg (jM a0)),(sl 3 dL a1),(sl 11 aZ a2)] σ=some ((AV.int .i64 r),σ):=by
 refine Yb (f:=Ol) (y0:=(AV.agg (jM a0))) (y1:=(sl 3 dL a1)) (y2:=(sl 11 aZ a2)) (enc:=fun r:Int=>(AV.int .i64 r)) (T:=ES a0 a1 a2) (iV (qJ (iV (tY (fun _=>(iV rfl (iV rfl (iV (tY (fun _=>rfl) _) FV)))) _) (iV rfl FV))) (iV (tY (fun _=>rfl) _) (iV (tY (fun _=>rfl) _) rfl))) rfl ?_ r h
 unfold Ol ES
 refine aq _ rfl<|aq _ rfl ?_
 refine kZ (fun r1:Int=>((AV.int .i64 r1),σ)) (fun r1 kQ=>Uq kQ) (fun r1 kQ=>?_)
 refine kZ (fun r2:Int=>((AV.int .i64 r2),σ)) (fun r2 tu=>VV tu) (fun r2 tu=>?_)
 refine aq (sl 1 rT ([r1,r2]:(List Int))) rfl ?_
 refine kZ (fun r3:Int=>((AV.int .i64 r3),σ)) (fun r3 Jh=>(wC (e:=fun r:Int=>((AV.int .i64 r),σ)) (fun hs=>C5 ([r1,r2]:(List Int)) hs σ)) Jh) (fun r3 Jh=>?_)
 refine aq _ (gC _ _ _) ?_
 refine kY (p:=¬(r3=0)) (fun fA=>?_) (fun fA=>?_)
 ·exact eD _ (bC _ _) ⟨rfl,rfl⟩
 refine aq _ rfl ?_
 refine kZ (fun r4:((List aB)×Int)=>((AV.aH [(sl 2 aO r4.1),(AV.int .i64 r4.2)]),σ)) (fun r4 hr4=>(wC (e:=fun r:((List aB)×Int)=>((AV.aH [(sl 2 aO r.1),(AV.int .i64 r.2)]),σ)) (fun hs=>Qt a0 hs σ)) hr4) (fun r4 hr4=>?_)
 refine aq (sl 2 aO r4.1) rfl<|aq _ rfl ?_
 have hp5:Hp σ σ []:=Q4 σ
 have hp6:Hp σ (σ++[aJ.map []]) [((AV.om σ.length),(Ct.m (List.map (fun p=>((fun x=>(AV.agg (aO x))) p.1,(fun x=>(AV.bool x)) p.2)) ([]:List (aB×Bool)))))]:=Rp hp5
 refine aq _ (fE _ _ _) ?_
 refine qx (B:=(List (aB×Bool))) (R:=Unit) (fun(TN:Nat) (s7:(List (aB×Bool))) v w9=>v=[(AV.int .i64 (TN:Int))]∧Hp σ w9 [((AV.om σ.length),(Ct.m (List.map (fun p=>((fun x=>(AV.agg (aO x))) p.1,(fun x=>(AV.bool x)) p.2)) s7)))]) (fun(b8:(List (aB×Bool))) (q:LS)=>∃u37 T8,q=((AX.exit 0),([u37]:List AV),T8)∧Hp σ T8 [((AV.om σ.length),(Ct.m (List.map (fun p=>((fun x=>(AV.agg (aO x))) p.1,(fun x=>(AV.bool x)) p.2)) b8)))]) (fun(b8:Unit) (q:LS)=>False) ?_ ?_ ⟨rfl,hp6⟩ ?_ ?_
 ·intro amc TN M5 s7 v w9 Sa hI
  obtain⟨rfl,Sq⟩:=hI
  refine aq _ (jF Sa)<|qC<|aq _ (iO Sa)<|aq _ rfl<|aq _ rfl<|aq _ (HI _ _ rfl)<|aq _ rfl ?_
  obtain⟨w15,kG,MQ⟩:=QG (ek:=(.s [0,2])) (eK:=(fun x=>(AV.agg (aO x)))) (eV:=(fun x=>(AV.bool x))) Sq 0 rfl qt M5 true rfl
  change Hp σ w15 [((AV.om σ.length),(Ct.m (List.map (fun p=>((fun x=>(AV.agg (aO x))) p.1,(fun x=>(AV.bool x)) p.2)) (dD M5 true s7))))]at MQ
  refine aq w15 kG<|aq _ (gd Sa amc) ?_
  exact bZ (qy ⟨rfl,MQ⟩)
 ·intro hl s7 v w9 hI
  obtain⟨rfl,Sq⟩:=hI
  refine aq _ (jD _)<|qB ?_
  exact bZ ⟨by simp,⟨_,_,rfl,Sq⟩⟩
 ·intro hl b8 q hq
  obtain⟨u37,T8,rfl,an0⟩:=hq
  refine jW rfl<|aq _ (fE _ _ _) ?_
  refine qx (B:=Unit) (R:=Int) (fun(TP:Nat) (vO:Unit) v Ue=>∃u6,v=[u6,(AV.int .i64 (TP:Int))]∧Hp σ Ue [((AV.om σ.length),(Ct.m (List.map (fun p=>((fun x=>(AV.agg (aO x))) p.1,(fun x=>(AV.bool x)) p.2)) b8)))]) (fun(D3:Unit) (q:LS)=>∃u6 JK EB,q=((AX.exit 2),([u6,JK]:List AV),EB)∧Hp σ EB [((AV.om σ.length),(Ct.m (List.map (fun p=>((fun x=>(AV.agg (aO x))) p.1,(fun x=>(AV.bool x)) p.2)) b8)))]) (fun(D3:Int) (q:LS)=>∃JK EB,q=(AX.ret,([(AV.int .i64 D3),JK]:List AV),EB)∧Hp σ EB []) ?_ ?_ ⟨_,rfl,an0⟩ ?_ ?_
  ·intro amg TP IU vO v Ue Sf hI
   obtain⟨u6,rfl,Sr⟩:=hI
   refine aq _ (jF Sf)<|qC<|aq _ (iO Sf)<|aq _ rfl<|aq _ rfl<|aq _ (HH _ _ rfl)<|aq (sl 8 fH IU.dw) rfl<|aq _ (fE _ _ _) ?_
   refine qx (B:=Unit) (R:=Int) (fun(i33:Nat) (Nu:Unit) v Ny=>∃u6,v=[u6,(AV.int .i64 (i33:Int))]∧Hp σ Ny [((AV.om σ.length),(Ct.m (List.map (fun p=>((fun x=>(AV.agg (aO x))) p.1,(fun x=>(AV.bool x)) p.2)) b8)))]) (fun(D4:Unit) (q:LS)=>∃u6 JL EC,q=((AX.exit 4),([u6,JL]:List AV),EC)∧Hp σ EC [((AV.om σ.length),(Ct.m (List.map (fun p=>((fun x=>(AV.agg (aO x))) p.1,(fun x=>(AV.bool x)) p.2)) b8)))]) (fun(D4:Int) (q:LS)=>∃JL EC,q=(AX.ret,([(AV.int .i64 D4),JL]:List AV),EC)∧Hp σ EC []) ?_ ?_ ⟨_,rfl,Sr⟩ ?_ ?_
   ·intro amh i33 Gl Nu v Ny Sg hI
    obtain⟨u6,rfl,F6⟩:=hI
    refine aq _ (jF Sg)<|qC<|aq _ (iO Sg)<|aq _ rfl<|aq _ rfl<|aq _ (LP _ _ rfl)<|aq _ rfl<|aq _ (ait (ek:=(.s [0,2])) (eK:=(fun x=>(AV.agg (aO x)))) (eV:=(fun x=>(AV.bool x))) F6 0 rfl qt Gl.key false rfl)<|aq _ rfl ?_
    refine ji (c:=(!((cC Gl.key b8).getD false))) (fun gY=>?_) (fun gY=>?_)
    ·exact bZ (iw (by simp) ⟨_,_,rfl,(QH F6)⟩)
    refine aq _ rfl<|aq _ rfl ?_
    refine kZ (fun lB:(Int×Int)=>((AV.aH [(AV.int .i64 lB.1),(AV.int .i64 lB.2)]),Ny)) (fun lB aa4=>Vc aa4) (fun lB aa4=>?_)
    refine aq _ rfl<|aq _ rfl<|aq _ (gC _ _ _) ?_
    refine kY (p:=¬(lB.2=0)) (fun gX=>?_) (fun gX=>?_)
    ·exact bZ (iw (by simp) ⟨_,_,rfl,(QH F6)⟩)
    refine aq _ (gd Sg amh) ?_
    exact bZ (qy ⟨_,rfl,F6⟩)
   ·intro hl Nu v Ny hI
    obtain⟨u6,rfl,F6⟩:=hI
    refine aq _ (jD _)<|qB ?_
    exact bZ ⟨by simp,⟨_,_,_,rfl,F6⟩⟩
   ·intro hl D4 q hq
    obtain⟨u6,JL,EC,rfl,Ss⟩:=hq
    refine jW rfl<|aq _ (gd Sf amg) ?_
    exact bZ (qy ⟨_,rfl,Ss⟩)
   ·intro hl D4 q hq
    obtain⟨JL,EC,rfl,Ss⟩:=hq
    refine vg rfl<|jW rfl ?_
    exact bZ (iw (by simp) ⟨_,_,rfl,(QH Ss)⟩)
  ·intro hl vO v Ue hI
   obtain⟨u6,rfl,Sr⟩:=hI
   refine aq _ (jD _)<|qB ?_
   exact bZ ⟨by simp,⟨_,_,_,rfl,Sr⟩⟩
  ·intro hl D3 q hq
   obtain⟨u6,JK,EB,rfl,F5⟩:=hq
   refine jW rfl ?_
   exact eD _ (Mn F5 (Zv (dM _ _))) ⟨rfl,rfl⟩
  ·intro hl D3 q hq
   obtain⟨JK,EB,rfl,F5⟩:=hq
   refine vg rfl<|jW rfl ?_
   exact eD _ (Mn F5 (Zv (dM _ _))) ⟨rfl,rfl⟩
 ·intro hl b8 q hq
  exact False.elim hq
end
section
set_option maxRecDepth 100000
noncomputable def Ot (a0:iU) (a1:Int):Option Bool:=
 some (decide (a0.number=a1))
theorem adg {a0:iU} {a1:Int} {σ:Heap} {r:Bool} (h:Ot a0 a1=some r):GS [(AV.agg (dQ a0)),(AV.rp [(AV.int .i64 a1)])] σ=some ((AV.bool r),σ):=by
 refine uQ (f:=Oo) (y0:=(AV.agg (dQ a0))) (y1:=(AV.rp [(AV.int .i64 a1)])) (enc:=fun r:Bool=>(AV.bool r)) (T:=Ot a0 a1) rfl rfl ?_ r h
 unfold Oo Ot
 refine aq _ rfl<|aq _ rfl<|aq _ rfl<|aq _ (iH _ _ _) ?_
 exact eD _ (bC _ _) ⟨rfl,rfl⟩
noncomputable def E7 (a0:fU) (a1:Int):Option (iU×Bool):=
 (tq (a0.lists.length≤aW) (jZ (fun x=>(decide (x.number=a1))) a0.lists)).bind fun r1=>
 if r1<0 then
  some ((⟨0,[]⟩:iU),false)
 else
 (uH a0.lists r1).bind fun x2=>
 some (x2,true)
theorem Vv {a0:fU} {a1:Int} {σ:Heap} {r:(iU×Bool)} (h:E7 a0 a1=some r):Bp [(AV.agg (bB a0)),(AV.int .i64 a1)] σ=some ((AV.aH [(AV.agg (dQ r.1)),(AV.bool r.2)]),σ):=by
 refine uQ (f:=KN) (y0:=(AV.agg (bB a0))) (y1:=(AV.int .i64 a1)) (enc:=fun r:(iU×Bool)=>(AV.aH [(AV.agg (dQ r.1)),(AV.bool r.2)])) (T:=E7 a0 a1) rfl rfl ?_ r h
 unfold KN E7
 refine aq _ rfl<|aq _ rfl<|aq (sl 2 dQ a0.lists) rfl ?_
 refine kZ (fun r1:Int=>((AV.int .i64 r1),σ)) (fun r1 kQ=>(wC (e:=fun r:Int=>((AV.int .i64 r),σ)) (fun hs=>abA _ a0.lists hs _ _ (fun x=>(decide (x.number=a1))) σ (fun x hx=>adg (σ:=σ) (r:=(decide (x.number=a1))) rfl))) kQ) (fun r1 kQ=>?_)
 refine aq _ rfl ?_
 refine kY (p:=r1<0) (fun c3=>?_) (fun c3=>?_)
 ·refine aq [ah,AV.au] rfl<|aq [ah,AV.au] rfl<|aq _ rfl ?_
  exact eD _ (bC _ _) ⟨(abc (iV (qJ (iV rfl (iV (by first|rfl|exact akg _ _) FV))) (iV rfl FV))),rfl⟩
 refine aq (sl 2 dQ a0.lists) rfl ?_
 refine kZ (fun x2:iU=>(AV.rp (dQ x2))) (fun x2 hx2=>BX hx2) (fun x2 hx2=>?_)
 refine aq _ rfl<|aq _ rfl<|aq _ (LO _ _ rfl)<|aq _ rfl ?_
 exact eD _ (bC _ _) ⟨(abc (iV (qJ (iV rfl (iV (tY (fun _=>rfl) _) FV))) (iV rfl FV))),rfl⟩
noncomputable def GP (a0:fU):Option Int:=
 (CL a0.aQ a0.bH).bind fun r1=>
 (tq (([r1,(if(decide (30<(a0.lists.length:Int)))=true then 2 else 0)]:(List Int)).length≤aW) ((([r1,(if(decide (30<(a0.lists.length:Int)))=true then 2 else 0)]:(List Int)).find? fun n=>decide (¬n=0)).getD 0)).bind fun r2=>
 if ¬(r2=0)then
  some r2
 else
 kW a0.lists (fun(uD:Nat) e9 (s3:Unit)=>(show Option (Lr Unit Unit Int)from
   if(!(aR e9.number 1 999))=true then
    some (.ret 1)
   else
   (if decide (0<(uD:Int))=true then uH a0.lists (IntKind.i64.wrap ((uD:Int) -1))else some default).bind fun bT=>
   if((decide (0<(uD:Int)))&&(decide (e9.number≤bT.number)))=true then
    some (.ret 7)
   else
   (ES a0.aQ a0.bH e9.bD).bind fun gD=>
   if ¬(gD=0)then
    some (.ret gD)
   else
   some (.go ()))) (fun s3=>some ()) () (fun b4=>
  if 40<(a0.bk.length:Int)then
   some 2
  else
  kW a0.bk (fun(i23:Nat) vE (iI:Unit)=>(show Option (Lr Unit Unit Int)from
    if(!(aR vE.number 1 40))=true then
     some (.ret 1)
    else
    (if decide (0<(i23:Int))=true then uH a0.bk (IntKind.i64.wrap ((i23:Int) -1))else some default).bind fun x24=>
    if((decide (0<(i23:Int)))&&(decide (vE.number≤x24.number)))=true then
     some (.ret 7)
    else
    (E7 a0 vE.list).bind fun jQ=>
    if(!jQ.2)=true then
     some (.ret 8)
    else
    if(!(aR vE.priority 0 100))=true then
     some (.ret 1)
    else
    some (.go ()))) (fun iI=>some ()) () (fun D2=>
   some 0) (fun D2=>
   some D2)) (fun b4=>
  some b4)
theorem Uz {a0:fU} {σ:Heap} {r:Int} (h:GP a0=some r):Kj [(AV.agg (bB a0))] σ=some ((AV.int .i64 r),σ):=by
 refine yp (f:=Ob) (y0:=(AV.agg (bB a0))) (enc:=fun r:Int=>(AV.int .i64 r)) (T:=GP a0) rfl rfl ?_ r h
 unfold Ob GP
 refine aq _ rfl<|aq _ rfl<|aq (sl 3 dL a0.bH) rfl ?_
 refine kZ (fun r1:Int=>(AV.int .i64 r1)) (fun r1 kQ=>(quiet_of (Uq kQ))) (fun r1 kQ=>?_)
 refine aq (sl 2 dQ a0.lists) rfl<|aq _ (fE _ _ _)<|aq _ rfl<|aq _ (quiet_of (uS (decide (30<(a0.lists.length:Int))) 2 σ))<|aq (sl 1 rT ([r1,(if(decide (30<(a0.lists.length:Int)))=true then 2 else 0)]:(List Int))) rfl ?_
 refine kZ (fun r2:Int=>(AV.int .i64 r2)) (fun r2 tu=>(quiet_of ((wC (e:=fun r:Int=>((AV.int .i64 r),σ)) (fun hs=>C5 ([r1,(if(decide (30<(a0.lists.length:Int)))=true then 2 else 0)]:(List Int)) hs σ)) tu))) (fun r2 tu=>?_)
 refine aq _ (gC _ _ _) ?_
 refine kY (p:=¬(r2=0)) (fun vC=>?_) (fun vC=>?_)
 ·exact eD _ (bC _ _) ⟨rfl,rfl⟩
 refine aq (sl 2 dQ a0.lists) rfl<|aq _ (fE _ _ _) ?_
 refine qx (B:=Unit) (R:=Int) (fun(uD:Nat) (s3:Unit) v w5=>v=[(AV.lbx (bB a0)),ah,(AV.int .i64 (uD:Int))]∧σ=w5) (fun(b4:Unit) (q:LS)=>∃u2 JH,q=((AX.exit 0),([(AV.lbx (bB a0)),u2,JH]:List AV),σ)) (fun(b4:Int) (q:LS)=>∃u1 JH,q=(AX.ret,([u1,(AV.int .i64 b4),JH]:List AV),σ)) ?_ ?_ ⟨rfl,rfl⟩ ?_ ?_
 ·intro Sm uD e9 s3 v w5 Ef hI
  obtain⟨rfl,rfl⟩:=hI
  refine aq _ (jF Ef)<|qC<|aq _ (iO Ef)<|aq _ rfl<|aq _ rfl<|aq _ (LO _ _ rfl)<|aq _ rfl<|aq _ (jT e9.number 1 999 σ)<|aq _ rfl ?_
  refine ji (c:=(!(aR e9.number 1 999))) (fun lH=>?_) (fun lH=>?_)
  ·exact bZ (iw (by simp) ⟨_,_,rfl⟩)
  refine aq _ rfl<|dS (AV.int .i64 e9.number) (fun hg=>rfl)<|aq _ rfl<|dS (sl 2 dQ a0.lists) (fun hg=>rfl)<|dS (AV.int .i64 (uD:Int)) (fun hg=>rfl)<|dS (AV.int .i64 (IntKind.i64.wrap ((uD:Int) -1))) (fun hg=>by(try rw[hg]);exact rfl) ?_
  refine yC (ω:=iU) (fun bT=>(AV.rp (dQ bT))) (fun hg bT aa7=>by(try rw[hg]);exact BX aa7) (fun bT aa7=>?_)
  refine dS (AV.rp (dQ bT)) (fun hg=>by(try rw[hg]);exact rfl)<|dS (AV.int .i64 bT.number) (fun hg=>by(try rw[hg]);exact rfl)<|dS (AV.bool (decide (e9.number≤bT.number))) (fun hg=>by(try rw[hg]);exact rfl)<|aq _ (rN _ _) ?_
  refine ji (c:=((decide (0<(uD:Int)))&&(decide (e9.number≤bT.number)))) (fun jP=>?_) (fun jP=>?_)
  ·exact bZ (iw (by simp) ⟨_,_,rfl⟩)
  refine aq _ rfl<|aq _ rfl<|aq _ rfl<|aq (sl 3 dL a0.bH) rfl<|aq (sl 11 aZ e9.bD) rfl ?_
  refine kZ (fun gD:Int=>((AV.int .i64 gD),σ)) (fun gD aa0=>ade aa0) (fun gD aa0=>?_)
  refine aq _ (gC _ _ _) ?_
  refine kY (p:=¬(gD=0)) (fun iY=>?_) (fun iY=>?_)
  ·exact bZ (iw (by simp) ⟨_,_,rfl⟩)
  refine aq _ (gd Ef Sm) ?_
  exact bZ (qy ⟨rfl,rfl⟩)
 ·intro hl s3 v w5 hI
  obtain⟨rfl,rfl⟩:=hI
  refine aq _ (jD _)<|qB ?_
  exact bZ ⟨by simp,⟨_,_,rfl⟩⟩
 ·intro hl b4 q hq
  obtain⟨u2,JH,rfl⟩:=hq
  refine jW rfl<|aq _ rfl<|aq (sl 3 bO a0.bk) rfl<|aq _ (fE _ _ _)<|aq _ rfl ?_
  refine kY (p:=40<(a0.bk.length:Int)) (fun su=>?_) (fun su=>?_)
  ·exact eD _ (bC _ _) ⟨rfl,rfl⟩
  refine aq _ rfl<|aq (sl 3 bO a0.bk) rfl<|aq _ (fE _ _ _) ?_
  refine qx (B:=Unit) (R:=Int) (fun(i23:Nat) (iI:Unit) v Ud=>∃u2,v=[(AV.lbx (bB a0)),u2,(AV.int .i64 (i23:Int))]∧σ=Ud) (fun(D2:Unit) (q:LS)=>∃u1 u2 JN,q=((AX.exit 2),([u1,u2,JN]:List AV),σ)) (fun(D2:Int) (q:LS)=>∃u1 JN,q=(AX.ret,([u1,(AV.int .i64 D2),JN]:List AV),σ)) ?_ ?_ ⟨_,rfl,rfl⟩ ?_ ?_
  ·intro hle22 i23 vE iI v Ud Se hI
   obtain⟨u2,rfl,rfl⟩:=hI
   refine aq _ (jF Se)<|qC<|aq _ (iO Se)<|aq _ rfl<|aq _ rfl<|aq _ (Vi _ _ rfl)<|aq _ rfl<|aq _ (jT vE.number 1 40 σ)<|aq _ rfl ?_
   refine ji (c:=(!(aR vE.number 1 40))) (fun oG=>?_) (fun oG=>?_)
   ·exact bZ (iw (by simp) ⟨_,_,rfl⟩)
   refine aq _ rfl<|dS (AV.int .i64 vE.number) (fun hg=>rfl)<|aq _ rfl<|dS (sl 3 bO a0.bk) (fun hg=>rfl)<|dS (AV.int .i64 (i23:Int)) (fun hg=>rfl)<|dS (AV.int .i64 (IntKind.i64.wrap ((i23:Int) -1))) (fun hg=>by(try rw[hg]);exact rfl) ?_
   refine yC (ω:=lJ) (fun x24=>(AV.rp (bO x24))) (fun hg x24 aba=>by(try rw[hg]);exact BX aba) (fun x24 aba=>?_)
   refine dS (AV.rp (bO x24)) (fun hg=>by(try rw[hg]);exact rfl)<|dS (AV.int .i64 x24.number) (fun hg=>by(try rw[hg]);exact rfl)<|dS (AV.bool (decide (vE.number≤x24.number))) (fun hg=>by(try rw[hg]);exact rfl)<|aq _ (rN _ _) ?_
   refine ji (c:=((decide (0<(i23:Int)))&&(decide (vE.number≤x24.number)))) (fun nQ=>?_) (fun nQ=>?_)
   ·exact bZ (iw (by simp) ⟨_,_,rfl⟩)
   refine aq _ rfl<|aq _ rfl ?_
   refine kZ (fun jQ:(iU×Bool)=>((AV.aH [(AV.agg (dQ jQ.1)),(AV.bool jQ.2)]),σ)) (fun jQ aa3=>Vv aa3) (fun jQ aa3=>?_)
   refine aq _ rfl<|aq _ rfl<|aq _ rfl<|aq _ (LO _ _ rfl)<|aq _ rfl ?_
   refine ji (c:=(!jQ.2)) (fun kD=>?_) (fun kD=>?_)
   ·exact bZ (iw (by simp) ⟨_,_,rfl⟩)
   refine aq _ rfl<|aq _ (jT vE.priority 0 100 σ)<|aq _ rfl ?_
   refine ji (c:=(!(aR vE.priority 0 100))) (fun fM=>?_) (fun fM=>?_)
   ·exact bZ (iw (by simp) ⟨_,_,rfl⟩)
   refine aq _ (gd Se hle22) ?_
   exact bZ (qy ⟨_,rfl,rfl⟩)
  ·intro hl iI v Ud hI
   obtain⟨u2,rfl,rfl⟩:=hI
   refine aq _ (jD _)<|qB ?_
   exact bZ ⟨by simp,⟨_,_,_,rfl⟩⟩
  ·intro hl D2 q hq
   obtain⟨u1,u2,JN,rfl⟩:=hq
   refine jW rfl ?_
   exact eD _ (bC _ _) ⟨rfl,rfl⟩
  ·intro hl D2 q hq
   obtain⟨u1,JN,rfl⟩:=hq
   refine vg rfl<|jW rfl ?_
   exact eD _ (bC _ _) ⟨rfl,rfl⟩
 ·intro hl b4 q hq
  obtain⟨u1,JH,rfl⟩:=hq
  refine vg rfl<|jW rfl ?_
  exact eD _ (bC _ _) ⟨rfl,rfl⟩
end
section
section
variable {κ ν : Type} [DecidableEq κ]
theorem Wp (k a:κ) (v:ν):∀(l:List (κ×ν)),cC k (dD a v l)=if k=a then some v else cC k l
 |[]=>by simp [dD,cC]
 |(b,w)::l=>by
  rw[dD]
  by_cases h:a=b
  ·subst h
   rw[if_pos rfl,cC,cC]
   split<;>rfl
  ·rw[if_neg h,cC,cC,Wp k a v l]
   by_cases h2:k=b
   ·subst h2;rw[if_pos rfl,if_pos rfl,if_neg (fun e=>h e.symm)]
   ·rw[if_neg h2,if_neg h2]
theorem P9 (k:κ):∀(l:List κ) (s:List (κ×Bool)),(cC k (l.foldl (fun s x=>dD x true s) s)).getD false=(decide (k∈l)||(cC k s).getD false)
 |[],s=>by simp
 |x::l,s=>by
  rw[List.foldl_cons,P9 k l,Wp]
  by_cases h:k=x
  ·simp [h]
  ·simp [h]
end
theorem afn {l:List Int} {n:Int} (h:l.Pairwise (·<·)) (k:DM l n=false):(l++[n]).Pairwise (·<·):=by
 rw[List.pairwise_append]
 refine⟨h,by simp,fun a ha b hb=>?_⟩
 simp at hb
 subst hb
 unfold DM at k
 cases hl:l.getLast? with
 |none=>rw[List.getLast?_eq_none_iff]at hl;subst hl;simp at ha
 |some m=>
  rw[hl]at k
  simp at k
  obtain⟨ys,rfl⟩:=List.getLast?_eq_some_iff.1 hl
  rw[List.pairwise_append]at h
  rcases List.mem_append.1 ha with ha|ha
  ·have:=h.2.2 a ha m (by simp);omega
  ·simp at ha;omega
theorem Vn {gG:List cV}:∀(rest pre:List gW),F0 gG pre rest=0→(pre.map (·.number)).Pairwise (·<·)→((pre++rest).map (·.number)).Pairwise (·<·)
 |[],pre,_,h=>by simpa using h
 |u::rest,pre,hc,h=>by
  rw[F0]at hc
  split at hc
  ·cases hc
  split at hc
  ·cases hc
  rename_i ho
  split at hc
  ·cases hc
  split at hc
  ·cases hc
  split at hc
  ·cases hc
  have:=Vn rest (pre++[u]) hc (by rw[List.map_append];exact afn h (by simpa using ho))
  simpa using this
theorem aff {r:gp} (h:j0 r=0):(r.units.map (·.number)).Pairwise (·<·):=by
 unfold j0 at h
 split at h
 ·split at h
  ·cases h
  ·simpa using Vn r.units [] h (by simp)
 ·rename_i h2;exact absurd h h2
theorem agc (p:cV) (nm:ByteArray):(Ra p nm).2=true↔∃x∈p.params,x.name=nm:=by
 unfold Ra
 cases h:p.params.find? fun x=>decide (x.name=nm)with
 |none=>
  simp only[Option.elim_none,Bool.false_eq_true,false_iff]
  rintro⟨x,hx,e⟩
  have:=List.find?_eq_none.1 h x hx
  simp [e]at this
 |some x=>
  simp only[Option.elim_some,true_iff]
  exact⟨x,List.mem_of_find?_eq_some h,by simpa using List.find?_some h⟩
theorem ahQ {l:List gW} (h:(l.map (·.number)).Pairwise (·<·)) {u v:gW} (hu:u∈l) (hv:v∈l) (e:u.number=v.number):u=v:=by
 induction l with
 |nil=>simp at hu
 |cons x l ih=>
  rw[List.map_cons,List.pairwise_cons]at h
  rcases List.mem_cons.1 hu with Ji|Ji<;>rcases List.mem_cons.1 hv with Jj|Jj
  ·rw[Ji,Jj]
  ·have:=h.1 v.number (List.mem_map.2 ⟨v,Jj,rfl⟩);rw[←Ji]at this;omega
  ·have:=h.1 u.number (List.mem_map.2 ⟨u,Ji,rfl⟩);rw[←Jj]at this;omega
  ·exact ih h.2 Ji Jj
def Ck (r:gp) (k:aB):Bool:=(YY r k).2
theorem XQ {r:gp} (h:j0 r=0) (k:aB):Ck r k=decide (k∈mY r):=by
 rw[Bool.eq_iff_iff,decide_eq_true_iff]
 unfold Ck YY mY
 rw[List.mem_flatMap]
 cases hf:r.units.find? fun u=>decide (u.number=k.unit)with
 |none=>
  simp only[Option.elim_none,Bool.false_eq_true,false_iff]
  rintro⟨u,hu,hk⟩
  obtain⟨x,_,rfl⟩:=List.mem_map.1 hk
  have:=List.find?_eq_none.1 hf u hu
  simp at this
 |some u=>
  have hu:=List.mem_of_find?_eq_some hf
  have hn:u.number=k.unit:=by simpa using List.find?_some hf
  simp only[Option.elim_some,agc]
  constructor
  ·rintro⟨x,hx,e⟩
   exact⟨u,hu,List.mem_map.2 ⟨x,hx,by rw[hn,e]⟩⟩
  ·rintro⟨v,hv,hk⟩
   obtain⟨x,hx,rfl⟩:=List.mem_map.1 hk
   obtain rfl:=ahQ (aff h) hu hv hn
   exact⟨x,hx,rfl⟩
theorem Qh {r:gp} (h:j0 r=0):(mY r).length≤16000:=by
 have h1:=OZ h r.units
 have h2:=Wa h
 show(r.units.flatMap (rI r.aY)).length≤_
 omega
theorem aiv {α:Type} {p:Prop} [Decidable p] (a b:α):(if p then some a else some b)=some (if p then a else b):=by split<;>rfl
theorem PJ {α β:Type} {p:Prop} [Decidable p] (a b:α) (f:α→Option β):(if p then some a else some b).bind f=f (if p then a else b):=by split<;>rfl
theorem before_eq (a b:aB):EX a b=some (fB a b):=by
 unfold EX fB
 by_cases h:a.unit=b.unit
 ·simp [h,LQ,Qz]
 ·by_cases h2:a.unit<b.unit<;>simp [h,h2]
theorem compare_eq (a b:aB):EW a b=some (vn a b):=by
 unfold EW vn
 by_cases h:a.unit=b.unit
 ·simp [h]
 ·by_cases h2:a.unit<b.unit<;>simp [h,h2]
def MF (has:aB→Bool) (l:List lK) (i:Nat) (x:lK):Int:=
 if(!has x.key)=true then 8
 else if(!(aR x.level 0 65535))=true then 1
 else if(decide (0<(i:Int))&&!fB (pv l i).key x.key)=true then 7 else 0
def Mc (has:aB→Bool) (l:List jU) (i:Nat) (p:jU):Int:=
 if(!(aR p.number 1 999))=true then 1
 else if(decide (0<(i:Int))&&decide (p.number≤(pv l i).number))=true then 7
 else if(!(Dc p.title))=true then 3
 else if 2000<(p.jK.length:Int)then 2
 else iE (MF has p.jK) p.jK 0
def rG (r:gp) (l:List jU):Int:=
 if ¬(j0 r=0)then j0 r else if 200<(l.length:Int)then 2 else iE (Mc (Ck r) l) l 0
theorem aef (c:Bool) (a b:aB):(c&&!(if c=true then fB a b else(default:Bool)))=(c&&!fB a b):=by cases c<;>rfl
theorem ahb (c:Bool) (a b:aB):(c&&decide (0≤(if c=true then vn a b else(default:Int))))=(c&&!fB a b):=by
 cases c
 ·rfl
 ·simp only[if_true,Bool.true_and];exact aju a b
theorem aeT (s:ByteArray):(decide (¬(s=(⟨#[]⟩:ByteArray)))&&!(if decide (¬(s=(⟨#[]⟩:ByteArray)))=true then HT s else(default:Bool)))=!Dc s:=by
 unfold Dc
 by_cases h:s=⟨#[]⟩<;>simp [h]
theorem UQ (r:gp) (l:List jU) (hr:BZ r) (hl:eZ zo l):CL r l=some (rG r l):=by
 unfold CL rG
 simp only[uX hr,Option.bind_some]
 rw[uX (by show 2≤aW;unfold aW;omega)]
 simp only[Rl,Option.bind_some]
 by_cases h0:j0 r=0
 case neg=>simp [h0]
 by_cases h1:200<(l.length:Int)
 ·simp [h0,h1]
 have hk:E6 r=some ((mY r).foldl (fun s x=>dD x true s) []):=by
  unfold E6
  have:=Qh h0
  simp only[uX hr,Option.bind_some,h0,if_true]
  rw[Le (fun s x=>dD x true s) (fun _ _=>True) (by unfold aW;omega) trivial (fun _ _ _ _ _=>trivial) (fun _ _ _ _ _=>rfl)]
  rfl
 simp only[h0,h1,not_true_eq_false,if_false,decide_false,Bool.false_eq_true,hk,Option.bind_some]
 have has:∀k,(cC k ((mY r).foldl (fun s x=>dD x true s) [])).getD false=Ck r k:=by
  intro k;rw[P9,XQ h0];simp [cC]
 rw[Bu (f:=Mc (Ck r) l) hl.1 ?_]
 ·split
  ·rename_i h;rw[h]
  ·rfl
 intro i p hp
 have TE:=hl.2 p (List.mem_of_getElem? hp)
 obtain⟨_,ht,hs⟩:=TE
 simp only[FE hp hl.1,Option.bind_some,uX ht,has]
 rw[Bu (f:=MF (Ck r) p.jK) hs.1 ?_]
 ·unfold Mc
  repeat first|exact XD _|exact go_ret|refine FC (by decide) ?_
 intro j x hx
 simp only[FE hx hs.1,Option.bind_some,before_eq,PJ,aef]
 unfold MF
 repeat first|exact go_ret|refine FC (by decide) ?_
def wm (l:List jU) (k:aB) (v:lW):Int×Int:=
 if(decide (¬(v.level=0))&&decide (¬(v.gf=0)))=true then(0,3)
 else if(!(aR v.level 0 65535))=true then(0,1)
 else if v.gf=0 then(v.level,0)
 else match l.find? fun p=>decide (p.number=v.gf)with
  |none=>(0,8)
  |some p=>match p.jK.find? fun s=>decide (s.key=k)with|none=>(0,8)|some s=>(s.level,0)
theorem afK {α γ R:Type} {p:α→Bool} {l:List α} {body:Nat→α→Unit→Option (Lr Unit Unit R)} {r:α→Option R} {fin:Unit→Option Unit} {s:Unit} {K1:Unit→Option γ} {K2:R→Option γ} (hl:l.length≤aW) (hb:∀i x,l[i]? =some x→body i x ()=if p x=true then some (match r x with|some q=>.ret q|none=>.brk ())else some (.go ())) (hf:fin ()=some ():=by rfl):kW l body fin s K1 K2=match l.find? p with|some x=>(match r x with|some q=>K2 q|none=>K1 ())|none=>K1 ():=by
 rw[HB hl]
 have key:∀(rest pre:List α),l=pre++rest→mu body fin rest pre.length ()=some (match rest.find? p with|some x=>(match r x with|some q=>.inr q|none=>.inl ())|none=>.inl ()):=by
  intro rest
  induction rest with
  |nil=>intro pre _;simp [mu,hf]
  |cons x rest ih=>
   intro pre hp
   rw[mu,hb pre.length x (by rw[hp];simp),List.find?_cons]
   cases h:p x
   ·simp only[Bool.false_eq_true,if_false,Option.bind_some]
    have:=ih (pre++[x]) (by simpa using hp)
    simpa using this
   ·simp only[if_true,Option.bind_some]
    cases r x<;>rfl
 have k:=key l [] rfl
 rw[List.length_nil]at k
 rw[show s=()from rfl,k,Option.bind_some]
 cases l.find? p with
 |none=>rfl
 |some x=>
  simp only
  cases r x<;>rfl
theorem Yr (l:List jU) (hl:eZ zo l) (k:aB) (v:lW):E1 l k v=some (wm l k v):=by
 unfold E1 wm
 split
 ·rfl
 split
 ·rfl
 split
 ·rfl
 rw[afK (p:=fun p=>decide (p.number=v.gf)) (r:=fun p=>(p.jK.find? fun s=>decide (s.key=k)).map (·.level)) hl.1 ?_]
 ·cases hf:l.find? fun p=>decide (p.number=v.gf)with
  |none=>rfl
  |some p=>
   simp only
   cases p.jK.find? fun s=>decide (s.key=k)<;>rfl
 intro i p hp
 have TE:=hl.2 p (List.mem_of_getElem? hp)
 by_cases hn:p.number=v.gf
 ·simp only[hn,not_true_eq_false,if_false,decide_true,if_true]
  rw[WC (p:=fun s=>decide (s.key=k)) (r:=fun s=>s.level) TE.2.2.1 (by intro i x _;simp only[decide_eq_true_eq,aiv])]
  cases p.jK.find? fun s=>decide (s.key=k)<;>rfl
 ·simp [hn]
def HZ (l:List fF) (i:Nat) (m:fF):Int:=
 if(!(aR m.key.unit 1 9999))=true then 1
 else if(!(tO m.key.param))=true then 5
 else if((m.release&&(decide (¬(m.value=(⟨0,0⟩:lW)))))||((decide (¬(m.value.level=0)))&&(decide (¬(m.value.gf=0)))))=true then 3
 else if((!(aR m.value.level 0 65535))||(!(aR m.value.gf 0 999)))=true then 1
 else if((!m.yK)&&((decide (¬(m.delay=0)))||(decide (¬(m.time=0)))))=true then 3
 else if((!(aR m.delay 0 36000000))||(!(aR m.time 0 36000000)))=true then 1
 else if(decide (0<(i:Int))&&!fB (pv l i).key m.key)=true then 7 else 0
def Di (l:List fF):Int:=iE (HZ l) l 0
theorem aed (l:List fF) (hl:eZ Mp l):EP l=some (Di l):=by
 unfold EP Di
 rw[Bu (f:=HZ l) hl.1 ?_]
 ·split
  ·rename_i h;rw[h]
  ·rfl
 intro i m hm
 have hmm:=hl.2 m (List.mem_of_getElem? hm)
 simp only[FE hm hl.1,Option.bind_some,uX hmm.1.2,compare_eq,PJ,ahb]
 unfold HZ
 repeat first|exact go_ret|refine FC (by decide) ?_
def wQ (l:List bg) (i:Nat) (c:bg):Int:=
 if(!(aR c.number 1 9999999))=true then 1
 else if(decide (0<(i:Int))&&decide (c.number≤(pv l i).number))=true then 7
 else if(!(Dc c.title))=true then 3
 else if(((((!(aR c.delay 0 36000000))||(!(aR c.up 0 36000000)))||(!(aR c.down 0 36000000)))||(!(aR c.other 0 36000000)))||(!(aR c.follow (-1) 36000000)))=true then 1
 else if ¬(oR c.fu=0)then oR c.fu
 else if 2000<(c.dw.length:Int)then 2
 else Di c.dw
def Rv (l:List bg):Int:=l.foldl (fun s c=>IntKind.i64.wrap (s+(c.dw.length:Int))) 0
def rQ (l:List bg):Int:=
 if 300<(l.length:Int)then 2 else if ¬(iE (wQ l) l 0=0)then iE (wQ l) l 0 else if 10000<Rv l then 2 else 0
theorem ag6 {α γ S B:Type} {f:Nat→α→Int} {g:S→α→S} {l:List α} {body:Nat→α→S→Option (Lr S B Int)} {fin:S→Option B} {s:S} {K1:B→Option γ} {K2:Int→Option γ} (hl:l.length≤aW) (hb:∀i x s,l[i]? =some x→body i x s=some (if f i x=0 then .go (g s x)else .ret (f i x))):kW l body fin s K1 K2=if iE f l 0=0 then(fin (l.foldl g s)).bind K1 else K2 (iE f l 0):=by
 rw[HB hl]
 have key:∀(rest pre:List α) (s:S),l=pre++rest→mu body fin rest pre.length s=if iE f rest pre.length=0 then(fin (rest.foldl g s)).map .inl else some (.inr (iE f rest pre.length)):=by
  intro rest
  induction rest with
  |nil=>intro pre s _;simp [mu,iE]
  |cons x rest ih=>
   intro pre s hp
   rw[mu,hb pre.length x s (by rw[hp];simp),Option.bind_some,iE]
   by_cases h:f pre.length x=0
   ·simp only[h,if_true]
    have:=ih (pre++[x]) (g s x) (by simpa using hp)
    simpa using this
   ·simp only[h,if_false]
 have k:=key l [] s rfl
 rw[List.length_nil]at k
 rw[k]
 split
 ·cases fin (l.foldl g s)<;>rfl
 ·rfl
theorem aiw {S B:Type} {p:Prop} [Decidable p] {k f:Int} {t:S} {Y:Option (Lr S B Int)} (hk:k≠0) (h:Y=some (if f=0 then .go t else .ret f)):(if p then some (.ret k)else Y)=some (if(if p then k else f)=0 then .go t else .ret (if p then k else f)):=by
 by_cases hp:p
 ·simp [hp,hk]
 ·simp [hp,h]
theorem ahe {S B:Type} {k f:Int} {t:S} {Y:Option (Lr S B Int)} (h:Y=some (if f=0 then .go t else .ret f)):(if ¬(k=0)then some (.ret k)else Y)=some (if(if ¬(k=0)then k else f)=0 then .go t else .ret (if ¬(k=0)then k else f)):=by
 by_cases hp:k=0
 ·simp [hp,h]
 ·simp [hp]
theorem PW {S B:Type} {k:Int} {t:S}:(if ¬(k=0)then some (.ret k)else some (.go t):Option (Lr S B Int))=some (if k=0 then .go t else .ret k):=by
 by_cases hp:k=0<;>simp [hp]
theorem Zu (l:List bg) (hl:eZ BY l):Fa l=some (rQ l):=by
 unfold Fa rQ
 split
 ·rfl
 rw[ag6 (f:=wQ l) (g:=fun s c=>IntKind.i64.wrap (s+(c.dw.length:Int))) hl.1 ?_]
 ·show(if iE (wQ l) l 0=0 then some (if decide (10000<Rv l)=true then(2:Int)else 0)else some (iE (wQ l) l 0))=_
  by_cases h:iE (wQ l) l 0=0
  ·by_cases h2:10000<Rv l<;>simp [h,h2]
  ·simp [h]
 intro i c s hc
 obtain⟨_,ht,_,_,_,_,_,_,hm⟩:=hl.2 c (List.mem_of_getElem? hc)
 simp only[FE hc hl.1,Option.bind_some,uX ht,aed _ hm,PJ,aeT]
 unfold wQ
 repeat first|exact PW|refine aiw (by decide) ?_|refine ahe ?_
def MX (r:gp) (bH:List jU) (m:fF):Int:=
 if(!Ck r m.key)=true then 8 else(wm bH m.key m.value).2
def RD (r:gp) (bH:List jU) (l:List bg):Int:=iE (fun _ c=>iE (fun _ m=>MX r bH m) c.dw 0) l 0
def MB (r:gp) (bH:List jU) (l:List bg):Int:=
 if ¬(rG r bH=0)then rG r bH else if ¬(rQ l=0)then rQ l else RD r bH l
theorem OP {r:gp} {l:List jU} (h:rG r l=0):j0 r=0:=by
 unfold rG at h
 by_cases h0:j0 r=0
 ·exact h0
 ·rw[if_pos h0]at h;exact h
theorem VA {c:bg} (h:BY c):eZ Mp c.dw:=by
 obtain⟨_,_,_,_,_,_,_,_,hm⟩:=h;exact hm
theorem aeG (r:gp) (bH:List jU) (l:List bg) (hr:BZ r) (hp:eZ zo bH) (hl:eZ BY l):ES r bH l=some (MB r bH l):=by
 unfold ES MB
 simp only[UQ r bH hr hp,Zu l hl,Option.bind_some]
 rw[uX (by show 2≤aW;unfold aW;omega)]
 simp only[Rl,Option.bind_some]
 by_cases h0:rG r bH=0
 case neg=>simp [h0]
 by_cases h1:rQ l=0
 case neg=>simp [h0,h1]
 have Sv:=OP h0
 have AZ:=Qh Sv
 simp only[h0,h1,not_true_eq_false,if_false,uX hr,Option.bind_some,Sv,if_true]
 rw[Le (fun s x=>dD x true s) (fun _ _=>True) (by unfold aW;omega) trivial (fun _ _ _ _ _=>trivial) (fun _ _ _ _ _=>rfl)]
 simp only[Option.bind_some]
 have has:∀k,(cC k ((mY r).foldl (fun s x=>dD x true s) [])).getD false=Ck r k:=by
  intro k;rw[P9,XQ Sv];simp [cC]
 rw[Bu (f:=fun _ c=>iE (fun _ m=>MX r bH m) c.dw 0) hl.1 ?_]
 ·show(if RD r bH l=0 then some (0:Int)else some (RD r bH l))=_
  split
  ·rename_i h;rw[h]
  ·rfl
 intro i c hc
 rw[Bu (f:=fun _ m=>MX r bH m) (VA (hl.2 c (List.mem_of_getElem? hc))).1 ?_]
 ·exact XD _
 intro j m hm
 simp only[has,Yr bH hp,Option.bind_some]
 unfold MX
 repeat first|exact PW|refine FC (by decide) ?_
def sQ (l:List iU) (n:Int):iU×Bool:=match l.find? fun x=>decide (x.number=n)with|some x=>(x,true)|none=>(⟨0,[]⟩,false)
theorem ZF (s:fU) (hl:s.lists.length≤aW) (n:Int):E7 s n=some (sQ s.lists n):=by
 unfold E7 sQ
 rw[uX hl,Option.bind_some]
 rcases zk (fun x:iU=>decide (x.number=n)) s.lists with⟨h1,_,h3⟩|⟨k,x,h1,h2,h3,h4,_⟩
 ·rw[h1,h3];rfl
 ·rw[h3,h4,if_neg (by omega),QV (x:=x) (by omega) (by simpa using h1)];rfl
def Dg (s:fU) (i:Nat) (x:iU):Int:=
 if(!(aR x.number 1 999))=true then 1
 else if(decide (0<(i:Int))&&decide (x.number≤(pv s.lists i).number))=true then 7
 else MB s.aQ s.bH x.bD
def MD (s:fU) (i:Nat) (p:lJ):Int:=
 if(!(aR p.number 1 40))=true then 1
 else if(decide (0<(i:Int))&&decide (p.number≤(pv s.bk i).number))=true then 7
 else if(!(sQ s.lists p.list).2)=true then 8
 else if(!(aR p.priority 0 100))=true then 1 else 0
def BM (s:fU):Int:=
 if ¬(rG s.aQ s.bH=0)then rG s.aQ s.bH
 else if 30<(s.lists.length:Int)then 2
 else if ¬(iE (Dg s) s.lists 0=0)then iE (Dg s) s.lists 0
 else if 40<(s.bk.length:Int)then 2
 else iE (MD s) s.bk 0
theorem U6 (s:fU) (hs:uT s):GP s=some (BM s):=by
 obtain⟨hr,hp,hl,hb⟩:=hs
 unfold GP BM
 simp only[UQ _ _ hr hp,Option.bind_some]
 rw[uX (by show 2≤aW;unfold aW;omega)]
 simp only[Rl,Option.bind_some]
 by_cases h0:rG s.aQ s.bH=0
 case neg=>simp [h0]
 by_cases h1:30<(s.lists.length:Int)
 ·simp [h0,h1]
 simp only[h0,h1,not_true_eq_false,if_false,decide_false,Bool.false_eq_true]
 rw[Bu (f:=Dg s) hl.1 ?_]
 ·by_cases h2:iE (Dg s) s.lists 0=0
  case neg=>simp [h2]
  simp only[h2,if_true,not_true_eq_false,if_false]
  split
  ·rfl
  rw[Bu (f:=MD s) hb.1 ?_]
  ·split
   ·rename_i h;rw[h]
   ·rfl
  intro i p Gy
  simp only[FE Gy hb.1,Option.bind_some,ZF s hl.1]
  unfold MD
  repeat first|exact go_ret|refine FC (by decide) ?_
 intro i x hx
 simp only[FE hx hl.1,Option.bind_some,aeG _ _ _ hr hp (hl.2 x (List.mem_of_getElem? hx)).2]
 unfold Dg
 repeat first|exact PW|refine FC (by decide) ?_
end
section
set_option maxRecDepth 100000
noncomputable def Oq (a0:bg) (a1:Int):Option Int:=
 some (IntKind.i64.wrap (a0.number-a1))
theorem adf {a0:bg} {a1:Int} {σ:Heap} {r:Int} (h:Oq a0 a1=some r):CP [(AV.agg (aZ a0)),(AV.int .i64 a1)] σ=some ((AV.int .i64 r),σ):=by
 refine uQ (f:=Om) (y0:=(AV.agg (aZ a0))) (y1:=(AV.int .i64 a1)) (enc:=fun r:Int=>(AV.int .i64 r)) (T:=Oq a0 a1) (iV (qJ rfl) rfl) rfl ?_ r h
 unfold Om Oq
 refine aq _ rfl<|aq _ rfl<|aq _ rfl ?_
 exact eD _ (bC _ _) ⟨rfl,rfl⟩
noncomputable def Hf (a0:(List bg)):Option (List (aB×bh)):=
 kW a0 (fun(uD:Nat) e9 (s3:(List (aB×bh)))=>(show Option (Lr (List (aB×bh)) (List (aB×bh)) Unit)from
   kW e9.dw (fun(TO:Nat) kG (tG:(List (aB×bh)))=>(show Option (Lr (List (aB×bh)) (List (aB×bh)) Unit)from
     (show Option (List (aB×bh))from
       if kG.release=true then
        some (pN kG.key tG)
       else
       some (dD kG.key (⟨(⟨kG.key.unit,kG.key.param⟩:aB),(⟨kG.value.level,kG.value.gf⟩:lW),e9.number⟩:bh) tG)).bind fun Nl=>
     some (.go Nl))) (fun tG=>some tG) s3 (fun D0=>
    some (.go D0)) (fun D0=>
    none))) (fun s3=>some s3) ([]:List (aB×bh)) (fun b4=>
  some b4) (fun b4=>
  none)
theorem aeU {a0:(List bg)} {σ:Heap} {r:(List (aB×bh))} (h:Hf a0=some r):G7 [(sl 11 aZ a0)] σ=some ((uw (fun x=>(AV.agg (aO x))) (fun x=>(AV.agg (cI x))) r),σ):=by
 refine yp (f:=Pa) (y0:=(sl 11 aZ a0)) (enc:=fun r:(List (aB×bh))=>(uw (fun x=>(AV.agg (aO x))) (fun x=>(AV.agg (cI x))) r)) (T:=Hf a0) (iV (tY (fun _=>rfl) _) rfl) rfl ?_ r h
 unfold Pa Hf
 have hp1:Hp σ σ []:=Q4 σ
 have hp2:Hp σ (σ++[aJ.map []]) [((AV.om σ.length),(Ct.m (List.map (fun p=>((fun x=>(AV.agg (aO x))) p.1,(fun x=>(AV.agg (cI x))) p.2)) ([]:List (aB×bh)))))]:=Rp hp1
 refine aq _ (fE _ _ _) ?_
 refine qx (B:=(List (aB×bh))) (R:=Unit) (fun(uD:Nat) (s3:(List (aB×bh))) v w5=>v=[(AV.int .i64 (uD:Int))]∧Hp σ w5 [((AV.om σ.length),(Ct.m (List.map (fun p=>((fun x=>(AV.agg (aO x))) p.1,(fun x=>(AV.agg (cI x))) p.2)) s3)))]) (fun(b4:(List (aB×bh))) (q:LS)=>∃u11 w6,q=((AX.exit 0),([u11]:List AV),w6)∧Hp σ w6 [((AV.om σ.length),(Ct.m (List.map (fun p=>((fun x=>(AV.agg (aO x))) p.1,(fun x=>(AV.agg (cI x))) p.2)) b4)))]) (fun(b4:Unit) (q:LS)=>False) ?_ ?_ ⟨rfl,hp2⟩ ?_ ?_
 ·intro Sm uD e9 s3 v w5 Ef hI
  obtain⟨rfl,TC⟩:=hI
  refine aq _ (jF Ef)<|qC<|aq _ (iO Ef)<|aq _ rfl<|aq _ rfl<|aq _ (HH _ _ rfl)<|aq (sl 8 fH e9.dw) rfl<|aq _ (fE _ _ _) ?_
  refine qx (B:=(List (aB×bh))) (R:=Unit) (fun(TO:Nat) (tG:(List (aB×bh))) v Ua=>v=[(AV.lbx (aZ e9)),(AV.int .i64 (TO:Int))]∧Hp σ Ua [((AV.om σ.length),(Ct.m (List.map (fun p=>((fun x=>(AV.agg (aO x))) p.1,(fun x=>(AV.agg (cI x))) p.2)) tG)))]) (fun(D0:(List (aB×bh))) (q:LS)=>∃u5 u18 Ub,q=((AX.exit 2),([u5,u18]:List AV),Ub)∧Hp σ Ub [((AV.om σ.length),(Ct.m (List.map (fun p=>((fun x=>(AV.agg (aO x))) p.1,(fun x=>(AV.agg (cI x))) p.2)) D0)))]) (fun(D0:Unit) (q:LS)=>False) ?_ ?_ ⟨rfl,TC⟩ ?_ ?_
  ·intro ame TO kG tG v Ua Sc hI
   obtain⟨rfl,MP⟩:=hI
   refine aq _ (jF Sc)<|qC<|aq _ (iO Sc)<|aq _ rfl<|aq _ rfl<|aq _ (LP _ _ rfl)<|aq _ rfl ?_
   refine MV (ω:=(List (aB×bh))) (fun Nl a=>∃Uf,a=(([(AV.lbx (aZ e9))]:List AV),Uf)∧Hp σ Uf [((AV.om σ.length),(Ct.m (List.map (fun p=>((fun x=>(AV.agg (aO x))) p.1,(fun x=>(AV.agg (cI x))) p.2)) Nl)))]) (
     by
      refine ji (c:=kG.release) (fun gO=>?_) (fun gO=>?_)
      ·refine aq _ rfl ?_
       obtain⟨w19,e21,aaY⟩:=ajW (ek:=(.s [0,2])) (eK:=(fun x=>(AV.agg (aO x)))) (eV:=(fun x=>(AV.agg (cI x)))) MP 0 rfl qt kG.key rfl
       change Hp σ w19 [((AV.om σ.length),(Ct.m (List.map (fun p=>((fun x=>(AV.agg (aO x))) p.1,(fun x=>(AV.agg (cI x))) p.2)) (pN kG.key tG))))]at aaY
       refine aq w19 e21 ?_
       exact bZ ⟨_,rfl,aaY⟩
      refine aq _ rfl<|aq _ rfl<|aq _ rfl<|aq _ rfl<|aq _ rfl<|aq (AV.agg (cI (⟨(⟨kG.key.unit,kG.key.param⟩:aB),(⟨kG.value.level,kG.value.gf⟩:lW),e9.number⟩:bh))) rfl ?_
      obtain⟨w22,IU,F5⟩:=QG (ek:=(.s [0,2])) (eK:=(fun x=>(AV.agg (aO x)))) (eV:=(fun x=>(AV.agg (cI x)))) MP 0 rfl qt kG.key (⟨(⟨kG.key.unit,kG.key.param⟩:aB),(⟨kG.value.level,kG.value.gf⟩:lW),e9.number⟩:bh) rfl
      change Hp σ w22 [((AV.om σ.length),(Ct.m (List.map (fun p=>((fun x=>(AV.agg (aO x))) p.1,(fun x=>(AV.agg (cI x))) p.2)) (dD kG.key (⟨(⟨kG.key.unit,kG.key.param⟩:aB),(⟨kG.value.level,kG.value.gf⟩:lW),e9.number⟩:bh) tG))))]at F5
      refine aq w22 IU ?_
      exact bZ ⟨_,rfl,F5⟩
     ) (fun Nl a ha=>?_)
   obtain⟨Uf,rfl,an1⟩:=ha
   refine aq _ (gd Sc ame) ?_
   exact bZ (qy ⟨rfl,an1⟩)
  ·intro hl tG v Ua hI
   obtain⟨rfl,MP⟩:=hI
   refine aq _ (jD _)<|qB ?_
   exact bZ ⟨by simp,⟨_,_,_,rfl,MP⟩⟩
  ·intro hl D0 q hq
   obtain⟨u5,u18,Ub,rfl,MQ⟩:=hq
   refine jW rfl<|aq _ (gd Ef Sm) ?_
   exact bZ (qy ⟨rfl,MQ⟩)
  ·intro hl D0 q hq
   exact False.elim hq
 ·intro hl s3 v w5 hI
  obtain⟨rfl,TC⟩:=hI
  refine aq _ (jD _)<|qB ?_
  exact bZ ⟨by simp,⟨_,_,rfl,TC⟩⟩
 ·intro hl b4 q hq
  obtain⟨u11,w6,rfl,vJ⟩:=hq
  refine jW rfl ?_
  exact eD _ (Mn vJ (Zw vJ (k:=0) rfl (by intro p hp;obtain⟨x,_,rfl⟩:=List.mem_map.1 hp;exact⟨(wq (zy _)),(wq (WL _))⟩))) ⟨rfl,rfl⟩
 ·intro hl b4 q hq
  exact False.elim hq
end
theorem YG {i j:Nat} (h:i+j<9223372036854775808):A.shr (.int .u64 ((i+j:Nat):Int)) (.int .u64 1)=some (.int .u64 (((i+j) / 2:Nat):Int)):=by
 simp only[A.shr]
 rw[if_neg (by decide)]
 congr 2
 rw[show(2:Int) ^ (min (Int.toNat 1) IntKind.u64.bits)=2 from rfl,Int.fdiv_eq_ediv_of_nonneg _ (by decide)]
 omega
theorem Zn {n:Nat} (h:n<9223372036854775808):A.conv .u64 (.int .i64 (n:Int))=some (.int .u64 (n:Int)):=by
 simp only[A.conv]
 congr 2
 unfold IntKind.wrap
 simp [IntKind.bits,IntKind.signed]
 omega
theorem Zm {n:Nat} (h:n<9223372036854775808):A.conv .i64 (.int .u64 (n:Int))=some (.int .i64 (n:Int)):=by
 simp only[A.conv]
 rw[wrap64 (by unfold aN;omega)]
theorem SL {a b:Nat} (h:a+b<9223372036854775808):A.add (.int .i64 (a:Int)) (.int .i64 (b:Int))=some (.int .i64 ((a+b:Nat):Int)):=by
 rw[kN,wrap64 (by unfold aN;omega)];simp
theorem MI {a:Nat} (h:a+1<9223372036854775808):A.add (.int .i64 (a:Int)) (.int .i64 1)=some (.int .i64 ((a+1:Nat):Int)):=SL (b:=1) h
theorem Gi (a b:Nat):A.lss (.int .i64 (a:Int)) (.int .i64 (b:Int))=some (.bool (decide (a<b))):=by
 rw[kO]
 have:((a:Int)<(b:Int))=(a<b):=propext ⟨fun h=>by omega,fun h=>by omega⟩
 simp only[this]
theorem aaC (a:Int):A.lss (.int .i64 a) (.int .i64 0)=some (.bool (decide (a<0))):=by rw[kO]
theorem Tm {α:Type} {X Y:α}:(bif (AX.exit 0==AX.exit 0)then X else Y)=X:=rfl
theorem ajm {f:List AV→Heap→Option (AX×List AV×Heap)} {σ:Heap} (pv:Nat→Nat→List AV) {v0:List AV} {n p:Nat} (hp:p≤n) (h0:v0=pv 0 n)
  (hs:∀i j,i<j→j≤n→f (pv i j) σ=some (.normal,if(i+j) / 2<p then pv ((i+j) / 2+1) j else pv i ((i+j) / 2),σ))
  (he:∀i,i≤n→f (pv i i) σ=some (.exit 0,pv i i,σ)):A.loop f v0 σ=some (.exit 0,pv p p,σ):=by
 subst h0
 have key:∀k i j,j-i≤k→i≤p→p≤j→j≤n→∃m,A.iter f m (pv i j) σ=some (.exit 0,pv p p,σ):=by
  intro k
  induction k with
  |zero=>
   intro i j hk h1 h2 h3
   have:i=p:=by omega
   have:j=p:=by omega
   subst i;subst j
   exact uO (he p h3) (by simp)
  |succ k ih=>
   intro i j hk h1 h2 h3
   by_cases hij:i<j
   ·have hstep:=hs i j hij h3
    by_cases hh:(i+j) / 2<p
    ·rw[if_pos hh]at hstep
     exact C0 hstep (ih _ _ (by omega) (by omega) h2 h3)
    ·rw[if_neg hh]at hstep
     exact C0 hstep (ih _ _ (by omega) h1 (by omega) (by omega))
   ·have:i=p:=by omega
    have:j=p:=by omega
    subst i;subst j
    exact uO (he p h3) (by simp)
 obtain⟨m,hm⟩:=key n 0 n (by omega) (by omega) hp (Nat.le_refl _)
 exact CV hm
theorem bsC {dyn:Nat→List AV→Heap→Option (AV×Heap)} {l:List bg} {fn:Nat} {k:Int} {cv:bg→Int} {p:Nat} {σ:Heap} (hl:l.length<4611686018427387904) (hp:p≤l.length)
  (hd:∀x∈l,dyn fn [.agg (aZ x),.int .i64 k] σ=some (.int .i64 (cv x),σ)) (hc:∀h x,l[h]? =some x→(cv x<0↔h<p)):
  ED dyn [sl 11 aZ l,.int .i64 k,.fn fn []] σ=some (.aH [.int .i64 (p:Int),.bool ((l[p]?).any fun x=>decide (cv x=0))],σ):=by
 refine wrap_eq rfl ?_ rfl
 show EE dyn (sl 11 aZ l) (.int .i64 k) (.fn fn []) σ=_
 unfold EE
 rw[fE,Option.bind_some]
 rw[ajm (v0:=[.int .i64 0,.int .i64 (l.length:Int)]) (fun i j=>[.int .i64 (i:Int),.int .i64 (j:Int)]) hp rfl ?_ ?_,Option.bind_some]
 ·simp only[Tm,List.getD_cons_succ,List.getD_cons_zero]
  rw[Gi,Option.bind_some]
  by_cases hpl:p<l.length
  ·have hx:l[p]? =some l[p]:=List.getElem?_eq_getElem hpl
   have nX:=hd _ (List.mem_of_getElem? hx)
   have jH:=lM 11 aZ l hx
   have hq:=quiet_of (by show A.jE dyn (.fn fn []) [.agg (aZ l[p]),.int .i64 k] σ=_;simp only[A.jE,List.append_nil];exact nX)
   simp only[decide_eq_true hpl,A.guard,beq_self_eq_true,cond_true,Option.bind_some,List.getD_cons_succ,List.getD_cons_zero,jH,A.deref,HF,A.lb,A.aj,A.ay,A.pick,hx,Option.any_some]
   show((A.quiet (A.jE dyn (.fn fn []) [.agg (aZ l[p]),.int .i64 k] σ) σ).bind _)=_
   rw[hq,Option.bind_some,iH]
   exact bC _ _
  ·have hx:l[p]? =none:=List.getElem?_eq_none (by omega)
   simp only[decide_eq_false hpl,A.guard,Option.bind_some,A.pick,hx,Option.any_none]
   exact bC _ _
 ·intro i j hij hj
  have hlt:(i+j) / 2<l.length:=by omega
  have hx:l[(i+j) / 2]? =some l[(i+j) / 2]:=List.getElem?_eq_getElem hlt
  have nX:=hd _ (List.mem_of_getElem? hx)
  have jH:=lM 11 aZ l hx
  have hq:A.jE dyn (.fn fn []) [.agg (aZ l[(i+j) / 2]),.int .i64 k] σ=some (.int .i64 (cv l[(i+j) / 2]),σ):=by simp only[A.jE,List.append_nil];exact nX
  simp only[List.getD_cons_succ,List.getD_cons_zero]
  rw[Gi,Option.bind_some,decide_eq_true hij]
  simp only[A.cond,cond_true]
  rw[SL (by omega),Option.bind_some,Zn (by omega),Option.bind_some,YG (by omega),Option.bind_some,Zm (by omega),Option.bind_some,jH,Option.bind_some]
  simp only[A.deref,Option.bind_some,HF,A.lb]
  rw[hq,Option.bind_some,aaC,Option.bind_some]
  by_cases hh:(i+j) / 2<p
  ·have:=(hc _ _ hx).2 hh
   rw[decide_eq_true this,if_pos hh]
   simp only[cond_true,MI (show(i+j) / 2+1<9223372036854775808 by omega),Option.bind_some]
   rfl
  ·have:¬(cv l[(i+j) / 2]<0):=fun e=>hh ((hc _ _ hx).1 e)
   rw[decide_eq_false this,if_neg hh]
   rfl
 ·intro i hi
  simp only[List.getD_cons_succ,List.getD_cons_zero]
  rw[Gi,Option.bind_some,decide_eq_false (Nat.lt_irrefl i)]
  rfl
def SH (l:List fF):Prop:=l.Pairwise fun a b=>fB a.key b.key=true
structure Good (l : List bg) : Prop where
 len:l.length≤300
 num:∀c∈l,1≤c.number∧c.number≤9999999
 JE:l.Pairwise fun a b=>a.number<b.number
 mv:∀c∈l,c.dw.length≤2000∧SH c.dw
 pts:∀c∈l,c.fu.points.length≤20
theorem Pj {α:Type} [Inhabited α] {r:α→α→Prop} (tr:∀a b c,r a b→r b c→r a c):∀(l:List α),(∀i x,l[i+1]? =some x→r (l[i]?.getD default) x)→l.Pairwise r
 |[],_=>List.Pairwise.nil
 |[a],_=>by simp
 |a::b::l,h=>by
  have ih:=Pj tr (b::l) (fun i x hx=>h (i+1) x hx)
  have hab:r a b:=h 0 b rfl
  refine List.pairwise_cons.2 ⟨fun x hx=>?_,ih⟩
  rcases List.mem_cons.1 hx with rfl|hx
  ·exact hab
  ·exact tr _ _ _ hab ((List.pairwise_cons.1 ih).1 x hx)
section
theorem Y2 {α:Type} [Inhabited α] (l:List α) (i:Nat):pv l (i+1)=l[i]?.getD default:=by
 simp [pv,List.getD_eq_getElem?_getD]
theorem afN {l:List fF} (h:Di l=0):SH l:=by
 unfold Di at h
 refine Pj (r:=fun a b:fF=>fB a.key b.key=true) (fun a b c=>Fe) l fun i x hx=>?_
 have:=(zl l 0).1 h (i+1) x hx
 rw[Nat.zero_add]at this
 unfold HZ at this
 rw[←Y2]
 by_cases hq:fB (pv l (i+1)).key x.key=true
 ·exact hq
 ·exfalso
  have e:(decide (0<((i+1:Nat):Int))&&!fB (pv l (i+1)).key x.key)=true:=by
   rw[Bool.and_eq_true];exact⟨decide_eq_true (by omega),by simpa using hq⟩
  rw[e]at this
  repeat (first|(split at this;· cases this)|(simp at this;done)|(rename_i q;exact q rfl))
theorem QF {l:List bg} (h:rQ l=0):Good l:=by
 unfold rQ at h
 by_cases h1:300<(l.length:Int)
 ·simp [h1]at h
 rw[if_neg h1]at h
 by_cases h2:iE (wQ l) l 0=0
 case neg=>rw[if_pos h2]at h;exact absurd h h2
 have hc:∀i x,l[i]? =some x→(1≤x.number∧x.number≤9999999)∧(0<i→(pv l i).number<x.number)∧x.dw.length≤2000∧Di x.dw=0∧x.fu.points.length≤20:=by
  intro i x hx
  have:=(zl l 0).1 h2 i x hx
  rw[Nat.zero_add]at this
  unfold wQ at this
  split at this
  ·cases this
  rename_i a1
  split at this
  ·cases this
  rename_i a2
  split at this
  ·cases this
  split at this
  ·cases this
  split at this
  ·rename_i a5;exact absurd this a5
  rename_i a5
  split at this
  ·cases this
  rename_i a6
  have hpt:x.fu.points.length≤20:=by
   have a5:oR x.fu=0:=by simpa using a5
   unfold oR at a5
   split at a5
   ·cases a5
   split at a5
   ·split at a5
    ·cases a5
    split at a5
    ·cases a5
    omega
   ·split at a5
    ·cases a5
    omega
  refine⟨by simpa [aR]using a1,fun hi=>?_,by omega,this,hpt⟩
  have hi':decide (0<(i:Int))=true:=decide_eq_true (by omega)
  rw[hi',Bool.true_and,decide_eq_true_eq]at a2
  omega
 refine⟨by omega,fun c xF=>?_,?_,fun c xF=>?_,fun c xF=>?_⟩
 ·obtain⟨i,hi⟩:=List.mem_iff_getElem?.1 xF
  exact(hc i c hi).1
 ·refine Pj (r:=fun a b:bg=>a.number<b.number) (fun a b c=>Int.lt_trans) l fun i x hx=>?_
  rw[←Y2]
  exact(hc (i+1) x hx).2.1 (by omega)
 ·obtain⟨i,hi⟩:=List.mem_iff_getElem?.1 xF
  exact⟨(hc i c hi).2.2.1,afN (hc i c hi).2.2.2.1⟩
 ·obtain⟨i,hi⟩:=List.mem_iff_getElem?.1 xF
  exact(hc i c hi).2.2.2.2
def lF (l:List bg) (n:Int):Nat:=(l.takeWhile fun c=>decide (c.number<n)).length
def wT (l:List bg) (n:Int):Bool:=l.any fun c=>decide (c.number=n)
theorem Y0 (l:List bg) (n:Int):lF l n≤l.length:=(List.takeWhile_prefix _).length_le
theorem QO {l:List bg} {n:Int} (h:l.Pairwise fun a b=>a.number<b.number):∀{i:Nat} {x:bg},l[i]? =some x→(x.number<n↔i<lF l n):=by
 induction l with
 |nil=>intro i x hx;simp at hx
 |cons a l ih=>
  intro i x hx
  have hs:=List.pairwise_cons.1 h
  unfold lF
  rw[List.takeWhile_cons]
  by_cases ha:a.number<n
  ·rw[decide_eq_true ha]
   simp only[if_true,List.length_cons]
   cases i with
   |zero=>simp at hx;subst hx;simp [ha]
   |succ i=>
    simp only[List.getElem?_cons_succ]at hx
    rw[ih hs.2 hx]
    unfold lF
    omega
  ·rw[decide_eq_false ha]
   simp only[Bool.false_eq_true,if_false,List.length_nil,Nat.not_lt_zero,iff_false]
   cases i with
   |zero=>simp at hx;subst hx;exact ha
   |succ i=>
    simp only[List.getElem?_cons_succ]at hx
    have:=hs.1 x (List.mem_of_getElem? hx)
    omega
theorem akq {l:List bg} {n:Int} (h:l.Pairwise fun a b=>a.number<b.number) {i:Nat} {x:bg} (hx:l[i]? =some x) (hn:x.number=n):lF l n=i:=by
 have h1:¬i<lF l n:=fun q=>by have:=(QO h hx).2 q;omega
 have h2:¬lF l n<i:=fun q=>by
  have hp:lF l n<l.length:=Nat.lt_trans q (List.getElem?_eq_some_iff.1 hx).1
  have hy:l[lF l n]? =some l[lF l n]:=List.getElem?_eq_getElem hp
  have h3:¬l[lF l n].number<n:=fun q'=>Nat.lt_irrefl _ ((QO h hy).1 q')
  have h4:=List.pairwise_iff_getElem.1 h (lF l n) i hp (List.getElem?_eq_some_iff.1 hx).1 q
  rw[(List.getElem?_eq_some_iff.1 hx).2,hn]at h4
  exact h3 h4
 omega
theorem X2 {l:List bg} {n:Int} (h:l.Pairwise fun a b=>a.number<b.number):((l[lF l n]?).any fun x=>decide (x.number=n))=wT l n:=by
 rw[Bool.eq_iff_iff]
 constructor
 ·intro e
  cases hx:l[lF l n]? with
  |none=>rw[hx]at e;cases e
  |some x=>rw[hx]at e;exact List.any_eq_true.2 ⟨x,List.mem_of_getElem? hx,e⟩
 ·intro e
  obtain⟨x,hm,hk⟩:=List.any_eq_true.1 e
  have hk:=of_decide_eq_true hk
  obtain⟨i,hi⟩:=List.mem_iff_getElem?.1 hm
  rw[akq h hi hk,hi];simp [hk]
theorem ajn {f:List AV→Heap→Option (AX×List AV×Heap)} {σ:Heap} (pv:Nat→Nat→List AV) {v0:List AV} {n:Nat} (h0:v0=pv 0 n) (q:Nat→Bool)
  (hs:∀i j,i<j→j≤n→f (pv i j) σ=some (.normal,if q ((i+j) / 2)=true then pv ((i+j) / 2+1) j else pv i ((i+j) / 2),σ))
  (he:∀i,i≤n→f (pv i i) σ=some (.exit 0,pv i i,σ)):∃p,p≤n∧A.loop f v0 σ=some (.exit 0,pv p p,σ):=by
 subst h0
 have key:∀k i j,j-i≤k→i≤j→j≤n→∃p,p≤n∧∃m,A.iter f m (pv i j) σ=some (.exit 0,pv p p,σ):=by
  intro k
  induction k with
  |zero=>
   intro i j hk h1 h3
   have:i=j:=by omega
   subst i
   exact⟨j,h3,uO (he j h3) (by simp)⟩
  |succ k ih=>
   intro i j hk h1 h3
   by_cases hij:i<j
   ·have hstep:=hs i j hij h3
    by_cases hh:q ((i+j) / 2)=true
    ·rw[if_pos hh]at hstep
     obtain⟨p,hp,hm⟩:=ih _ _ (by omega) (show(i+j) / 2+1≤j by omega) h3
     exact⟨p,hp,C0 hstep hm⟩
    ·rw[if_neg hh]at hstep
     obtain⟨p,hp,hm⟩:=ih i ((i+j) / 2) (by omega) (by omega) (by omega)
     exact⟨p,hp,C0 hstep hm⟩
   ·have:i=j:=by omega
    subst i
    exact⟨j,h3,uO (he j h3) (by simp)⟩
 obtain⟨p,hp,m,hm⟩:=key n 0 n (by omega) (by omega) (Nat.le_refl _)
 exact⟨p,hp,CV hm⟩
theorem ajl {β:Type} {f:List AV→Heap→Option (AX×List AV×Heap)} {σ:Heap} {K:AX×List AV×Heap→Option β} {r:Nat→β} (pv:Nat→Nat→List AV) {v0:List AV} {n:Nat} (h0:v0=pv 0 n) (q:Nat→Bool)
  (hs:∀i j,i<j→j≤n→f (pv i j) σ=some (.normal,if q ((i+j) / 2)=true then pv ((i+j) / 2+1) j else pv i ((i+j) / 2),σ))
  (he:∀i,i≤n→f (pv i i) σ=some (.exit 0,pv i i,σ)) (hK:∀p,p≤n→K (.exit 0,pv p p,σ)=some (r p)):∃p,p≤n∧(A.loop f v0 σ).bind K=some (r p):=by
 obtain⟨p,hp,h⟩:=ajn pv h0 q hs he
 exact⟨p,hp,by rw[h,Option.bind_some,hK p hp]⟩
theorem ak2 {dyn:Nat→List AV→Heap→Option (AV×Heap)} {l:List bg} {fn:Nat} {k:Int} {cv:bg→Int} {σ:Heap} (hl:l.length<4611686018427387904)
  (hd:∀x∈l,dyn fn [.agg (aZ x),.int .i64 k] σ=some (.int .i64 (cv x),σ)) (hc:∀x∈l,cv x≠0):
  ∃p:Nat,p≤l.length∧ED dyn [sl 11 aZ l,.int .i64 k,.fn fn []] σ=some (.aH [.int .i64 (p:Int),.bool false],σ):=by
 suffices h:∃p:Nat,p≤l.length∧EE dyn (sl 11 aZ l) (.int .i64 k) (.fn fn []) σ=some (.aH [.int .i64 (p:Int),.bool false],σ) by
  obtain⟨p,hp,h⟩:=h
  exact⟨p,hp,wrap_eq rfl h rfl⟩
 unfold EE
 rw[fE,Option.bind_some]
 refine ajl (v0:=[.int .i64 0,.int .i64 (l.length:Int)]) (r:=fun p=>((AV.aH [.int .i64 (p:Int),.bool false],σ):AV×Heap)) (fun i j=>[.int .i64 (i:Int),.int .i64 (j:Int)]) rfl (fun h=>((l[h]?).any fun x=>decide (cv x<0))) (fun i j hij hj=>?_) (fun i hi=>?_) (fun p hp=>?_)
 ·have hlt:(i+j) / 2<l.length:=by omega
  have hx:l[(i+j) / 2]? =some l[(i+j) / 2]:=List.getElem?_eq_getElem hlt
  have nX:=hd _ (List.mem_of_getElem? hx)
  have jH:=lM 11 aZ l hx
  have hq:A.jE dyn (.fn fn []) [.agg (aZ l[(i+j) / 2]),.int .i64 k] σ=some (.int .i64 (cv l[(i+j) / 2]),σ):=by simp only[A.jE,List.append_nil];exact nX
  simp only[List.getD_cons_succ,List.getD_cons_zero]
  rw[Gi,Option.bind_some,decide_eq_true hij]
  simp only[A.cond,cond_true]
  rw[SL (by omega),Option.bind_some,Zn (by omega),Option.bind_some,YG (by omega),Option.bind_some,Zm (by omega),Option.bind_some,jH,Option.bind_some]
  simp only[A.deref,Option.bind_some,HF,A.lb]
  rw[hq,Option.bind_some,aaC,Option.bind_some]
  simp only[hx,Option.any_some]
  by_cases hh:cv l[(i+j) / 2]<0
  ·rw[decide_eq_true hh]
   simp only[cond_true,if_true,MI (show(i+j) / 2+1<9223372036854775808 by omega),Option.bind_some]
   rfl
  ·rw[decide_eq_false hh]
   rfl
 ·simp only[List.getD_cons_succ,List.getD_cons_zero]
  rw[Gi,Option.bind_some,decide_eq_false (Nat.lt_irrefl i)]
  rfl
 ·simp only[Tm,List.getD_cons_succ,List.getD_cons_zero]
  rw[Gi,Option.bind_some]
  by_cases hpl:p<l.length
  ·have hx:l[p]? =some l[p]:=List.getElem?_eq_getElem hpl
   have nX:=hd _ (List.mem_of_getElem? hx)
   have hne:=hc _ (List.mem_of_getElem? hx)
   have jH:=lM 11 aZ l hx
   have hq:=quiet_of (by show A.jE dyn (.fn fn []) [.agg (aZ l[p]),.int .i64 k] σ=_;simp only[A.jE,List.append_nil];exact nX)
   simp only[decide_eq_true hpl,A.guard,beq_self_eq_true,cond_true,Option.bind_some,List.getD_cons_succ,List.getD_cons_zero,jH,A.deref,HF,A.lb,A.aj,A.ay,A.pick]
   show((A.quiet (A.jE dyn (.fn fn []) [.agg (aZ l[p]),.int .i64 k] σ) σ).bind _)=_
   rw[hq,Option.bind_some,iH,decide_eq_false hne]
   exact bC _ _
  ·simp only[decide_eq_false hpl,A.guard,Option.bind_some,A.pick]
   exact bC _ _
structure Z5 (l : List bg) : Prop where
 len:l.length≤300
 num:∀c∈l,1≤c.number∧c.number≤9999999
 JE:l.Pairwise fun a b=>a.number<b.number
theorem Good.n {l:List bg} (h:Good l):Z5 l:=⟨h.len,h.num,h.JE⟩
theorem ako {l:List bg} (hg:Z5 l) {n:Int} (hn:aN n) (σ:Heap):∃p:Nat,E4 [sl 11 aZ l,.int .i64 n] σ=some (.aH [.int .i64 (p:Int),.bool (wT l n)],σ)∧p≤l.length∧((1≤n∨wT l n=true)→p=lF l n):=by
 have hlen:l.length<4611686018427387904:=by have:=hg.len;omega
 have hd:∀x∈l,A.tab (fun _ _=>none) [(177,CP)] 177 [.agg (aZ x),.int .i64 n] σ=some (.int .i64 (IntKind.i64.wrap (x.number-n)),σ):=fun x _=>adf (r:=IntKind.i64.wrap (x.number-n)) rfl
 have wr:∀{p:Nat} {b:Bool},ED (A.tab (fun _ _=>none) [(177,CP)]) [sl 11 aZ l,.int .i64 n,.fn 177 []] σ=some (.aH [.int .i64 (p:Int),.bool b],σ)→
   E4 [sl 11 aZ l,.int .i64 n] σ=some (.aH [.int .i64 (p:Int),.bool b],σ):=by
  intro p b h
  refine wrap_eq rfl ?_ rfl
  rw[show A.bW [Sh.e 11 [.k,.k,.k,.k,.k,.k,.k,.s 2,.k,.k,.s 8]] [sl 11 aZ l,.int .i64 n]=[sl 11 aZ l,.int .i64 n]from iV (tY (fun _=>rfl) _) rfl]
  show KL (sl 11 aZ l) (.int .i64 n) σ=_
  unfold KL
  rw[h,Option.bind_some]
  exact bC _ _
 by_cases apJ:-4611686018427387904≤n
 ·refine⟨lF l n,wr ?_,Y0 _ _,fun _=>rfl⟩
  have hw:∀x∈l,IntKind.i64.wrap (x.number-n)=x.number-n:=fun x hx=>by
   have:=hg.num x hx
   unfold aN at hn
   exact wrap64 (by unfold aN;omega)
  rw[bsC (cv:=fun x=>IntKind.i64.wrap (x.number-n)) (p:=lF l n) hlen (Y0 _ _) hd ?_]
  ·rw[←X2 hg.JE]
   congr 4
   cases hx:l[lF l n]? with
   |none=>rfl
   |some x=>
    simp only[Option.any_some]
    rw[hw x (List.mem_of_getElem? hx),show decide (x.number-n=0)=decide (x.number=n)from decide_eq_decide.2 (by omega)]
  ·intro h x hx
   rw[hw x (List.mem_of_getElem? hx),←QO hg.JE hx]
   omega
 ·have hno:wT l n=false:=by
   rw[Bool.eq_false_iff]
   intro e
   obtain⟨x,hx,hk⟩:=List.any_eq_true.1 e
   have:=hg.num x hx
   have:=of_decide_eq_true hk
   omega
  obtain⟨p,hp,h⟩:=ak2 hlen hd (fun x hx e=>by
   have apL:=hg.num x hx
   unfold aN at hn
   have h2:IntKind.i64.wrap (x.number-n)=x.number-n∨IntKind.i64.wrap (x.number-n)=x.number-n-18446744073709551616:=by
    by_cases hh:x.number-n<9223372036854775808
    ·exact .inl (wrap64 (by unfold aN;omega))
    ·right
     unfold IntKind.wrap
     simp [IntKind.bits,IntKind.signed]
     omega
   rcases h2 with h2|h2<;>rw[h2]at e<;>omega)
  exact⟨p,by rw[hno];exact wr h,hp,fun q=>by
   rcases q with q|q
   ·omega
   ·rw[hno]at q;cases q⟩
theorem akp {l:List bg} (hg:Good l) {n:Int} (hn:aN n) (σ:Heap):∃p:Nat,E4 [sl 11 aZ l,.int .i64 n] σ=some (.aH [.int .i64 (p:Int),.bool (wT l n)],σ)∧p≤l.length∧((1≤n∨wT l n=true)→p=lF l n):=ako hg.n hn σ
section
variable {α R γ S B : Type}
end
end
section
open HP
def Lt (σ:Heap) (sh:Sh) (v t:AV):Prop:=(∃v',A.bw σ 0 8 v=some v'∧A.own v'=false∧A.nn sh v'=A.nn sh t)∧A.own t=false∧(A.own v=false→A.nn sh v=A.nn sh t)
def M1 (σ:Heap):List Sh→List AV→List AV→Prop
 |_,[],[]=>True
 |[],a::cM,t::ts=>Lt σ .k a t∧M1 σ [] cM ts
 |s::ss,a::cM,t::ts=>Lt σ s a t∧M1 σ ss cM ts
 |_,_,_=>False
theorem iQ (v:AV):A.nn .k v=v:=by simp [A.nn]
theorem TS {σ:Heap}:∀{ss:List Sh} {cM ts:List AV},M1 σ ss cM ts→(∃Cb,A.eO σ 0 8 cM=some Cb∧Cb.any A.own=false∧A.bW ss Cb=A.bW ss ts)∧ts.any A.own=false∧(cM.any A.own=false→A.bW ss cM=A.bW ss ts)
 |ss,[],[],_=>⟨⟨[],by simp [A.eO],rfl,rfl⟩,rfl,fun _=>rfl⟩
 |[],a::cM,t::ts,h=>by
  obtain⟨⟨⟨v',h1,h2,h3⟩,h4,h5⟩,h6⟩:=h
  obtain⟨⟨Cb,k1,k2,k3⟩,k4,k5⟩:=TS h6
  rw[iQ,iQ]at h3
  simp only[A.bW]at k3 k5
  refine⟨⟨v'::Cb,by simp [A.eO,h1,k1],by simp [h2,k2],by simp [A.bW,h3,k3]⟩,by simp [h4,k4],fun h=>?_⟩
  simp only[List.any_cons,Bool.or_eq_false_iff]at h
  have:=h5 h.1
  rw[iQ,iQ]at this
  simp [A.bW,this,k5 h.2]
 |s::ss,a::cM,t::ts,h=>by
  obtain⟨⟨⟨v',h1,h2,h3⟩,h4,h5⟩,h6⟩:=h
  obtain⟨⟨Cb,k1,k2,k3⟩,k4,k5⟩:=TS h6
  refine⟨⟨v'::Cb,by simp [A.eO,h1,k1],by simp [h2,k2],by simp [A.bW,h3,k3]⟩,by simp [h4,k4],fun h=>?_⟩
  simp only[List.any_cons,Bool.or_eq_false_iff]at h
  simp [A.bW,h5 h.1,k5 h.2]
 |_,[],_::_,h=>by cases h
 |[],_::_,[],h=>by cases h
 |_::_,_::_,[],h=>by cases h
theorem As {eX:List Sh} {fI:Sh} {r:List AV→Heap→Option (AV×Heap)} {cM ts:List AV} {σ:Heap} {v:AV} (h:M1 σ eX cM ts) (e:∀σ,A.wrap true eX fI r ts σ=some (v,σ)) (hs:A.DQ v=true):A.wrap true eX fI r cM σ=some (v,σ):=by
 obtain⟨⟨Cb,k1,k2,k3⟩,k4,k5⟩:=TS h
 cases ho:cM.any A.own
 ·rw[QW (k5 ho) ho k4];exact e σ
 ·exact Yp ho k1 k2 (by rw[QW k3 k2 k4];exact e []) hs
theorem MC {σ:Heap} {sh:Sh} {v:AV} (h:Fz v) (ho:A.own v=false):Lt σ sh v v:=⟨⟨v,h σ 0 8,ho,rfl⟩,ho,fun _=>rfl⟩
theorem Q6 {σ:Heap} (n:Int):Lt σ .k (.int .i64 n) (.int .i64 n):=MC (dM _ _) rfl
section
variable {α : Type} {c : α → List AV} {sz : Nat} {B : aJ → Prop} {aC σ : Heap} {R : HP} {v : AV} {l : List α}
theorem vX (H:Hs B aC σ (Sl (fl c) sz v l*R)):(l=[]∧(v=.au∨v=.ez)∧Hs B aC σ R)∨∃id g,v=.os id g sz 0 l.length∧Hs B aC σ (blk id (.arr g sz (l.map c))*R):=by
 rcases zu H with h|⟨id,g,seg,rfl,hl,H⟩
 ·exact .inl h
 ·have K:=Mk.1 (hs_eq (show _=els (fl c) seg l*(blk id (.arr g sz seg)*R) by ac_rfl) H)
  obtain⟨rfl,K⟩:=K
  exact .inr ⟨id,g,rfl,K⟩
theorem Ms {id g:Nat} {n:Nat} (H:Hs B aC σ (blk id (.arr g sz (l.map c))*R)) (hn:n=l.length:=by rfl):Hs B aC σ (Sl (fl c) sz (.os id g sz 0 n) l*R):=
 MH (id:=id) (g:=g) (seg:=l.map c) (hs_eq (show els (fl c) (l.map c) l*(blk id (.arr g sz (l.map c))*R)=_ by ac_rfl) (Mk.2 ⟨rfl,H⟩)) hn
theorem HO (hc:∀x,iX (c x)) {id g:Nat} (h:σ[id]? =some (.arr g sz (l.map c))) {n:Nat} (hn:¬id<n) (d:Nat):A.bw σ n (d+1) (.os id g sz 0 l.length)=some (sl sz c l):=by
 simp only[A.bw,if_neg hn,h]
 rw[if_pos (by simp),List.drop_zero,List.take_of_length_le (by simp),Fj,R5 hc]
 rfl
theorem HS (H:Hs B aC σ (Sl (fl c) sz v l*R)) (hc:∀x,iX (c x)) {n:Nat} (hn:n≤aC.length) (d:Nat):∃v',A.bw σ n (d+1) v=some v'∧A.SB v'=false∧A.nn (.s sz) v'=sl sz c l:=by
 rcases vX H with⟨rfl,rfl|rfl,_⟩|⟨id,g,rfl,K⟩
 ·exact⟨.au,by simp [A.bw],rfl,rfl⟩
 ·exact⟨.ez,by simp [A.bw],rfl,rfl⟩
 ·obtain⟨h1,h2⟩:=iD K
  exact⟨_,HO hc h2 (by omega) d,rfl,rfl⟩
theorem Q5 {P:HP} (H:Hs B aC σ P):Hs bP aC σ P:=⟨by obtain⟨bs,h,_⟩:=H.pre;exact⟨bs,h,fun _ _=>trivial⟩,H.own⟩
end
section
variable {α : Type} {E : List AV → α → HP} {sz : Nat} {aC σ : Heap} {R : HP} {v : AV} {l : List α}
end
def alW (x:bg) (vp vm:AV):List AV:=[.int .i64 x.number,.str x.title,.int .i64 x.delay,.int .i64 x.up,.int .i64 x.down,.int .i64 x.other,.int .i64 x.fu.kind,vp,.bool x.block,.int .i64 x.follow,vm]
def FW:List Sh:=[.k,.k,.k,.k,.k,.k,.k,.s 2,.k,.k,.s 8]
section
variable {B : aJ → Prop} {aC σ : Heap} {R : HP} {M : AV → List fF → HP} {e : List AV} {x : bg}
variable {v : AV} {l : List bg}
theorem aeo (l:List bg):A.nn (.e 11 FW) (sl 11 aZ l)=sl 11 aZ l:=tY (fun _=>rfl) l
end
end
section
open HP
theorem FL {β:Type} {f:List AV→Heap→Option LS} {K:LS→Option β} {v0:List AV} {σ:Heap} {P:β→Prop} {Q:LS→Prop} (h:∃q,A.loop f v0 σ=some q∧Q q) (k:∀q,Q q→∃b,K q=some b∧P b):∃b,(A.loop f v0 σ).bind K=some b∧P b:=by
 obtain⟨q,h1,h2⟩:=h
 obtain⟨b,h3,h4⟩:=k q h2
 exact⟨b,by rw[h1];exact h3,h4⟩
section
variable {α : Type} {c : α → List AV} {sz : Nat} {B : aJ → Prop} {aC σ : Heap} {R : HP} {v : AV} {l : List α}
theorem Qx {most:Nat} {m r:List AV→Heap→Option (AV×Heap)} {r0:AV→Heap→Option (AV×Heap)} (hm:m=A.qv (A.wrap true [(.s sz)] .k (A.cD r0))) (hr:∀a σ,r0 a σ=(A.pY a .au).bind fun x1=>A.cond x1 (some (.au,σ)) ((A.append sz most .ez a σ).bind fun r2=>some (r2.1,r2.2)))
  (hl:l.length≤most) (hB:∀g g' seg,(seg=[]∨B (.arr g sz seg))→B (.arr g' sz (seg++l.map c))) (H:Hs B aC σ R):∃v σ',m [sl sz c l] σ=some (v,σ')∧A.cell v=some v∧Hs B aC σ' (Sl (fl c) sz v l*R):=by
 subst hm
 cases l with
 |nil=>exact⟨.ez,σ,rfl,rfl,qZ H (.inr rfl)⟩
 |cons x l=>
  obtain⟨v',σ',e1,H2⟩:=HR (B:=B) (E:=fl c) (sz:=sz) (v:=.ez) (l:=[]) (ys:=(x::l).map c) (xs:=x::l) (most:=most) (qZ (Mk.2 ⟨rfl,H⟩) (.inr rfl)) (by simpa using hl) hB
  have hv:A.cell v'=some v':=by
   rcases vX H2 with⟨h,_,_⟩|⟨id,g,rfl,_⟩
   ·cases h
   ·rfl
  refine⟨v',σ',?_,hv,H2⟩
  show A.wrap true [(.s sz)] .k (A.cD r0) [sl sz c (x::l)] σ=_
  refine wrap_eq rfl ?_ rfl
  show r0 (sl sz c (x::l)) σ=_
  rw[hr,show A.pY (sl sz c (x::l)) .au=some (.bool false)from rfl,Option.bind_some,cB,show sl sz c (x::l)=.sl sz ((x::l).map c)from rfl,e1]
  rfl
end
section
variable {aC σ : Heap} {R : HP}
theorem anA {l:List bg} (hl:l.length≤1099511627776) (H:Hs bP aC σ R):∃v σ',CK [sl 11 aZ l] σ=some (v,σ')∧A.cell v=some v∧Hs bP aC σ' (Sl (fl aZ) 11 v l*R):=
 Qx (most:=140737488355328 / 128) (r:=fun _ _=>none) rfl (fun _ _=>rfl) (by simpa using hl) (fun _ _ _ _=>trivial) H
end
end
section
open HP
theorem mT {f:List AV→Heap→Option LS} {Q:LS→Prop} (I:Nat→List AV→Heap→Prop) (hstep:∀n v σ,I n v σ→(∃m v' σ',m<n∧f v σ=some (.normal,v',σ')∧I m v' σ')∨∃q,f v σ=some q∧q.1≠.normal∧Q q) {n:Nat} {v0:List AV} {σ:Heap} (h0:I n v0 σ):∃q,A.loop f v0 σ=some q∧Q q:=by
 have key:∀(k n:Nat) v σ,n≤k→I n v σ→∃q,(∃m,A.iter f m v σ=some q)∧Q q:=by
  intro k
  induction k with
  |zero=>
   intro n v σ hn hI
   rcases hstep n v σ hI with⟨m,_,_,hm,_⟩|⟨q,h1,h2,h3⟩
   ·omega
   ·exact⟨q,uO h1 h2,h3⟩
  |succ k ih=>
   intro n v σ hn hI
   rcases hstep n v σ hI with⟨m,v',σ',hm,h1,h2⟩|⟨q,h1,h2,h3⟩
   ·obtain⟨q,hq,hQ⟩:=ih m v' σ' (by omega) h2
    exact⟨q,C0 h1 hq,hQ⟩
   ·exact⟨q,uO h1 h2,h3⟩
 obtain⟨q,⟨m,hm⟩,hQ⟩:=key n n v0 σ (Nat.le_refl _) h0
 exact⟨q,CV hm,hQ⟩
theorem gT (X d:Option AV):A.guard (.bool true) true X d=X:=by have h:A.guard (.bool true) true X d=X:=rfl;exact h.trans (Eq.refl X)
theorem gF (X d:Option AV):A.guard (.bool false) false X d=X:=by have h:A.guard (.bool false) false X d=X:=rfl;exact h.trans (Eq.refl X)
theorem ux (X d:Option AV):A.guard (.bool false) true X d=d:=by have h:A.guard (.bool false) true X d=d:=rfl;exact h.trans (Eq.refl d)
theorem xD (X d:Option AV):A.guard (.bool true) false X d=d:=by have h:A.guard (.bool true) false X d=d:=rfl;exact h.trans (Eq.refl d)
theorem bS {α β:Type} (a:α) (f:α→Option β):(some a).bind f=f a:=by have h:(some a).bind f=f a:=rfl;exact h.trans (Eq.refl (f a))
theorem nv (cs:List AV) (σ:Heap):A.deref (.rp cs) σ=some cs:=by have h:A.deref (.rp cs) σ=some cs:=rfl;exact h.trans (Eq.refl _)
theorem mJ (n:Nat) {α:Type} {X Y:α}:(bif (AX.exit n==AX.exit n)then X else Y)=X:=by rw[show(AX.exit n==AX.exit n)=true from beq_self_eq_true _];rfl
theorem mM (x y:AV):A.pick (.bool false) x y=some y:=rfl
theorem lz (x y:AV):A.pick (.bool true) x y=some x:=rfl
theorem aod:A.not (.bool true)=some (.bool false):=rfl
end
section
open HP
section
variable {aC σ : Heap} {R : HP}
theorem Mm {v v':AV} (H:Hs bP aC σ R) (h:A.bw σ aC.length 8 v=some v') (hv:σ=aC→v'=v):A.fin aC v σ=some (v',aC):=by
 obtain⟨⟨bs,rfl,_⟩,_⟩:=H
 by_cases sA:bs=[]
 ·subst sA
  rw[List.append_nil]at h ⊢
  rw[bC,hv (by simp)]
 ·unfold A.fin
  rw[if_neg (by simpa using sA),if_pos (by simp),h];rfl
end
end
section
open HP
def Inv (k:Nat) (l:List bg):Prop:=l.length≤1000∧∀c∈l,SH c.dw∧c.dw.length≤2000+k
theorem Inv.mono {k k':Nat} {l:List bg} (h:Inv k l) (hk:k≤k'):Inv k' l:=⟨h.1,fun c hc=>⟨(h.2 c hc).1,by have:=(h.2 c hc).2;omega⟩⟩
theorem Inv.erase {k:Nat} {l:List bg} (h:Inv k l) (i:Nat):Inv k (l.eraseIdx i):=
 ⟨by have:=List.length_eraseIdx_le l i;have:=h.1;omega,fun c hc=>h.2 c (List.mem_of_mem_eraseIdx hc)⟩
section
variable {aC σ : Heap} {R : HP}
end
end
section
open HP
theorem ajV {l:List bg} {n:Int} (hg:Good l) (h:wT l n=true):∃x,l[lF l n]? =some x∧x.number=n:=by
 rw[←X2 hg.JE]at h
 cases hx:l[lF l n]? with
 |none=>rw[hx]at h;cases h
 |some x=>rw[hx]at h;exact⟨x,rfl,by simpa using h⟩
theorem kU (a b:AV):A.ext 0 (.aH [a,b])=some a:=rfl
theorem ext1 (a b:AV):A.ext 1 (.aH [a,b])=some b:=rfl
theorem akf (l:List bg) (cM:List AV):A.bW [Sh.e 11 FW] (sl 11 aZ l::cM)=sl 11 aZ l::cM:=iV (aeo l) rfl
theorem aaL (a:Int):A.neq .i (.int .i64 a) (.int .i64 0)=some (.bool (decide (¬(a=0)))):=by rw[gC]
end
section
open HP
section
variable {α : Type} {c : α → List AV} {sz : Nat} {aC σ : Heap} {R : HP}
theorem ali {B:aJ→Prop} (H:Hs B aC σ R) (bs:Heap) (sA:∀b∈bs,B b):Hs B aC (σ++bs) R:=by
 obtain⟨⟨b0,rfl,hb0⟩,h,hr,h2⟩:=H
 exact⟨⟨b0++bs,by simp,fun b hb=>(List.mem_append.1 hb).elim (hb0 b) (sA b)⟩,h,hr,fun i b hb=>⟨(h2 i b hb).1,by rw[List.getElem?_append_left (List.getElem?_eq_some_iff.1 (h2 i b hb).2).1];exact(h2 i b hb).2⟩⟩
end
def mw (l:List bh):Prop:=l.Pairwise fun a b=>fB a.key b.key=true
def oD (l:List bh) (k:aB):Nat:=(l.takeWhile fun m=>fB m.key k).length
def MO (l:List bh) (k:aB):Bool:=l.any fun m=>decide (m.key=k)
theorem akr (l:List bh) (k:aB):oD l k≤l.length:=(List.takeWhile_prefix _).length_le
theorem Mb {l:List bh} {k:aB} (h:mw l):∀{i:Nat} {x:bh},l[i]? =some x→(fB x.key k=true↔i<oD l k):=by
 induction l with
 |nil=>intro i x hx;simp at hx
 |cons a l ih=>
  intro i x hx
  have hs:=List.pairwise_cons.1 h
  unfold oD
  rw[List.takeWhile_cons]
  cases ha:fB a.key k
  ·simp only[Bool.false_eq_true,if_false,List.length_nil,Nat.not_lt_zero,iff_false,Bool.not_eq_true]
   cases i with
   |zero=>simp at hx;subst hx;exact ha
   |succ i=>
    simp only[List.getElem?_cons_succ]at hx
    have:=hs.1 x (List.mem_of_getElem? hx)
    cases hq:fB x.key k
    ·rfl
    ·rw[Fe this hq]at ha;cases ha
  ·simp only[if_true,List.length_cons]
   cases i with
   |zero=>simp at hx;subst hx;simp [ha]
   |succ i=>
    simp only[List.getElem?_cons_succ]at hx
    rw[ih hs.2 hx]
    unfold oD
    omega
theorem Ma {l:List bh} {k:aB} (h:mw l) {i:Nat} {x:bh} (hi:l[i]? =some x) (hk:x.key=k):oD l k=i:=by
 have h1:¬i<oD l k:=fun q=>by
  have:=(Mb h hi).2 q
  rw[hk,BB]at this;cases this
 have h2:¬oD l k<i:=fun q=>by
  have hp:oD l k<l.length:=Nat.lt_trans q (List.getElem?_eq_some_iff.1 hi).1
  have hy:l[oD l k]? =some l[oD l k]:=List.getElem?_eq_getElem hp
  have h3:¬fB l[oD l k].key k=true:=fun q'=>Nat.lt_irrefl _ ((Mb h hy).1 q')
  have h4:=List.pairwise_iff_getElem.1 h (oD l k) i hp (List.getElem?_eq_some_iff.1 hi).1 q
  rw[(List.getElem?_eq_some_iff.1 hi).2,hk]at h4
  exact h3 h4
 omega
theorem X3 {l:List bh} {k:aB} (h:mw l):((l[oD l k]?).any fun x=>decide (x.key=k))=MO l k:=by
 rw[Bool.eq_iff_iff]
 constructor
 ·intro e
  cases hx:l[oD l k]? with
  |none=>rw[hx]at e;cases e
  |some x=>rw[hx]at e;exact List.any_eq_true.2 ⟨x,List.mem_of_getElem? hx,e⟩
 ·intro e
  obtain⟨x,hm,hk⟩:=List.any_eq_true.1 e
  have hk:=of_decide_eq_true hk
  obtain⟨i,hi⟩:=List.mem_iff_getElem?.1 hm
  rw[Ma h hi hk,hi];simp [hk]
def yJ (n:Int) (st:List bh) (m:fF):List bh:=
 let st1:=if MO st m.key=true then st.eraseIdx (oD st m.key)else st
 if m.release=true then st1 else st1.take (oD st m.key)++[⟨m.key,m.value,n⟩]++st1.drop (oD st m.key)
def HK (st:List bh) (c:bg):List bh:=c.dw.foldl (yJ c.number) st
def Bw (l:List bg):List bh:=l.foldl HK []
def lE (st:List bh) (k:aB):Option bh:=st.find? fun e=>decide (e.key=k)
theorem Wm {n:Int} {st:List bh} (h:mw st) (m:fF):mw (yJ n st m)∧(∀k,lE (yJ n st m) k=if k=m.key then(if m.release=true then none else some ⟨m.key,m.value,n⟩)else lE st k)∧(yJ n st m).length≤st.length+1:=by
 obtain⟨p,hp⟩:∃p,p=oD st m.key:=⟨_,rfl⟩
 obtain⟨st1,F8⟩:∃st1,st1=if MO st m.key=true then st.eraseIdx p else st:=⟨_,rfl⟩
 have apN:p≤st.length:=by rw[hp];exact akr _ _
 have e1:st1.take p=st.take p:=by
  rw[F8];split
  ·rw[List.eraseIdx_eq_take_drop_succ,List.take_append_of_le_length (by simp;omega),List.take_take,Nat.min_self]
  ·rfl
 have e2:st1.drop p=if MO st m.key=true then st.drop (p+1)else st.drop p:=by
  rw[F8];split
  ·rw[List.eraseIdx_eq_take_drop_succ,List.drop_append_of_le_length (by simp;omega),List.drop_of_length_le (by simp;omega),List.nil_append]
  ·rfl
 have hlt:∀x∈st.take p,fB x.key m.key=true:=fun x hx=>by
  obtain⟨i,hi⟩:=List.mem_iff_getElem?.1 hx
  rw[List.getElem?_take]at hi
  split at hi
  ·rename_i q;exact(Mb h hi).2 (by omega)
  ·cases hi
 have hgt:∀x∈st1.drop p,fB m.key x.key=true:=fun x hx=>by
  rw[e2]at hx
  have key:∀i,p≤i→st[i]? =some x→x.key≠m.key→fB m.key x.key=true:=by
   intro i hpi hi hne
   cases hq:fB m.key x.key
   ·exfalso
    have h1:fB x.key m.key=false:=by
     cases vK:fB x.key m.key
     ·rfl
     ·have:=(Mb h hi).1 vK;omega
    exact hne (QK h1 hq)
   ·rfl
  split at hx
  ·rename_i hh
   obtain⟨i,hi⟩:=List.mem_iff_getElem?.1 hx
   rw[List.getElem?_drop]at hi
   refine key _ (by omega) hi fun e=>?_
   have:=Ma h hi e
   omega
  ·rename_i hh
   obtain⟨i,hi⟩:=List.mem_iff_getElem?.1 hx
   rw[List.getElem?_drop]at hi
   refine key _ (by omega) hi fun e=>?_
   exact hh (List.any_eq_true.2 ⟨x,List.mem_of_getElem? hi,by simp [e]⟩)
 have hs1:mw st1:=by
  rw[F8];split
  ·exact h.sublist (List.eraseIdx_sublist _ _)
  ·exact h
 have vI:st1.length≤st.length:=by
  rw[F8];split
  ·exact List.length_eraseIdx_le _ _
  ·exact Nat.le_refl _
 have hno:∀k,k=m.key→lE st1 k=none:=by
  rintro k rfl
  unfold lE
  rw[List.find?_eq_none]
  intro x hx hk
  have hk:=of_decide_eq_true hk
  rw[←List.take_append_drop p st1,List.mem_append]at hx
  rcases hx with hx|hx
  ·rw[e1]at hx
   have:=hlt x hx
   rw[hk,BB]at this;cases this
  ·have:=hgt x hx
   rw[hk,BB]at this;cases this
 have aaW:∀k,k≠m.key→lE st1 k=lE st k:=by
  intro k hk
  rw[F8];split
  ·rename_i hh
   unfold lE
   rw[List.eraseIdx_eq_take_drop_succ]
   have hx:st[p]? ≠none:=fun e=>by
    have:=X3 (k:=m.key) h
    rw[hh,←hp,e]at this;cases this
   obtain⟨x,hx⟩:=Option.ne_none_iff_exists'.1 hx
   have hxk:x.key=m.key:=by
    have:=X3 (k:=m.key) h
    rw[hh,←hp,hx]at this
    simpa using this
   have e:st=st.take p++x::st.drop (p+1):=by
    rw[←(List.getElem?_eq_some_iff.1 hx).2,List.getElem_cons_drop,List.take_append_drop]
   conv=>rhs;rw[e]
   rw[List.find?_append,List.find?_append,List.find?_cons,decide_eq_false (fun q=>hk (by rw[←q,hxk]))]
  ·rfl
 have anR:yJ n st m=if m.release=true then st1 else st1.take p++[⟨m.key,m.value,n⟩]++st1.drop p:=by
  unfold yJ
  rw[←hp,←F8]
 rw[anR]
 split
 ·rename_i hr
  refine⟨hs1,fun k=>?_,by omega⟩
  by_cases hk:k=m.key
  ·rw[if_pos hk];exact hno k hk
  ·rw[if_neg hk];exact aaW k hk
 ·rename_i hr
  refine⟨?_,fun k=>?_,by simp;omega⟩
  ·unfold mw
   rw[List.append_assoc,List.pairwise_append]
   refine⟨hs1.sublist (List.take_sublist _ _),?_,fun x hx y hy=>?_⟩
   ·rw[List.singleton_append,List.pairwise_cons]
    exact⟨fun y hy=>hgt y hy,hs1.sublist (List.drop_sublist _ _)⟩
   ·rw[e1]at hx
    rcases List.mem_append.1 hy with hy|hy
    ·simp at hy;subst hy;exact hlt x hx
    ·exact Fe (hlt x hx) (hgt y hy)
  ·by_cases hk:k=m.key
   ·rw[if_pos hk]
    subst hk
    unfold lE
    rw[List.append_assoc,List.find?_append]
    have:(st1.take p).find? (fun e=>decide (e.key=m.key))=none:=by
     rw[List.find?_eq_none]
     intro x hx q
     rw[e1]at hx
     have:=hlt x hx
     rw[of_decide_eq_true q,BB]at this;cases this
    rw[this]
    simp
   ·rw[if_neg hk,←aaW k hk]
    unfold lE
    rw[List.append_assoc,List.find?_append,List.singleton_append,List.find?_cons,decide_eq_false (fun q=>hk q.symm)]
    conv=>rhs;rw[←List.take_append_drop p st1,List.find?_append]
end
section
open HP
section
variable {B : aJ → Prop} {aC σ : Heap} {R : HP}
theorem afJ {n:Int} (ms:List fF):∀{st:List bh},mw st→mw (ms.foldl (yJ n) st)∧(ms.foldl (yJ n) st).length≤st.length+ms.length:=by
 induction ms with
 |nil=>intro st h;exact⟨h,Nat.le_refl _⟩
 |cons m ms ih=>
  intro st h
  obtain⟨h1,_,h3⟩:=Wm (n:=n) h m
  obtain⟨h4,h5⟩:=ih h1
  exact⟨h4,by simp only[List.foldl_cons,List.length_cons];omega⟩
theorem afx {l:List bg} (hl:∀c∈l,c.dw.length≤2000000):∀(k:Nat) (st:List bh),mw st→st.length≤k*2000000→mw (l.foldl HK st)∧(l.foldl HK st).length≤(k+l.length)*2000000:=by
 induction l with
 |nil=>intro k st h1 h2;exact⟨h1,h2⟩
 |cons c l ih=>
  intro k st h1 h2
  obtain⟨h3,h4⟩:=afJ (n:=c.number) c.dw h1
  have hc:=hl c (by simp)
  obtain⟨h5,h6⟩:=ih (fun x hx=>hl x (by simp [hx])) (k+1) (HK st c) h3 (by show(c.dw.foldl _ st).length≤_;omega)
  refine⟨h5,?_⟩
  rw[List.length_cons,show k+(l.length+1)=k+1+l.length from by omega]
  exact h6
end
def pq (n:Int) (s:List (aB×bh)) (m:fF):List (aB×bh):=if m.release=true then pN m.key s else dD m.key ⟨m.key,m.value,n⟩ s
def Dk (l:List bg):List (aB×bh):=l.foldl (fun s c=>c.dw.foldl (pq c.number) s) []
def pM (s:List (aB×bh)):Prop:=(s.map (·.1)).Nodup
theorem Xo {ν:Type} (k k':aB) (v:ν):∀s:List (aB×ν),cC k (dD k' v s)=if k=k' then some v else cC k s
 |[]=>by by_cases h:k=k'<;>simp [dD,cC,h]
 |(a,b)::s=>by
  rw[dD]
  by_cases h1:k'=a
  ·subst h1
   simp only[if_true,cC]
   by_cases h:k=k'<;>simp [h]
  ·rw[if_neg h1,cC,cC,Xo k k' v s]
   by_cases h2:k=a
   ·have:k≠k':=fun e=>h1 (by rw[←e,h2])
    simp [h2,this]
    intro e;exact absurd (e.symm) h1
   ·simp [h2]
theorem QL {ν:Type} {k:aB}:∀{s:List (aB×ν)} {x:aB×ν},x∈pN k s→x∈s
 |[],x,h=>h
 |(a,b)::s,x,h=>by
  rw[pN]at h
  split at h
  ·exact List.mem_cons_of_mem _ h
  ·rcases List.mem_cons.1 h with rfl|h
   ·exact List.mem_cons_self
   ·exact List.mem_cons_of_mem _ (QL h)
theorem Wo {ν:Type} {k:aB}:∀{s:List (aB×ν)},(∀p∈s,p.1≠k)→cC k s=none
 |[],_=>rfl
 |(a,b)::s,h=>by
  rw[cC,if_neg (fun e=>h (a,b) (by simp) e.symm)]
  exact Wo (fun p hp=>h p (by simp [hp]))
theorem Xn (k k':aB):∀{s:List (aB×bh)},pM s→cC k (pN k' s)=if k=k' then none else cC k s
 |[],_=>by simp [pN,cC]
 |(a,b)::s,h=>by
  unfold pM at h
  rw[List.map_cons,List.nodup_cons]at h
  rw[pN]
  by_cases h1:k'=a
  ·subst h1
   rw[if_pos rfl]
   by_cases h2:k=k'
   ·subst h2
    rw[if_pos rfl]
    exact Wo fun p hp e=>h.1 (List.mem_map.2 ⟨p,hp,e⟩)
   ·rw[if_neg h2,cC,if_neg h2]
  ·rw[if_neg h1,cC,cC,Xn k k' (s:=s) h.2]
   by_cases h2:k=a
   ·have:k≠k':=fun e=>h1 (by rw[←e,h2])
    rw[if_pos h2,if_pos h2,if_neg this]
   ·rw[if_neg h2,if_neg h2]
theorem YO {k:aB} {v:bh}:∀{s:List (aB×bh)},pM s→pM (dD k v s)∧∀x∈(dD k v s).map (·.1),x∈s.map (·.1)∨x=k
 |[],_=>⟨by simp [pM,dD],by simp [dD]⟩
 |(a,b)::s,h=>by
  unfold pM at h
  rw[List.map_cons,List.nodup_cons]at h
  rw[dD]
  split
  ·rename_i e
   subst e
   exact⟨by unfold pM;rw[List.map_cons,List.nodup_cons];exact h,fun x hx=>.inl hx⟩
  ·rename_i e
   obtain⟨h1,h2⟩:=YO (k:=k) (v:=v) h.2
   refine⟨?_,fun x hx=>?_⟩
   ·unfold pM
    rw[List.map_cons,List.nodup_cons]
    refine⟨fun hm=>?_,h1⟩
    rcases h2 _ hm with h3|h3
    ·exact h.1 h3
    ·exact e h3.symm
   ·rw[List.map_cons]at hx ⊢
    rcases List.mem_cons.1 hx with rfl|hx
    ·exact .inl List.mem_cons_self
    ·rcases h2 x hx with h3|h3
     ·exact .inl (List.mem_cons_of_mem _ h3)
     ·exact .inr h3
theorem YN {k:aB}:∀{s:List (aB×bh)},pM s→pM (pN k s)
 |[],h=>h
 |(a,b)::s,h=>by
  unfold pM at h
  rw[List.map_cons,List.nodup_cons]at h
  rw[pN]
  split
  ·exact h.2
  ·unfold pM
   rw[List.map_cons,List.nodup_cons]
   refine⟨fun hm=>?_,YN h.2⟩
   obtain⟨p,hp,e⟩:=List.mem_map.1 hm
   exact h.1 (List.mem_map.2 ⟨p,QL hp,e⟩)
def zO (s:List (aB×bh)) (st:List bh):Prop:=pM s∧mw st∧∀k,cC k s=lE st k
theorem ahH {n:Int} {s:List (aB×bh)} {st:List bh} (h:zO s st) (m:fF):zO (pq n s m) (yJ n st m):=by
 obtain⟨h1,h2,h3⟩:=h
 obtain⟨k1,k2,_⟩:=Wm (n:=n) h2 m
 unfold pq
 refine⟨?_,k1,fun k=>?_⟩
 ·split
  ·exact YN h1
  ·exact(YO h1).1
 ·rw[k2 k]
  split
  ·rw[Xn k m.key h1,h3 k]
  ·rw[Xo,h3 k]
theorem W9 {n:Int}:∀(ms:List fF) {s:List (aB×bh)} {st:List bh},zO s st→zO (ms.foldl (pq n) s) (ms.foldl (yJ n) st)
 |[],_,_,h=>h
 |m::ms,_,_,h=>W9 ms (ahH h m)
theorem Yf:∀(l:List bg) {s:List (aB×bh)} {st:List bh},zO s st→zO (l.foldl (fun s c=>c.dw.foldl (pq c.number) s) s) (l.foldl HK st)
 |[],_,_,h=>h
 |c::l,_,_,h=>Yf l (W9 c.dw h)
theorem agt (l:List bg):zO (Dk l) (Bw l):=Yf l ⟨List.Pairwise.nil,List.Pairwise.nil,fun k=>rfl⟩
theorem akJ {l:List bg} (hl:l.length≤aW) (hm:∀c∈l,c.dw.length≤aW):Hf l=some (Dk l):=by
 unfold Hf Dk
 rw[Le (g:=fun s c=>c.dw.foldl (pq c.number) s) (P:=fun _ _=>True) hl trivial (fun _ _ _ _ _=>trivial) ?_]
 ·rfl
 intro i c s hc _
 rw[Le (g:=fun s m=>pq c.number s m) (P:=fun _ _=>True) (hm c (List.mem_of_getElem? hc)) trivial (fun _ _ _ _ _=>trivial) ?_]
 ·rfl
 intro j m s hm _
 unfold pq
 by_cases hr:m.release=true<;>simp [hr]
end
section
open HP
def alm (n:Int):bg:=⟨n,⟨#[]⟩,0,0,0,0,⟨1,[]⟩,false,-1,[]⟩
def newRow (n:Int):List AV:=alW (alm n) .au .au
section
variable {aC σ : Heap} {R : HP}
end
end
section
open HP
section
variable {aC σ : Heap} {R : HP}
theorem ajH {α:Type} {c:α→List AV} {sz:Nat} {B:aJ→Prop} {v:AV} {l:List α} (hc:∀x,iX (c x)) (H:Hs B aC σ (Sl (fl c) sz v l*R)):∃v',A.fin aC v σ=some (v',aC)∧A.nn (.s sz) v'=sl sz c l:=by
 obtain⟨v',h1,h2,h3⟩:=HS H hc (Nat.le_refl _) 7
 refine⟨v',Mm (Q5 H) h1 (fun e=>?_),h3⟩
 rcases vX H with⟨rfl,rfl|rfl,_⟩|⟨id,g,rfl,K⟩
 ·simp [A.bw]at h1;rw[h1]
 ·simp [A.bw]at h1;rw[h1]
 ·obtain⟨k1,k2⟩:=iD K
  have:=(List.getElem?_eq_some_iff.1 k2).1
  subst e;omega
end
end
section
open HP
theorem al5 {f:Nat} {l:List AV} (h:iX l):Fz (.fn f l):=fun σ n d=>by cases d<;>simp [A.bw,h σ n]
theorem al7 {l:List AV} (h:iX l):Fz (.rp l):=fun σ n d=>by cases d<;>simp [A.bw,h σ n]
def fmS (st:List (aB×bh)):AV:=uw (fun x=>(AV.agg (aO x))) (fun x=>(AV.agg (cI x))) st
section
variable {aC σ : Heap} {R : HP}
end
end
section
open HP
theorem aiE {R:Type} {f:List AV→Heap→(AX×List AV×Heap→Option R)→Option R} {v:List AV} {σ:Heap} {K:AX×List AV×Heap→Option R} {r:R} (h:∃n,∀m,n≤m→A.wA f m v σ K=some r):A.zS f v σ K=some r:=by
 have hx:∃r,∃n,∀m,n≤m→A.wA f m v σ K=some r:=⟨r,h⟩
 unfold A.zS
 rw[dif_pos hx]
 obtain⟨n,hn⟩:=h
 obtain⟨n',hn'⟩:=Classical.choose_spec hx
 have a:=hn (n+n') (by omega)
 have b:=hn' (n+n') (by omega)
 rw[a]at b;exact b.symm
theorem bounds {P:Nat→Nat→Prop}:∀(n:Nat),(∀j,j<n→∃N,∀m,N≤m→P j m)→∃N,∀j,j<n→∀m,N≤m→P j m
 |0,_=>⟨0,fun j h=>by omega⟩
 |n+1,h=>by
  obtain⟨N,hN⟩:=bounds n (fun j hj=>h j (by omega))
  obtain⟨M,hM⟩:=h n (by omega)
  refine⟨N+M,fun j hj m hm=>?_⟩
  by_cases e:j=n
  ·subst e;exact hM m (by omega)
  ·exact hN j (by omega) m (by omega)
theorem map_erase {α β:Type} (f:α→β) (l:List α) (j:Nat):(l.map f).eraseIdx j=(l.eraseIdx j).map f:=by
 rw[List.eraseIdx_eq_take_drop_succ,List.eraseIdx_eq_take_drop_succ,List.map_append,List.map_take,List.map_drop]
theorem akm {α:Type} {l:List α} {j:Nat} (hj:j<l.length):(l[j]::l.eraseIdx j).Perm l:=by
 have e:l=l.take j++l[j]::l.drop (j+1):=by rw[List.getElem_cons_drop,List.take_append_drop]
 rw[List.eraseIdx_eq_take_drop_succ]
 conv=>rhs;rw[e]
 exact List.perm_middle.symm
theorem PE {α R:Type} {ex:Nat} {enc:α→AV×AV} {it:Nat} {f:List AV→Heap→(AX×List AV×Heap→Option R)→Option R} {K:AX×List AV×Heap→Option R} {r:R} {es:List α}
  (body:List AV→Heap→(AX×List AV×Heap→Option R)→Option R) (ev:List AV→List AV)
  (hf:∀v s k,f v s k=A.sS (.op it 0) s fun x s'=>(A.ext 0 x).bind fun c=>A.cond c (body v s' k) (k (.exit ex,ev v,s')))
  (I:List α→List α→List AV→Heap→Prop) (jY:∀d l v s,I d l v s→∃c,s[it]? =some (.it c (l.map enc)))
  (hstep:∀d l v s j p,(d++l).Perm es→I d l v s→l[j]? =some p→∃v' s',(∀k,body v (s.set it (.it [enc p] ((l.eraseIdx j).map enc))) k=k (.normal,v',s'))∧I (d++[p]) (l.eraseIdx j) v' s')
  (hend:∀d v s,d.Perm es→I d [] v s→K (.exit ex,ev v,s)=some r) {v0:List AV} {s0:Heap} (h0:I [] es v0 s0):A.zS f v0 s0 K=some r:=by
 have key:∀(n:Nat) (d l:List α) v s,l.length=n→(d++l).Perm es→I d l v s→∃N,∀m,N≤m→A.wA f m v s K=some r:=by
  intro n
  induction n with
  |zero=>
   intro d l v s hl hp hI
   have:l=[]:=List.eq_nil_of_length_eq_zero hl
   subst this
   refine⟨1,fun m hm=>?_⟩
   obtain⟨m',rfl⟩:∃m',m=m'+1:=⟨m-1,by omega⟩
   obtain⟨c,hc⟩:=jY _ _ _ _ hI
   rw[A.wA,hf]
   simp only[A.sS,hc,List.map_nil]
   exact hend d v s (by simpa using hp) hI
  |succ n ih=>
   intro d l v s hl hp hI
   obtain⟨c,hc⟩:=jY _ _ _ _ hI
   have hb:∀j,j<l.length→∃N,∀m,N≤m→∀p,l[j]? =some p→body v (s.set it (.it [enc p] ((l.eraseIdx j).map enc))) (fun q=>match q.1 with|.normal=>A.wA f m q.2.1 q.2.2 K|_=>K q)=some r:=by
    intro j hj
    have hx:l[j]? =some l[j]:=List.getElem?_eq_getElem hj
    obtain⟨v',s',h1,h2⟩:=hstep d l v s j _ hp hI hx
    have hp2:((d++[l[j]])++l.eraseIdx j).Perm es:=by
     rw[List.append_assoc,List.singleton_append]
     exact((akm hj).append_left d).trans hp
    obtain⟨N,hN⟩:=ih _ _ _ _ (by rw[List.length_eraseIdx,if_pos hj];omega) hp2 h2
    refine⟨N,fun m hm p Gy=>?_⟩
    rw[hx]at Gy;injection Gy with Gy;subst Gy
    rw[h1]
    exact hN m hm
   obtain⟨N,hN⟩:=bounds l.length hb
   refine⟨N+1,fun m hm=>?_⟩
   obtain⟨m',rfl⟩:∃m',m=m'+1:=⟨m-1,by omega⟩
   rw[A.wA,hf]
   cases l with
   |nil=>simp at hl
   |cons e l=>
    simp only[A.sS,hc,List.map_cons]
    refine ak0 0 (by simp) fun j hj=>?_
    have hj':j<(e::l).length:=by simpa using hj
    have hx:(e::l)[j]? =some (e::l)[j]:=List.getElem?_eq_getElem hj'
    have hx2:(enc e::l.map enc)[j]? =some (enc (e::l)[j]):=by
     rw[←List.map_cons,List.getElem?_map,hx];rfl
    have:=hN j hj' m' (by omega) _ hx
    simp only[hx2]
    rw[←List.map_cons,map_erase]
    exact this
 exact aiE (key _ [] es v0 s0 rfl (List.Perm.refl _) h0)
def wS (p:aB×bh):AV×AV:=(.agg (aO p.1),.agg (cI p.2))
section
variable {aC σ : Heap} {R : HP}
end
end
section
open HP
theorem Yl {ν:Type} (k:aB) (v:ν):∀s:List (aB×ν),(dD k v s).length≤s.length+1
 |[]=>by simp [dD]
 |(a,b)::s=>by
  rw[dD]
  split
  ·simp
  ·have:=Yl k v s;simp;omega
theorem Yj {ν:Type} (k:aB):∀s:List (aB×ν),(pN k s).length≤s.length
 |[]=>by simp [pN]
 |(a,b)::s=>by
  rw[pN]
  split
  ·simp
  ·have:=Yj k s;simp;omega
theorem ahM (n:Int) (s:List (aB×bh)) (m:fF):(pq n s m).length≤s.length+1:=by
 unfold pq
 split
 ·have:=Yj m.key s;omega
 ·exact Yl _ _ _
theorem Wn (n:Int):∀(ms:List fF) (s:List (aB×bh)),(ms.foldl (pq n) s).length≤s.length+ms.length
 |[],s=>Nat.le_refl _
 |m::ms,s=>by
  rw[List.foldl_cons]
  have:=Wn n ms (pq n s m)
  have:=ahM n s m
  simp;omega
theorem ahL {l:List bg} (hm:∀c∈l,c.dw.length≤2000):(Dk l).length≤l.length*2000:=by
 unfold Dk
 have key:∀(l:List bg) (s:List (aB×bh)),(∀c∈l,c.dw.length≤2000)→(l.foldl (fun s c=>c.dw.foldl (pq c.number) s) s).length≤s.length+l.length*2000:=by
  intro l
  induction l with
  |nil=>intro s _;simp
  |cons c l ih=>
   intro s h
   rw[List.foldl_cons]
   have h1:=ih (c.dw.foldl (pq c.number) s) (fun x hx=>h x (by simp [hx]))
   have h2:=Wn c.number c.dw s
   have h3:=h c (by simp)
   simp only[List.length_cons,Nat.add_mul]
   omega
 have:=key l [] hm
 simpa using this
section
variable {aC σ : Heap} {R : HP}
end
end
section
open HP
section
variable {aC σ : Heap} {R : HP}
theorem aik {α:Type} {c:α→List AV} {sz:Nat} {B:aJ→Prop} {v:AV} {l:List α} {e:Int} (hc:∀x,iX (c x)) (H:Hs B aC σ (Sl (fl c) sz v l*R)):∃v',A.fin aC (.aH [v,.int .i64 e]) σ=some (.aH [v',.int .i64 e],aC)∧A.nn (.s sz) v'=sl sz c l:=by
 obtain⟨v',h1,h2,h3⟩:=HS H hc (Nat.le_refl _) 7
 refine⟨v',Mm (Q5 H) (by simp [A.bw,A.eO,h1]) (fun e=>?_),h3⟩
 rcases vX H with⟨rfl,rfl|rfl,_⟩|⟨id,g,rfl,K⟩
 ·simp [A.bw]at h1;rw[h1]
 ·simp [A.bw]at h1;rw[h1]
 ·obtain⟨k1,k2⟩:=iD K
  have:=(List.getElem?_eq_some_iff.1 k2).1
  subst e;omega
theorem L7 {α:Type} {c:α→List AV} {sz:Nat} {v:AV} {l:List α} {e:Int} (h:A.nn (.s sz) v=sl sz c l):A.nn (.t [(.s sz),.k]) (.aH [v,.int .i64 e])=.aH [sl sz c l,.int .i64 e]:=by
 simp only[A.nn,A.bW]at h ⊢
 rw[h]
def zw (l:List bg) (n:Int):List bh×Int:=
 if ¬(rQ l=0)then([],rQ l)else if wT l n=false then([],8)else(Bw (l.take (lF l n+1)),0)
theorem adQ {l:List bg} (hlen:l.length≤300) (hm:∀c∈l,c.dw.length≤2000):mw (Bw l)∧(Bw l).length≤600000000:=by
 obtain⟨b1,b2⟩:=afx (l:=l) (fun c hc=>by have:=hm c hc;omega) 0 [] List.Pairwise.nil (Nat.zero_le _)
 exact⟨b1,by unfold Bw;omega⟩
end
end
section
open HP Go.Sort
theorem ZR {α:Type} {r:α→α→Prop} (Nj:∀x,¬r x x) (tr:∀x y z,r x y→r y z→r x z):∀{a b:List α},a.Pairwise r→b.Pairwise r→(∀x,x∈a↔x∈b)→a=b
 |[],[],_,_,_=>rfl
 |[],y::b,_,_,h=>by have:=(h y).2 (by simp);simp at this
 |x::a,[],_,_,h=>by have:=(h x).1 (by simp);simp at this
 |x::a,y::b,ha,hb,h=>by
  have ha':=List.pairwise_cons.1 ha
  have hb':=List.pairwise_cons.1 hb
  have hxy:x=y:=by
   rcases List.mem_cons.1 ((h x).1 (by simp))with e|m1
   ·exact e
   rcases List.mem_cons.1 ((h y).2 (by simp))with e|m2
   ·exact e.symm
   exact(Nj y (tr _ _ _ (hb'.1 x m1) (ha'.1 y m2))).elim
  subst hxy
  congr 1
  refine ZR Nj tr ha'.2 hb'.2 fun z=>⟨fun hz=>?_,fun hz=>?_⟩
  ·rcases List.mem_cons.1 ((h z).1 (by simp [hz]))with e|m
   ·exact(Nj x (e▸ha'.1 z hz)).elim
   ·exact m
  ·rcases List.mem_cons.1 ((h z).2 (by simp [hz]))with e|m
   ·exact(Nj x (e▸hb'.1 z hz)).elim
   ·exact m
theorem Lk {α:Type} [Inhabited α] {cf:α→α→Int} (hS:SWO (fun x y=>decide (cf x y<0))) (l:List α):(tZ cf l).Perm l∧(tZ cf l).Pairwise fun x y=>¬cf y x<0:=by
 obtain⟨⟨h1,_,h3⟩,h2⟩:=pdq_sorts (fun x y=>decide (cf x y<0)) hS l.toArray 0 l.length (Lib.bitLen l.length) true true (Nat.zero_le _) (by simp) (Or.inl rfl)
 unfold tZ
 generalize pdq (fun x y=>decide (cf x y<0)) l.toArray 0 l.length (Lib.bitLen l.length) true true=d' at h1 h2 h3
 have hs:d'.size=l.length:=by simpa using h1
 refine⟨?_,?_⟩
 ·have e1:d'.extract 0 l.length=d':=by rw[←hs];simp
  have e2:l.toArray.extract 0 l.length=l.toArray:=by simp
  rw[e1,e2]at h3
  exact h3
 ·rw[List.pairwise_iff_getElem]
  intro i j hi hj hij
  simp only[Array.length_toList]at hi hj
  have:=h2 i j (Nat.zero_le _) hij (by omega)
  simp only[getElem!_pos d' i hi,getElem!_pos d' j hj]at this
  simpa using this
theorem aiO {α:Type} [Inhabited α] (f:α→aB) {l:List α} (hn:∀x∈l,∀y∈l,f x=f y→x=y) (hd:l.Nodup):(tZ (fun a b=>qw (f a) (f b)) l).Pairwise fun a b=>fB (f a) (f b)=true:=by
 obtain⟨h1,h2⟩:=Lk (FF f) l
 have hnd:(tZ (fun a b=>qw (f a) (f b)) l).Pairwise (fun x y=>x≠y):=(h1.nodup_iff).2 hd
 refine List.Pairwise.imp_of_mem (R:=fun x y=>(¬qw (f y) (f x)<0)∧x≠y) ?_ (h2.and hnd)
 rintro x y hx hy ⟨q1,q2⟩
 cases e:fB (f x) (f y)
 ·exfalso
  have e2:fB (f y) (f x)=false:=by
   cases e2:fB (f y) (f x)
   ·rfl
   ·exact absurd ((Br _ _).2 e2) q1
  exact q2 (hn x (h1.mem_iff.1 hx) y (h1.mem_iff.1 hy) (QK e e2))
 ·rfl
theorem VX {l:List bh} (h:mw l) {k:aB} {x:bh}:lE l k=some x↔x∈l∧x.key=k:=by
 constructor
 ·intro e
  exact⟨List.mem_of_find?_eq_some e,of_decide_eq_true (List.find?_some (p:=fun m:bh=>decide (m.key=k)) e)⟩
 ·rintro⟨hm,hk⟩
  cases e:lE l k with
  |none=>
   have:=List.find?_eq_none.1 e x hm
   simp [hk]at this
  |some y=>
   have hy:=List.mem_of_find?_eq_some e
   have hyk:y.key=k:=of_decide_eq_true (List.find?_some (p:=fun m:bh=>decide (m.key=k)) e)
   obtain⟨i,hi⟩:=List.mem_iff_getElem?.1 hm
   obtain⟨j,hj⟩:=List.mem_iff_getElem?.1 hy
   have e1:=Ma h hi hk
   have e2:=Ma h hj hyk
   rw[←e1,e2,hj]at hi
   exact hi
theorem P8 {k:aB} {v:bh}:∀{s:List (aB×bh)},pM s→(cC k s=some v↔(k,v)∈s)
 |[],_=>by simp [cC]
 |(a,b)::s,h=>by
  unfold pM at h
  rw[List.map_cons,List.nodup_cons]at h
  rw[cC]
  by_cases e:k=a
  ·subst e
   rw[if_pos rfl]
   constructor
   ·intro q;injection q with q;simp [q]
   ·intro q
    rcases List.mem_cons.1 q with q|q
    ·injection q with _ q;rw[q]
    ·exact(h.1 (List.mem_map.2 ⟨_,q,rfl⟩)).elim
  ·rw[if_neg e,P8 h.2]
   constructor
   ·intro q;exact List.mem_cons_of_mem _ q
   ·intro q
    rcases List.mem_cons.1 q with q|q
    ·injection q with q _;exact(e q).elim
    ·exact q
def Cq (s:List (aB×bh)):Prop:=∀p∈s,p.2.key=p.1
theorem XZ {ν:Type} {k:aB} {v:ν}:∀{s:List (aB×ν)} {x:aB×ν},x∈dD k v s→x∈s∨x=(k,v)
 |[],x,h=>by simp [dD]at h;exact .inr h
 |(a,b)::s,x,h=>by
  rw[dD]at h
  split at h
  ·rcases List.mem_cons.1 h with rfl|h
   ·exact .inr rfl
   ·exact .inl (List.mem_cons_of_mem _ h)
  ·rcases List.mem_cons.1 h with rfl|h
   ·exact .inl List.mem_cons_self
   ·rcases XZ h with h|h
    ·exact .inl (List.mem_cons_of_mem _ h)
    ·exact .inr h
theorem afX (l:List bg):Cq (Dk l):=by
 have inner:∀(n:Int) (ms:List fF) (s:List (aB×bh)),Cq s→Cq (ms.foldl (pq n) s):=by
  intro n ms
  induction ms with
  |nil=>intro s h;exact h
  |cons m ms ih=>
   intro s hs
   refine ih _ (fun p hp=>?_)
   unfold pq at hp
   split at hp
   ·exact hs p (QL hp)
   ·rcases XZ hp with hp|hp
    ·exact hs p hp
    ·rw[hp]
 have key:∀(l:List bg) (s:List (aB×bh)),Cq s→Cq (l.foldl (fun s c=>c.dw.foldl (pq c.number) s) s):=by
  intro l
  induction l with
  |nil=>intro s h;exact h
  |cons c l ih=>intro s hs;exact ih _ (inner c.number c.dw s hs)
 exact key l [] (by intro p hp;cases hp)
theorem aeF {s d:List (aB×bh)} {st:List bh} (hS:zO s st) (hk:Cq s) (hp:d.Perm s) [Inhabited bh]:tZ (fun a b:bh=>qw a.key b.key) (d.map (·.2))=st:=by
 obtain⟨h1,h2,h3⟩:=hS
 have I7:pM d:=by
  unfold pM at h1 ⊢
  exact((hp.map (·.1)).nodup_iff).2 h1
 have hkd:Cq d:=fun p hp'=>hk p (hp.mem_iff.1 hp')
 have he:d.map (·.1)=(d.map (·.2)).map (·.key):=by
  rw[List.map_map]
  exact(List.map_congr_left fun p hp'=>(hkd p hp').symm)
 have hnk:((d.map (·.2)).map (·.key)).Nodup:=by rw[←he];exact I7
 have hinj:∀x∈d.map (·.2),∀y∈d.map (·.2),x.key=y.key→x=y:=by
  intro x hx y hy e
  obtain⟨i,hi⟩:=List.mem_iff_getElem?.1 hx
  obtain⟨j,hj⟩:=List.mem_iff_getElem?.1 hy
  have hi':=(List.getElem?_eq_some_iff.1 hi).1
  have hij:i=j:=by
   refine(List.getElem?_inj (l:=(d.map (·.2)).map (·.key)) (by simpa using hi') hnk).1 ?_
   have q1:((d.map (·.2)).map (·.key))[i]? =some x.key:=by rw[List.getElem?_map,hi];rfl
   have q2:((d.map (·.2)).map (·.key))[j]? =some y.key:=by rw[List.getElem?_map,hj];rfl
   rw[q1,q2,e]
  subst hij
  rw[hi]at hj;injection hj
 have hs:=aiO (f:=fun e:bh=>e.key) hinj ((List.pairwise_map.1 hnk).imp fun h e=>h (congrArg _ e))
 refine ZR (r:=fun a b:bh=>fB a.key b.key=true) (fun x q=>by rw[BB]at q;cases q) (fun x y z=>Fe) hs h2 fun x=>?_
 have hmem:=(Lk (FF fun e:bh=>e.key) (d.map (·.2))).1.mem_iff (a:=x)
 rw[hmem,(hp.map (·.2)).mem_iff]
 constructor
 ·intro hx
  obtain⟨p,hp1,hp2⟩:=List.mem_map.1 hx
  have hpk:=hk p hp1
  have:cC p.1 s=some p.2:=(P8 h1).2 hp1
  rw[h3]at this
  rw[←hp2]
  exact((VX h2).1 this).1
 ·intro hx
  have:lE st x.key=some x:=(VX h2).2 ⟨hx,rfl⟩
  rw[←h3]at this
  exact List.mem_map.2 ⟨_,(P8 h1).1 this,rfl⟩
section
variable {aC σ : Heap} {R : HP}
theorem ai4 {α:Type} [Inhabited α] {c:α→List AV} {sz:Nat} {cf:α→α→Int} (hinj:∀x y,c x=c y→x=y) {v:AV} {l:List α} (hl:l≠[]) (hlen:l.length<4611686018427387904) (hS:SWO (fun x y=>decide (cf x y<0))) (H:Hs bP aC σ (Sl (fl c) sz v l*R)):
  ∃σ',A.H6 sz c cf v σ=some (.aH [],σ')∧Hs bP aC σ' (Sl (fl c) sz v (tZ cf l)*R):=by
 rcases vX H with⟨h,_,_⟩|⟨id,g,rfl,K⟩
 ·exact absurd h hl
 obtain⟨_,h2⟩:=iD K
 have hp:0<l.length:=List.length_pos_iff.2 hl
 have hc:(g=g∧sz=sz∧sz=sz∧0+l.length≤(l.map c).length∧0<l.length∧l.length<4611686018427387904)∧∃l':List α,((l.map c).drop 0).take l.length=l'.map c:=
  ⟨⟨rfl,rfl,rfl,by simp,hp,hlen⟩,l,by rw[List.drop_zero,List.take_of_length_le (by simp)]⟩
 have hch:Classical.choose hc.2=l:=by
  have h9:=Classical.choose_spec hc.2
  have e9:((l.map c).drop 0).take l.length=l.map c:=by rw[List.drop_zero,List.take_of_length_le (by simp)]
  exact((List.map_inj_right hinj).1 (e9.symm.trans h9)).symm
 refine⟨σ.set id (.arr g sz ((tZ cf l).map c)),?_,?_⟩
 ·unfold A.H6
  simp only[h2]
  rw[dif_pos hc,hch,List.take_zero,List.nil_append,List.drop_of_length_le (by simp),List.append_nil]
 ·have hle:(tZ cf l).length=l.length:=(Lk hS l).1.length_eq
  exact Ms (zG (b':=.arr g sz ((tZ cf l).map c)) K trivial) hle.symm
theorem ahE (e:bh):(((A.cells 5 (.agg (cI e))).bind fun gq=>(A.splice 0 gq [ah,br,ah,ah,ah]).bind fun eF=>some eF).bind fun cs=>some (AV.sl 5 (chunks 5 1 cs)))=some (.sl 5 [cI e]):=rfl
theorem amF {B:aJ→Prop} {v:AV} {l:List bh} (k:bh) (hl:l.length<1000000) (hB:∀g g' seg,(seg=[]∨B (.arr g 5 seg))→B (.arr g' 5 (seg++[cI k]))) (H:Hs B aC σ (Sl (fl cI) 5 v l*R)):
  ∃v' σ',A.append 5 (140737488355328 / 48) v (.sl 5 [cI k]) σ=some (v',σ')∧Hs B aC σ' (Sl (fl cI) 5 v' (l++[k])*R):=
 HR (ys:=[cI k]) (xs:=[k]) (hs_eq (show pr (cI k=cI k)*(Sl (fl cI) 5 v l*R)=_ by
  rw[show els (fl cI) [cI k] [k]=pr (cI k=cI k)*emp from rfl,tJ,ym];ac_rfl) (mZ.2 ⟨rfl,H⟩)) (by simp;omega) hB
theorem ajg {l:List bg} (hl:eZ BY l) {n:Int} (hn:aN n) (σ:Heap):KE [sl 11 aZ l,.int .i64 n] σ=some (.aH [sl 5 cI (zw l n).1,.int .i64 (zw l n).2],σ):=by
 have run:KK (sl 11 aZ l) (.int .i64 n) σ=some (.aH [sl 5 cI (zw l n).1,.int .i64 (zw l n).2],σ):=by
  unfold KK zw
  rw[VV (Zu l hl),Option.bind_some,aaL,Option.bind_some]
  by_cases hf:rQ l=0
  case neg=>
   rw[decide_eq_true hf,cQ,if_pos hf,bC,Option.map_some]
   exact congrArg (fun z=>some (z,σ)) (L7 rfl)
  have hg:=QF hf
  have hlen:=hg.len
  rw[decide_eq_false (by simp [hf]),cB,if_neg (by simp [hf])]
  obtain⟨p,e1,e2,e3⟩:=akp hg hn σ
  rw[e1,Option.bind_some,kU,Option.bind_some,ext1,Option.bind_some,show A.not (.bool (wT l n))=some (.bool (!wT l n))from rfl,Option.bind_some]
  cases hh:wT l n
  ·rw[show(!false)=true from rfl,cQ,if_pos rfl,bC,Option.map_some]
   exact congrArg (fun z=>some (z,σ)) (L7 rfl)
  rw[show(!true)=false from rfl,cB,if_neg (by decide)]
  have e4:=e3 (.inr hh)
  subst e4
  obtain⟨x,hx,hxn⟩:=ajV hg hh
  generalize lF l n=a at hx ⊢
  have Gt:=(List.getElem?_eq_some_iff.1 hx).1
  obtain⟨st,hst⟩:∃st,st=Dk (l.take (a+1)):=⟨_,rfl⟩
  have hS:zO st (Bw (l.take (a+1))):=hst▸agt _
  have hk:Cq st:=hst▸afX _
  have qT:st.length≤600000:=by
   have h1:=ahL (l:=l.take (a+1)) (fun c hc=>(hg.mv c (List.mem_of_mem_take hc)).1)
   have h2:(l.take (a+1)).length≤300:=by simp;omega
   rw[hst]
   exact Nat.le_trans h1 (Nat.mul_le_mul_right 2000 h2)
  have hcs:G7 [sl 11 aZ (l.take (a+1))] σ=some (fmS st,σ):=by
   rw[hst]
   exact aeU (akJ (by simp;unfold aW;omega) (fun c hc=>by have:=(hg.mv c (List.mem_of_mem_take hc)).1;unfold aW;omega))
  rw[MI (by omega),Option.bind_some,show A.zL 11 (sl 11 aZ l) none (some (.int .i64 ((a+1:Nat):Int))) σ=some (sl 11 aZ (l.take (a+1)))from VG 11 aZ l (by omega),Option.bind_some,hcs,Option.bind_some]
  rw[show A.BL (fmS st)=some (st.map wS)from rfl,Option.bind_some]
  simp only
  refine PE (α:=aB×bh) (enc:=wS) (it:=σ.length) (es:=st) _ _ (fun _ _ _=>rfl) (fun d lf w s=>∃h c,w=[h]∧(d=[]→h=.au)∧Hs bP σ s (blk σ.length (.it c (lf.map wS))*(Sl (fl cI) 5 h (d.map (·.2))*emp))) ?_ ?_ ?_ ?_
  ·rintro d lf w s ⟨h,c,rfl,_,K⟩
   exact⟨c,(iD K).2⟩
  ·rintro d lf w s j p hp ⟨h,c,rfl,_,K⟩ hj
   have K':=zG (b':=.it [wS p] ((lf.eraseIdx j).map wS)) K trivial
   obtain⟨_,hgt⟩:=iD K'
   generalize s.set σ.length (aJ.it [wS p] ((lf.eraseIdx j).map wS))=iI at K' hgt ⊢
   have mL:d.length≤st.length:=by have:=hp.length_eq;simp at this;omega
   obtain⟨h',s',g1,K2⟩:=amF p.2 (by simp;omega) (fun _ _ _ _=>trivial) (hs_eq (show _=Sl (fl cI) 5 h (d.map (·.2))*(blk σ.length (.it [wS p] ((lf.eraseIdx j).map wS))*emp) by ac_rfl) K')
   have Iw:A.uW (.op σ.length 0) iI=some (.aH [.agg (aO p.1),.agg (cI p.2)]):=by simp only[A.uW,hgt];rfl
   refine⟨[h'],s',fun k=>?_,h',_,rfl,fun q=>by simp at q,hs_eq (by rw[List.map_append];show Sl (fl cI) 5 h' (d.map (·.2)++[p.2])*_=_;ac_rfl) K2⟩
   rw[Iw,Option.bind_some,ext1,Option.bind_some,show A.cells 5 (.agg (cI p.2))=some (cI p.2)from rfl,Option.bind_some,ahK p.2 _ rfl,Option.bind_some,show A.ay 0 5 (cI p.2)=some (.agg (cI p.2))from rfl,Option.bind_some,ahE,Option.bind_some]
   simp only[List.getD_cons_zero]
   rw[g1,Option.bind_some]
  ·rintro d w s hp ⟨h,c,rfl,anY,K⟩
   have K2:=wk K
   simp only[Tm,List.getD_cons_zero]
   letI:Inhabited bh:=⟨⟨⟨0,⟨#[]⟩⟩,⟨0,0⟩,0⟩⟩
   have hsort:∃s',GI [h,.fn 297 []] s=some (.aH [],s')∧Hs bP σ s' (Sl (fl cI) 5 h (Bw (l.take (a+1)))*emp):=by
    have hres:=aeF hS hk hp
    by_cases hd:d=[]
    ·subst hd
     rw[anY rfl]at K2 ⊢
     refine⟨s,rfl,?_⟩
     rw[List.map_nil]at hres K2
     have:Bw (l.take (a+1))=[]:=by
      rw[←hres]
      exact List.eq_nil_of_length_eq_zero (by rw[(Lk (FF fun e:bh=>e.key) []).1.length_eq];rfl)
     rw[this];exact K2
    ·have mL:d.length≤st.length:=by have:=hp.length_eq;omega
     obtain⟨s',g1,K3⟩:=ai4 (cf:=fun a b:bh=>qw a.key b.key) VM (by simpa using hd) (by simp;omega) (FF fun e:bh=>e.key) K2
     rw[hres]at K3
     exact⟨s',g1,K3⟩
   obtain⟨s',g1,K3⟩:=hsort
   rw[g1,Option.bind_some]
   obtain⟨v',j1,j2⟩:=aik (e:=0) WL K3
   rw[j1,Option.map_some]
   exact congrArg (fun z=>some (z,σ)) (L7 j2)
  ·have K2:=FK (b:=aJ.it [] (st.map wS)) (HQ (B:=bP) σ) trivial
   refine⟨.au,[],rfl,fun _=>rfl,?_⟩
   rw[List.map_nil]
   exact hs_eq (show _=blk σ.length (aJ.it [] (st.map wS))*(Sl (fl cI) 5 .au []*emp) by ac_rfl) (qZ (v:=.au) (E:=fl cI) (sz:=5) K2 (.inl rfl))
 refine wrap_eq rfl ?_ (L7 (v:=sl 5 cI (zw l n).1) rfl)
 rw[show A.bW [Sh.e 11 [.k,.k,.k,.k,.k,.k,.k,.s 2,.k,.k,.s 8]] [sl 11 aZ l,.int .i64 n]=[sl 11 aZ l,.int .i64 n]from akf l _]
 exact run
end
end
def nw {κ ν:Type} (eK:κ→AV) (eV:ν→AV):Option (List (κ×ν))→AV
 |none=>.nm
 |some l=>uw eK eV l
theorem ajP {κ ν:Type} {eK:κ→AV} {eV:ν→AV} (hk:∀k,Fz (eK k)) (hv:∀v,Fz (eV v)) (l:List (κ×ν)):Fz (uw eK eV l):=by
 intro σ n d
 have:A.pJ σ n d (l.map fun p=>(eK p.1,eV p.2))=some (l.map fun p=>(eK p.1,eV p.2)):=by
  induction l with
  |nil=>simp [A.pJ]
  |cons x l ih=>simp [A.pJ,hk x.1 σ n d,hv x.2 σ n d,ih]
 cases d<;>simp [A.bw,uw,this]
theorem al6:Fz .nm:=fun _ _ d=>by cases d<;>simp [A.bw]
theorem alb {κ ν:Type} {eK:κ→AV} {eV:ν→AV} (hk:∀k,Fz (eK k)) (hv:∀v,Fz (eV v)) (o:Option (List (κ×ν))):Fz (nw eK eV o):=by
 cases o with
 |none=>exact al6
 |some l=>exact ajP hk hv l
structure zC where
 shown:Int
 since:Int
 jL:Bool
def uU (x:zC):List AV:=[.int .i64 x.shown,.int .i64 x.since,.bool x.jL]
theorem VB (x:zC):A.aj 0 (uU x)=some (.int .i64 x.shown):=rfl
theorem ae3 (x:zC):A.aj 1 (uU x)=some (.int .i64 x.since):=rfl
theorem ae4 (x:zC):A.aj 2 (uU x)=some (.bool x.jL):=rfl
theorem PO (x:zC):A.cells 3 (.agg (uU x))=some (uU x):=rfl
structure cq where
 jN:gB
 lY:Int
 ending:Bool
def fq (x:cq):List AV:=[.int .i64 x.jN.dA,.int .i64 x.jN.to,.int .i64 x.jN.start,.int .i64 x.jN.delay,.int .i64 x.jN.time,.int .i64 x.jN.fu.kind,sl 2 gV x.jN.fu.points,.int .i64 x.lY,.bool x.ending]
theorem agS (x:cq):(fq x).length=9:=rfl
theorem af8 (x:cq):A.aj 1 (fq x)=some (.int .i64 x.jN.to):=rfl
theorem af9 (x:cq):A.aj 2 (fq x)=some (.int .i64 x.jN.start):=rfl
theorem aga (x:cq):A.aj 3 (fq x)=some (.int .i64 x.jN.delay):=rfl
theorem agb (x:cq):A.aj 4 (fq x)=some (.int .i64 x.jN.time):=rfl
theorem Hi (x:cq):A.aj 7 (fq x)=some (.int .i64 x.lY):=rfl
theorem KU (x:cq):A.aj 8 (fq x)=some (.bool x.ending):=rfl
theorem adW (x:cq):A.ay 0 7 (fq x)=some (.agg (fG x.jN)):=rfl
theorem uP (x:cq):A.ay 0 9 (fq x)=some (.agg (fq x)):=rfl
theorem yl (x:cq):A.cells 9 (.agg (fq x))=some (fq x):=rfl
theorem Bv (x:cq) (l:List AV) (h:l.length=9):A.splice 0 (fq x) l=some (fq x):=by
 simp [A.splice,agS,h]
theorem XP (x:cq):iX (fq x):=(bR (dM _ _) (bR (dM _ _) (bR (dM _ _) (bR (dM _ _) (bR (dM _ _) (bR (dM _ _) (bR (oZ PV _) (bR (dM _ _) (bR (By _) oO)))))))))
structure bf where
 clock:zC
 number:Int
 priority:Int
 bD:(List bg)
 bQ:Int
 jg:Int
 follow:Int
 runs:(Option (List (aB×cq)))
def aK (x:bf):List AV:=[.int .i64 x.clock.shown,.int .i64 x.clock.since,.bool x.clock.jL,.int .i64 x.number,.int .i64 x.priority,sl 11 aZ x.bD,.int .i64 x.bQ,.int .i64 x.jg,.int .i64 x.follow,nw (fun x=>AV.agg (aO x)) (fun x=>AV.agg (fq x)) x.runs]
theorem ae2 (x:bf):A.aj 3 (aK x)=some (.int .i64 x.number):=rfl
theorem ahx (x:bf):A.ay 0 10 (aK x)=some (.agg (aK x)):=rfl
theorem agV (x:bf):A.cells 10 (.agg (aK x))=some (aK x):=rfl
theorem CZ (x:bf):iX (aK x):=(bR (dM _ _) (bR (dM _ _) (bR (By _) (bR (dM _ _) (bR (dM _ _) (bR (oZ L5 _) (bR (dM _ _) (bR (dM _ _) (bR (dM _ _) (bR (alb (fun x=>wq (zy x)) (fun x=>wq (XP x)) _) oO))))))))))
theorem aeL (x:bf) {σ:Heap}:((A.deref (.rp ((aK x).drop 1)) σ).bind fun c=>A.aj 0 c)=some (.int .i64 x.clock.since):=rfl
theorem aeM (x:bf) {σ:Heap}:((A.deref (.rp ((aK x).drop 2)) σ).bind fun c=>A.aj 0 c)=some (.bool x.clock.jL):=rfl
theorem KA (x:bf) {σ:Heap}:((A.deref (.rp ((aK x).drop 3)) σ).bind fun c=>A.aj 0 c)=some (.int .i64 x.number):=rfl
theorem G6 (x:bf) {σ:Heap}:((A.deref (.rp ((aK x).drop 4)) σ).bind fun c=>A.aj 0 c)=some (.int .i64 x.priority):=rfl
theorem aeN (x:bf) {σ:Heap}:((A.deref (.rp ((aK x).drop 7)) σ).bind fun c=>A.aj 0 c)=some (.int .i64 x.jg):=rfl
theorem Vo (x:bf) {σ:Heap}:((A.deref (.rp ((aK x).drop 8)) σ).bind fun c=>A.aj 0 c)=some (.int .i64 x.follow):=rfl
theorem KB (x:bf) {σ:Heap}:((A.deref (.rp ((aK x).drop 9)) σ).bind fun c=>A.aj 0 c)=some (nw (fun x=>AV.agg (aO x)) (fun x=>AV.agg (fq x)) x.runs):=(by unfold aK;cases x.runs<;>rfl)
structure bX where
 az:(List bf)
 number:Int
 mo:Int
 black:Bool
def rM (x:bX):List AV:=[sl 10 aK x.az,.int .i64 x.number,.int .i64 x.mo,.bool x.black]
theorem Vr (x:bX) {σ:Heap}:((A.deref (.rp ((rM x).drop 0)) σ).bind fun c=>A.aj 0 c)=some (sl 10 aK x.az):=rfl
theorem aeO (x:bX) {σ:Heap}:((A.deref (.rp ((rM x).drop 2)) σ).bind fun c=>A.aj 0 c)=some (.int .i64 x.mo):=rfl
theorem aeP (x:bX) {σ:Heap}:((A.deref (.rp ((rM x).drop 3)) σ).bind fun c=>A.aj 0 c)=some (.bool x.black):=rfl
structure bF where
 state:bX
 setup:fU
 keys:(List aB)
 params:(Option (List (aB×ep)))
 actions:(List dR)
def qA (x:bF):List AV:=[sl 10 aK x.state.az,.int .i64 x.state.number,.int .i64 x.state.mo,.bool x.state.black,sl 3 ck x.setup.aQ.aY,sl 4 bV x.setup.aQ.units,sl 3 dL x.setup.bH,sl 2 dQ x.setup.lists,sl 3 bO x.setup.bk,sl 2 aO x.keys,nw (fun x=>AV.agg (aO x)) (fun x=>AV.agg (eU x)) x.params,sl 5 bE x.actions]
theorem Vp (x:bF) {σ:Heap}:((A.deref (.rp ((qA x).drop 10)) σ).bind fun c=>A.aj 0 c)=some (nw (fun x=>AV.agg (aO x)) (fun x=>AV.agg (eU x)) x.params):=(by unfold qA;cases x.params<;>rfl)
theorem Vq (x:bF) {σ:Heap}:((A.deref (.rp ((qA x).drop 11)) σ).bind fun c=>A.aj 0 c)=some (sl 5 bE x.actions):=rfl
section
set_option maxRecDepth 100000
open HP
def wd (n:Nat):List AV:=[.int .u64 ((n / 18446744073709551616:Nat):Int),.int .u64 ((n % 18446744073709551616:Nat):Int)]
theorem MY {n:Nat} (h:n<18446744073709551616):IntKind.u64.wrap (n:Int)=(n:Int):=by rw[IntKind.wrap_u64];omega
theorem Me {r:AV→AV→Heap→Option (AV×Heap)} {x y v:AV} {σ:Heap} (h:[x,y].any A.own=false) (e:r x y σ=some (v,σ)):A.wrap true [] .k (A.cR r) [x,y] σ=some (v,σ):=by
 refine wrap_eq h ?_ (iQ _)
 rw[show A.bW [] [x,y]=[x,y] by simp [A.bW]]
 exact e
theorem yP {n:Nat} (h:n<9223372036854775808) (σ:Heap):oo [.int .i64 (n:Int)] σ=some (.agg (wd n),σ):=by
 refine wrap_eq rfl ?_ (iQ _)
 show PC (.int .i64 (n:Int)) σ=_
 unfold PC
 rw[show A.conv .u64 (.int .i64 (n:Int))=some (.int .u64 (IntKind.u64.wrap (n:Int)))from rfl,bS,MY (by omega)]
 have e:wd n=[.int .u64 0,.int .u64 (n:Int)]:=by
  unfold wd
  rw[Nat.div_eq_of_lt (by omega),Nat.mod_eq_of_lt (by omega)];rfl
 rw[e]
 exact bC _ _
theorem aj9 {x y:Nat} (hx:x<18446744073709551616) (hy:y<18446744073709551616) (σ:Heap):G3 [.int .u64 (x:Int),.int .u64 (y:Int)] σ=some (.aH [.int .u64 ((x*y / 18446744073709551616:Nat):Int),.int .u64 ((x*y % 18446744073709551616:Nat):Int)],σ):=by
 have h:0≤(x:Int)∧(x:Int)<18446744073709551616∧0≤(y:Int)∧(y:Int)<18446744073709551616:=by omega
 have e:∀(a b:Int),G3 [.int .u64 a,.int .u64 b] σ=if 0≤a∧a<18446744073709551616∧0≤b∧b<18446744073709551616 then some (.aH [.int .u64 ((a.toNat*b.toNat / 18446744073709551616:Nat):Int),.int .u64 ((a.toNat*b.toNat % 18446744073709551616:Nat):Int)],σ)else none:=fun a b=>rfl
 rw[e,if_pos h,Int.toNat_natCast,Int.toNat_natCast]
theorem Yt {x y c:Nat} (hx:x<18446744073709551616) (hy:y<18446744073709551616) (hc:c≤1) (σ:Heap):EZ [.int .u64 (x:Int),.int .u64 (y:Int),.int .u64 (c:Int)] σ=some (.aH [.int .u64 (((x+y+c) % 18446744073709551616:Nat):Int),.int .u64 (((x+y+c) / 18446744073709551616:Nat):Int)],σ):=by
 have h:0≤(x:Int)∧(x:Int)<18446744073709551616∧0≤(y:Int)∧(y:Int)<18446744073709551616∧0≤(c:Int)∧(c:Int)≤1:=by omega
 have e:∀(a b d:Int),EZ [.int .u64 a,.int .u64 b,.int .u64 d] σ=if 0≤a∧a<18446744073709551616∧0≤b∧b<18446744073709551616∧0≤d∧d≤1 then some (.aH [.int .u64 (((a.toNat+b.toNat+d.toNat) % 18446744073709551616:Nat):Int),.int .u64 (((a.toNat+b.toNat+d.toNat) / 18446744073709551616:Nat):Int)],σ)else none:=fun a b d=>rfl
 rw[e,if_pos h,Int.toNat_natCast,Int.toNat_natCast,Int.toNat_natCast]
theorem wo {a n:Nat} (h:a*n<340282366920938463463374607431768211456) (ha:a<340282366920938463463374607431768211456) (hn:n<9223372036854775808) (σ:Heap):qc [.agg (wd a),.int .i64 (n:Int)] σ=some (.agg (wd (a*n)),σ):=by
 have e0:N4 (.agg (wd a)) (.int .i64 (n:Int)) σ=some (.agg (wd (a*n)),σ)→qc [.agg (wd a),.int .i64 (n:Int)] σ=some (.agg (wd (a*n)),σ):=fun q=>Me rfl q
 refine e0 ?_
 unfold N4
 have hlo:a % 18446744073709551616<18446744073709551616:=Nat.mod_lt _ (by decide)
 have e1:a*n=(a / 18446744073709551616*n)*18446744073709551616+a % 18446744073709551616*n:=by
  have q:=Nat.div_add_mod a 18446744073709551616
  generalize a / 18446744073709551616=hi at q
  generalize a % 18446744073709551616=lo at q
  subst q
  rw[Nat.add_mul,Nat.mul_assoc,Nat.mul_comm]
 generalize hp:a / 18446744073709551616*n=p at e1
 generalize hq:a % 18446744073709551616*n=q at e1
 have hhi:p+q / 18446744073709551616<18446744073709551616:=by omega
 have hd:(a*n) / 18446744073709551616=p+q / 18446744073709551616:=by omega
 have hm:(a*n) % 18446744073709551616=q % 18446744073709551616:=by omega
 rw[show A.cells 2 (.agg (wd a))=some (wd a)from rfl,bS,show A.aj 1 (wd a)=some (.int .u64 ((a % 18446744073709551616:Nat):Int))from rfl,bS,show A.conv .u64 (.int .i64 (n:Int))=some (.int .u64 (IntKind.u64.wrap (n:Int)))from rfl,bS,MY (by omega),aj9 hlo (by omega),bS,kU,bS,ext1,bS,show A.aj 0 (wd a)=some (.int .u64 ((a / 18446744073709551616:Nat):Int))from rfl,bS,bS]
 rw[show A.mul (.int .u64 ((a / 18446744073709551616:Nat):Int)) (.int .u64 (n:Int))=some (.int .u64 (IntKind.u64.wrap (((a / 18446744073709551616:Nat):Int)*(n:Int))))from rfl,bS,←Int.natCast_mul,hp,hq,MY (by omega)]
 rw[show A.add (.int .u64 (p:Int)) (.int .u64 ((q / 18446744073709551616:Nat):Int))=some (.int .u64 (IntKind.u64.wrap ((p:Int)+((q / 18446744073709551616:Nat):Int))))from rfl,bS,←Int.natCast_add,MY hhi]
 have e:wd (a*n)=[.int .u64 ((p+q / 18446744073709551616:Nat):Int),.int .u64 ((q % 18446744073709551616:Nat):Int)]:=by unfold wd;rw[hd,hm]
 rw[e]
 exact bC _ _
theorem aly {a b:Nat} (h:a+b<340282366920938463463374607431768211456) (σ:Heap):Ki [.agg (wd a),.agg (wd b)] σ=some (.agg (wd (a+b)),σ):=by
 have e0:Oa (.agg (wd a)) (.agg (wd b)) σ=some (.agg (wd (a+b)),σ)→Ki [.agg (wd a),.agg (wd b)] σ=some (.agg (wd (a+b)),σ):=fun q=>Me rfl q
 refine e0 ?_
 unfold Oa
 have ha:a % 18446744073709551616<18446744073709551616:=Nat.mod_lt _ (by decide)
 have hb:b % 18446744073709551616<18446744073709551616:=Nat.mod_lt _ (by decide)
 rw[show A.cells 2 (.agg (wd a))=some (wd a)from rfl,bS,show A.cells 2 (.agg (wd b))=some (wd b)from rfl,bS,show A.aj 1 (wd a)=some (.int .u64 ((a % 18446744073709551616:Nat):Int))from rfl,bS,show A.aj 1 (wd b)=some (.int .u64 ((b % 18446744073709551616:Nat):Int))from rfl,bS]
 have e0:=Yt ha hb (c:=0) (by omega) σ
 rw[show((0:Nat):Int)=0 from rfl]at e0
 rw[e0,bS,kU,bS,ext1,bS,show A.aj 0 (wd a)=some (.int .u64 ((a / 18446744073709551616:Nat):Int))from rfl,bS,show A.aj 0 (wd b)=some (.int .u64 ((b / 18446744073709551616:Nat):Int))from rfl,bS]
 simp only
 rw[Yt (by omega) (by omega) (by omega),bS,kU,bS,ext1,bS]
 have e:wd (a+b)=[.int .u64 (((a / 18446744073709551616+b / 18446744073709551616+(a % 18446744073709551616+b % 18446744073709551616+0) / 18446744073709551616) % 18446744073709551616:Nat):Int),.int .u64 (((a % 18446744073709551616+b % 18446744073709551616+0) % 18446744073709551616:Nat):Int)]:=by
  have d1:(a+b) / 18446744073709551616=(a / 18446744073709551616+b / 18446744073709551616+(a % 18446744073709551616+b % 18446744073709551616+0) / 18446744073709551616) % 18446744073709551616:=by omega
  have d2:(a+b) % 18446744073709551616=(a % 18446744073709551616+b % 18446744073709551616+0) % 18446744073709551616:=by omega
  unfold wd
  rw[d1,d2]
 rw[e]
 exact bC _ _
theorem ZE (a b:Nat) (σ:Heap):EN [.agg (wd a),.agg (wd b)] σ=some (.bool (decide (a<b)),σ):=by
 refine wrap_eq rfl ?_ (iQ _)
 show N9 (.agg (wd a)) (.agg (wd b)) σ=_
 unfold N9
 rw[show A.cells 2 (.agg (wd a))=some (wd a)from rfl,bS,show A.cells 2 (.agg (wd b))=some (wd b)from rfl,bS,show A.aj 0 (wd a)=some (.int .u64 ((a / 18446744073709551616:Nat):Int))from rfl,bS,show A.aj 0 (wd b)=some (.int .u64 ((b / 18446744073709551616:Nat):Int))from rfl,bS,
  show A.lss (.int .u64 ((a / 18446744073709551616:Nat):Int)) (.int .u64 ((b / 18446744073709551616:Nat):Int))=some (.bool (decide (((a / 18446744073709551616:Nat):Int)<((b / 18446744073709551616:Nat):Int))))from rfl,bS]
 by_cases h1:a / 18446744073709551616<b / 18446744073709551616
 ·rw[decide_eq_true (show((a / 18446744073709551616:Nat):Int)<((b / 18446744073709551616:Nat):Int) by omega)]
  rw[decide_eq_true (show a<b by omega)]
  exact bC _ _
 rw[decide_eq_false (show ¬((a / 18446744073709551616:Nat):Int)<((b / 18446744073709551616:Nat):Int) by omega)]
 have hq:A.eql .i (.int .u64 ((a / 18446744073709551616:Nat):Int)) (.int .u64 ((b / 18446744073709551616:Nat):Int))=some (.bool (decide (((a / 18446744073709551616:Nat):Int)=((b / 18446744073709551616:Nat):Int)))):=by
  simp only[A.eql,A.dZ,A.mI,if_true,Option.map_some]
  congr 2
 simp only[gF,bS]
 rw[hq]
 by_cases h2:a / 18446744073709551616=b / 18446744073709551616
 ·rw[decide_eq_true (show((a / 18446744073709551616:Nat):Int)=((b / 18446744073709551616:Nat):Int) by omega)]
  simp only[gT,bS]
  rw[show A.aj 1 (wd a)=some (.int .u64 ((a % 18446744073709551616:Nat):Int))from rfl,bS,show A.aj 1 (wd b)=some (.int .u64 ((b % 18446744073709551616:Nat):Int))from rfl,bS,show A.lss (.int .u64 ((a % 18446744073709551616:Nat):Int)) (.int .u64 ((b % 18446744073709551616:Nat):Int))=some (.bool (decide (((a % 18446744073709551616:Nat):Int)<((b % 18446744073709551616:Nat):Int))))from rfl,bS]
  rw[show decide (((a % 18446744073709551616:Nat):Int)<((b % 18446744073709551616:Nat):Int))=decide (a<b)from decide_eq_decide.2 (by omega)]
  exact bC _ _
 ·rw[decide_eq_false (show ¬((a / 18446744073709551616:Nat):Int)=((b / 18446744073709551616:Nat):Int) by omega)]
  simp only[ux,bS]
  rw[decide_eq_false (show ¬a<b by omega)]
  exact bC _ _
end
section
set_option maxRecDepth 100000
open HP
theorem akS {r:AV→AV→AV→AV→Heap→Option (AV×Heap)} {x y z t v:AV} {σ:Heap} (h:[x,y,z,t].any A.own=false) (e:r x y z t σ=some (v,σ)):A.wrap true [] .k (A.vB r) [x,y,z,t] σ=some (v,σ):=by
 refine wrap_eq h ?_ (iQ _)
 rw[show A.bW [] [x,y,z,t]=[x,y,z,t] by simp [A.bW]]
 exact e
theorem Bs {a b:Nat} (h:a+b<9223372036854775808):A.add (.int .i64 (a:Int)) (.int .i64 (b:Int))=some (.int .i64 ((a+b:Nat):Int)):=by
 rw[kN,←Int.natCast_add,wrap64 (by unfold aN;omega)]
theorem ahq {a b:Nat} (h:a*b<9223372036854775808):A.mul (.int .i64 (a:Int)) (.int .i64 (b:Int))=some (.int .i64 ((a*b:Nat):Int)):=by
 rw[wG,←Int.natCast_mul,wrap64 (by unfold aN;omega)]
theorem PX {a b:Nat} (h:b≤a) (h2:a<9223372036854775808):A.sub (.int .i64 (a:Int)) (.int .i64 (b:Int))=some (.int .i64 ((a-b:Nat):Int)):=by
 rw[pE,wrap64 (by unfold aN;omega)];congr 2;omega
theorem YM {a:Nat} (h:a<9223372036854775808):A.quo (.int .i64 (a:Int)) (.int .i64 2)=some (.int .i64 ((a / 2:Nat):Int)):=by
 rw[aaN _ _ (by decide),show((a:Int)).tdiv 2=((a / 2:Nat):Int)from by rw[Int.tdiv_eq_ediv_of_nonneg (by omega)];omega,wrap64 (by unfold aN;omega)]
def DS (a b:Int) (n d:Nat):Int:=if a≤b then a+((2*(b-a).toNat*n+d) / (2*d):Nat)else a-((2*(a-b).toNat*n+d-1) / (2*d):Nat)
theorem nD (n:Nat):A.cells 2 (.agg (wd n))=some (wd n):=rfl
theorem mV (n:Nat):A.ay 0 2 (wd n)=some (.agg (wd n)):=rfl
theorem oT (n:Nat):A.splice 0 (wd n) [(AV.int .u64 0),(AV.int .u64 0)]=some (wd n):=rfl
theorem MJ (n:Nat):((A.lb (.lbx (wd n))).bind fun c=>A.ay 0 2 c)=some (.agg (wd n)):=rfl
theorem afo (k:Nat):A.mul (.int .i64 2) (.int .i64 (k:Int))=some (.int .i64 (IntKind.i64.wrap (2*(k:Int)))):=rfl
theorem Fh {k:Nat} (h:k<4611686018427387904):A.mul (.int .i64 2) (.int .i64 (k:Int))=some (.int .i64 ((2*k:Nat):Int)):=by
 rw[afo,wrap64 (by unfold aN;omega)];congr 2
theorem akN {d X K m:Nat} (hd:0<d) (hd2:d<100000000000000000000000000) (hm2:m≤65535) (hX:X≤200000*d) (hK:K≤m) (hle:∀k:Nat,k≤K↔d*(2*k)≤X) (σ:Heap):∃q,A.loop ((fun v12 sE=>
    (A.lss (v12.getD 2 AV.undef) (v12.getD 3 AV.undef)).bind fun cU=>
    A.cond cU (
     (A.add (v12.getD 2 AV.undef) (v12.getD 3 AV.undef)).bind fun cz=>
     (A.add cz aG).bind fun cG=>
     (A.quo cG (AV.int .i64 2)).bind fun bK=>
     ((A.lb (v12.getD 1 AV.undef)).bind fun gM=>A.ay 0 2 gM).bind fun dg=>
     ((A.lb (v12.getD 0 AV.undef)).bind fun kC=>A.ay 0 2 kC).bind fun dh=>
     (A.mul (AV.int .i64 2) bK).bind fun eP=>
     (A.quiet (qc [dh,eP] sE) sE).bind fun x24=>
     (A.quiet (EN [dg,x24] sE) sE).bind fun x25=>
     (A.cond x25 (
      (A.sub bK aG).bind fun dK=>
      some ([(v12.getD 0 AV.undef),(v12.getD 1 AV.undef),(v12.getD 2 AV.undef),dK],sE)) (
      some ([(v12.getD 0 AV.undef),(v12.getD 1 AV.undef),bK,(v12.getD 3 AV.undef)],sE))).bind fun kn=>
     some (AX.normal,[(kn.1.getD 0 AV.undef),(kn.1.getD 1 AV.undef),(kn.1.getD 2 AV.undef),(kn.1.getD 3 AV.undef)],kn.2)) (
     some (AX.exit 0,[(v12.getD 0 AV.undef),(v12.getD 1 AV.undef),(v12.getD 2 AV.undef),(v12.getD 3 AV.undef)],sE)))) [.lbx (wd d),.lbx (wd X),.int .i64 0,.int .i64 (m:Int)] σ=some q∧∃w,q=(.exit 0,[.lbx (wd d),.lbx (wd X),.int .i64 (K:Int),w],σ):=by
 refine mT (fun z v w=>∃lo hi:Nat,v=[.lbx (wd d),.lbx (wd X),.int .i64 (lo:Int),.int .i64 (hi:Int)]∧w=σ∧z=hi-lo∧lo≤K∧K≤hi∧hi≤m) ?_ (n:=m) ⟨0,m,rfl,rfl,by omega,by omega,hK,Nat.le_refl _⟩
 rintro z v w ⟨lo,hi,rfl,rfl,hz,h1,h2,h3⟩
 simp only[List.getD_cons_zero,List.getD_cons_succ]
 rw[kO,bS]
 by_cases hlt:lo<hi
 ·rw[decide_eq_true (by omega),cQ,Bs (by omega),bS,show A.add (.int .i64 ((lo+hi:Nat):Int)) (.int .i64 1)=some (.int .i64 ((lo+hi+1:Nat):Int))from Bs (b:=1) (by omega),bS,YM (by omega),bS,MJ,bS,MJ,bS,Fh (by omega),bS]
  generalize hk:(lo+hi+1) / 2=k
  have hk1:lo<k:=by omega
  have hk2:k≤hi:=by omega
  have hdk:d*(2*k)≤131070*d:=by rw[Nat.mul_comm];exact Nat.mul_le_mul (by omega) (Nat.le_refl _)
  rw[quiet_of (wo (by omega) (by omega) (by omega) w),bS,quiet_of (ZE X (d*(2*k)) w),bS]
  by_cases hc:X<d*(2*k)
  ·rw[decide_eq_true hc,cQ,show A.sub (.int .i64 (k:Int)) (.int .i64 1)=some (.int .i64 ((k-1:Nat):Int))from PX (b:=1) (by omega) (by omega),bS,bS]
   have hnk:¬k≤K:=fun q=>by have:=(hle k).1 q;omega
   exact .inl ⟨k-1-lo,_,_,by omega,rfl,lo,k-1,rfl,rfl,rfl,h1,by omega,by omega⟩
  ·rw[decide_eq_false hc,cB,bS]
   have hkK:k≤K:=(hle k).2 (by omega)
   exact .inl ⟨hi-k,_,_,by omega,rfl,k,hi,rfl,rfl,rfl,hkK,h2,h3⟩
 ·rw[decide_eq_false (by omega),cB]
  refine .inr ⟨_,rfl,by simp,.int .i64 (hi:Int),?_⟩
  rw[show lo=K by omega]
theorem ajB {d X K m:Nat} (hd:0<d) (hd2:d<100000000000000000000000000) (hm2:m≤65535) (hX:X≤200000*d) (hK:K≤m) (hle:∀k:Nat,k<K↔d*(2*k+1)<X) (σ:Heap):∃q,A.loop ((fun je sH=>
    (A.lss (je.getD 2 AV.undef) (je.getD 3 AV.undef)).bind fun ff=>
    A.cond ff (
     (A.add (je.getD 2 AV.undef) (je.getD 3 AV.undef)).bind fun cZ=>
     (A.quo cZ (AV.int .i64 2)).bind fun dW=>
     ((A.lb (je.getD 0 AV.undef)).bind fun lR=>A.ay 0 2 lR).bind fun fJ=>
     (A.mul (AV.int .i64 2) dW).bind fun eR=>
     (A.add eR aG).bind fun ef=>
     (A.quiet (qc [fJ,ef] sH) sH).bind fun fK=>
     ((A.lb (je.getD 1 AV.undef)).bind fun gZ=>A.ay 0 2 gZ).bind fun ig=>
     (A.quiet (EN [fK,ig] sH) sH).bind fun eA=>
     (A.cond eA (
      (A.add dW aG).bind fun gP=>
      some ([(je.getD 0 AV.undef),(je.getD 1 AV.undef),gP,(je.getD 3 AV.undef)],sH)) (
      some ([(je.getD 0 AV.undef),(je.getD 1 AV.undef),(je.getD 2 AV.undef),dW],sH))).bind fun cE=>
     some (AX.normal,[(cE.1.getD 0 AV.undef),(cE.1.getD 1 AV.undef),(cE.1.getD 2 AV.undef),(cE.1.getD 3 AV.undef)],cE.2)) (
     some (AX.exit 2,[(je.getD 0 AV.undef),(je.getD 1 AV.undef),(je.getD 2 AV.undef),(je.getD 3 AV.undef)],sH)))) [.lbx (wd d),.lbx (wd X),.int .i64 0,.int .i64 (m:Int)] σ=some q∧∃w,q=(.exit 2,[.lbx (wd d),.lbx (wd X),.int .i64 (K:Int),w],σ):=by
 refine mT (fun z v w=>∃lo hi:Nat,v=[.lbx (wd d),.lbx (wd X),.int .i64 (lo:Int),.int .i64 (hi:Int)]∧w=σ∧z=hi-lo∧lo≤K∧K≤hi∧hi≤m) ?_ (n:=m) ⟨0,m,rfl,rfl,by omega,by omega,hK,Nat.le_refl _⟩
 rintro z v w ⟨lo,hi,rfl,rfl,hz,h1,h2,h3⟩
 simp only[List.getD_cons_zero,List.getD_cons_succ]
 rw[kO,bS]
 by_cases hlt:lo<hi
 ·rw[decide_eq_true (by omega),cQ,Bs (by omega),bS,YM (by omega),bS,MJ,bS,Fh (by omega),bS]
  generalize hk:(lo+hi) / 2=k
  have hk1:lo≤k:=by omega
  have hk2:k<hi:=by omega
  have hdk:d*(2*k+1)≤131071*d:=by rw[Nat.mul_comm];exact Nat.mul_le_mul (by omega) (Nat.le_refl _)
  rw[show A.add (.int .i64 ((2*k:Nat):Int)) (.int .i64 1)=some (.int .i64 ((2*k+1:Nat):Int))from Bs (b:=1) (by omega),bS,quiet_of (wo (by omega) (by omega) (by omega) w),bS,MJ,bS,quiet_of (ZE (d*(2*k+1)) X w),bS]
  by_cases hc:d*(2*k+1)<X
  ·rw[decide_eq_true hc,cQ,show A.add (.int .i64 (k:Int)) (.int .i64 1)=some (.int .i64 ((k+1:Nat):Int))from Bs (b:=1) (by omega),bS,bS]
   have hkK:k<K:=(hle k).2 hc
   exact .inl ⟨hi-(k+1),_,_,by omega,rfl,k+1,hi,rfl,rfl,rfl,by omega,h2,h3⟩
  ·rw[decide_eq_false hc,cB,bS]
   have hnk:¬k<K:=fun q=>hc ((hle k).1 q)
   exact .inl ⟨k-lo,_,_,by omega,rfl,lo,k,rfl,rfl,rfl,h1,by omega,by omega⟩
 ·rw[decide_eq_false (by omega),cB]
  refine .inr ⟨_,rfl,by simp,.int .i64 (hi:Int),?_⟩
  rw[show lo=K by omega]
theorem ai9 {a b:Int} (ha:0≤a) (ha2:a≤65535) (hb:0≤b) (yU:b≤65535) {n d:Nat} (hd:0<d) (hnd:n≤d) (hd2:d<100000000000000000000000000) (σ:Heap):Ou [.int .i64 a,.int .i64 b,.agg (wd n),.agg (wd d)] σ=some (.int .i64 (DS a b n d),σ):=by
 have run:∃q,Oy (.int .i64 a) (.int .i64 b) (.agg (wd n)) (.agg (wd d)) σ=some q∧q=(.int .i64 (DS a b n d),σ):=by
  unfold Oy DS
  rw[nD,bS,nD,bS,rR,bS]
  by_cases hab:a≤b
  ·rw[decide_eq_true hab,cQ,if_pos hab]
   obtain⟨m,hm⟩:∃m:Nat,b-a=m:=⟨(b-a).toNat,by omega⟩
   have hm2:m≤65535:=by omega
   have b1:2*m*n≤131070*d:=Nat.mul_le_mul (by omega) hnd
   have b2:n*(2*m)=2*m*n:=Nat.mul_comm _ _
   rw[pE,wrap64 (by unfold aN;omega),hm,bS,mV,bS,Fh (by omega),bS,quiet_of (wo (by omega) (by omega) (by omega) σ),bS,mV,bS,quiet_of (aly (by omega) σ),bS,nD,bS,oT,bS]
   rw[Int.toNat_natCast,b2]
   generalize hX:2*m*n+d=X
   have hK:X / (2*d)≤m:=by
    refine Nat.lt_succ_iff.1 ((Nat.div_lt_iff_lt_mul (by omega)).2 ?_)
    have:m*n≤m*d:=Nat.mul_le_mul (Nat.le_refl _) hnd
    have e1:2*m*n=2*(m*n):=Nat.mul_assoc _ _ _
    have e2:(m+1)*(2*d)=2*(m*d)+2*d:=by rw[Nat.add_mul,Nat.mul_left_comm];omega
    show X<(m+1)*(2*d)
    omega
   generalize Ts:X / (2*d)=K at hK
   have hle:∀k:Nat,k≤K↔d*(2*k)≤X:=fun k=>by
    rw[←Ts,Nat.le_div_iff_mul_le (by omega),show k*(2*d)=d*(2*k) by rw[Nat.mul_left_comm,Nat.mul_left_comm d];congr 1;exact Nat.mul_comm _ _]
   refine FL (akN hd hd2 hm2 (by omega) hK hle σ) ?_
   ·rintro q ⟨w,rfl⟩
    simp only[mJ,List.getD_cons_zero,List.getD_cons_succ]
    rw[kN,wrap64 (by unfold aN;omega),bS]
    exact⟨_,bC _ _,rfl⟩
  ·rw[decide_eq_false hab,cB,if_neg hab]
   obtain⟨m,hm⟩:∃m:Nat,a-b=m:=⟨(a-b).toNat,by omega⟩
   have hm2:m≤65535:=by omega
   have b1:2*m*n≤131070*d:=Nat.mul_le_mul (by omega) hnd
   have b2:n*(2*m)=2*m*n:=Nat.mul_comm _ _
   rw[pE,wrap64 (by unfold aN;omega),hm,bS,mV,bS,Fh (by omega),bS,wo (by omega) (by omega) (by omega) σ,bS,nD,bS,oT,bS]
   rw[Int.toNat_natCast,b2]
   generalize hX:2*m*n=X
   have hK:(X+d-1) / (2*d)≤m:=by
    refine Nat.lt_succ_iff.1 ((Nat.div_lt_iff_lt_mul (by omega)).2 ?_)
    have:m*n≤m*d:=Nat.mul_le_mul (Nat.le_refl _) hnd
    have e1:2*m*n=2*(m*n):=Nat.mul_assoc _ _ _
    have e2:(m+1)*(2*d)=2*(m*d)+2*d:=by rw[Nat.add_mul,Nat.mul_left_comm];omega
    show X+d-1<(m+1)*(2*d)
    omega
   generalize Ts:(X+d-1) / (2*d)=K at hK
   have hle:∀k:Nat,k<K↔d*(2*k+1)<X:=fun k=>by
    have q:=Nat.le_div_iff_mul_le (k:=2*d) (x:=k+1) (y:=X+d-1) (by omega)
    rw[Ts]at q
    have e:(k+1)*(2*d)=d*(2*k+1)+d:=by rw[Nat.mul_add,Nat.add_mul,Nat.mul_left_comm,Nat.mul_left_comm d];rw[Nat.mul_comm k d];omega
    constructor
    ·intro h;have:=q.1 h;omega
    ·intro h;exact q.2 (by omega)
   refine FL (ajB hd hd2 hm2 (by omega) hK hle σ) ?_
   ·rintro q ⟨w,rfl⟩
    simp only[mJ,List.getD_cons_zero,List.getD_cons_succ]
    rw[pE,wrap64 (by unfold aN;omega),bS]
    exact⟨_,bC _ _,rfl⟩
 obtain⟨q,h1,rfl⟩:=run
 exact akS rfl h1
end
section
set_option maxRecDepth 100000
noncomputable def G4 (a0:Int) (a1:Int):Option Int:=
 (IF a0 a1).bind fun x1=>
 (IG a0 a1).bind fun x2=>
 (show Option Int from
   if x2<0 then
    some (IntKind.i64.wrap (x1-1))
   else
   some x1).bind fun j4=>
 some j4
theorem aeg {a0:Int} {a1:Int} {σ:Heap} {r:Int} (h:G4 a0 a1=some r):OM [(AV.int .i64 a0),(AV.int .i64 a1)] σ=some ((AV.int .i64 r),σ):=by
 refine uQ (f:=OU) (y0:=(AV.int .i64 a0)) (y1:=(AV.int .i64 a1)) (enc:=fun r:Int=>(AV.int .i64 r)) (T:=G4 a0 a1) rfl rfl ?_ r h
 unfold OU G4
 refine kZ (fun x1:Int=>(AV.int .i64 x1)) (fun x1 hx1=>alA hx1) (fun x1 hx1=>?_)
 refine kZ (fun x2:Int=>(AV.int .i64 x2)) (fun x2 hx2=>alC hx2) (fun x2 hx2=>?_)
 refine aq _ rfl ?_
 refine MV (ω:=Int) (fun j4 a=>a=(([(AV.int .i64 j4)]:List AV),σ)) (
   by
    refine kY (p:=x2<0) (fun c3=>?_) (fun c3=>?_)
    ·refine aq _ rfl ?_
     exact bZ rfl
    exact bZ rfl
   ) (fun j4 a ha=>?_)
 subst ha
 exact eD _ (bC _ _) ⟨rfl,rfl⟩
noncomputable def G5 (a0:Int) (a1:Int):Option Int:=
 (G4 (IntKind.i64.wrap (IntKind.i64.wrap (2*a0)+a1)) (IntKind.i64.wrap (2*a1))).bind fun r1=>
 some r1
theorem aeh {a0:Int} {a1:Int} {σ:Heap} {r:Int} (h:G5 a0 a1=some r):ON [(AV.int .i64 a0),(AV.int .i64 a1)] σ=some ((AV.int .i64 r),σ):=by
 refine uQ (f:=OV) (y0:=(AV.int .i64 a0)) (y1:=(AV.int .i64 a1)) (enc:=fun r:Int=>(AV.int .i64 r)) (T:=G5 a0 a1) rfl rfl ?_ r h
 unfold OV G5
 refine aq _ rfl<|aq _ rfl<|aq _ rfl ?_
 refine kZ (fun r1:Int=>((AV.int .i64 r1),σ)) (fun r1 kQ=>aeg kQ) (fun r1 kQ=>?_)
 exact eD _ (bC _ _) ⟨rfl,rfl⟩
noncomputable def Ks (a0:Int):Option Bool:=
 some (aR a0 0 36000000)
theorem GV {a0:Int} {σ:Heap} {r:Bool} (h:Ks a0=some r):CQ [(AV.int .i64 a0)] σ=some ((AV.bool r),σ):=by
 refine yp (f:=Ow) (y0:=(AV.int .i64 a0)) (enc:=fun r:Bool=>(AV.bool r)) (T:=Ks a0) rfl rfl ?_ r h
 unfold Ow Ks
 refine aq _ (jT a0 0 36000000 σ) ?_
 exact eD _ (bC _ _) ⟨rfl,rfl⟩
noncomputable def CR (a0:(List Int)):Option Int:=
 kW a0 (fun(i8:Nat) e7 (s1:Unit)=>(show Option (Lr Unit Unit Int)from
   if(!(aR e7 0 65535))=true then
    some (.ret 1)
   else
   some (.go ()))) (fun s1=>some ()) () (fun b2=>
  some 0) (fun b2=>
  some b2)
theorem UR {a0:(List Int)} {σ:Heap} {r:Int} (h:CR a0=some r):Kp [(sl 1 rT a0)] σ=some ((AV.int .i64 r),σ):=by
 refine yp (f:=Ox) (y0:=(sl 1 rT a0)) (enc:=fun r:Int=>(AV.int .i64 r)) (T:=CR a0) rfl rfl ?_ r h
 unfold Ox CR
 refine aq _ (fE _ _ _) ?_
 refine qx (B:=Unit) (R:=Int) (fun(i8:Nat) (s1:Unit) v w3=>v=[ah,(AV.int .i64 (i8:Int))]∧σ=w3) (fun(b2:Unit) (q:LS)=>∃u2 u7,q=((AX.exit 0),([u2,u7]:List AV),σ)) (fun(b2:Int) (q:LS)=>∃u7,q=(AX.ret,([(AV.int .i64 b2),u7]:List AV),σ)) ?_ ?_ ⟨rfl,rfl⟩ ?_ ?_
 ·intro Ar i8 e7 s1 v w3 nY hI
  obtain⟨rfl,rfl⟩:=hI
  refine aq _ (jF nY)<|qC<|aq _ (iO nY)<|aq _ rfl<|aq _ (aeW e7 σ)<|aq _ rfl ?_
  refine ji (c:=(!(aR e7 0 65535))) (fun c9=>?_) (fun c9=>?_)
  ·exact bZ (iw (by simp) ⟨_,rfl⟩)
  refine aq _ (gd nY Ar) ?_
  exact bZ (qy ⟨rfl,rfl⟩)
 ·intro hl s1 v w3 hI
  obtain⟨rfl,rfl⟩:=hI
  refine aq _ (jD _)<|qB ?_
  exact bZ ⟨by simp,⟨_,_,rfl⟩⟩
 ·intro hl b2 q hq
  obtain⟨u2,u7,rfl⟩:=hq
  refine jW rfl ?_
  exact eD _ (bC _ _) ⟨rfl,rfl⟩
 ·intro hl b2 q hq
  obtain⟨u7,rfl⟩:=hq
  refine vg rfl<|jW rfl ?_
  exact eD _ (bC _ _) ⟨rfl,rfl⟩
noncomputable def GO (a0:gB):Option Int:=
 (CR ([a0.dA,a0.to]:(List Int))).bind fun r1=>
 if ¬(r1=0)then
  some r1
 else
 if((((!((aR a0.start 0 36000000)))||(!((aR a0.delay 0 36000000))))||(!((aR a0.time 0 36000000))))||(!((aR (IntKind.i64.wrap (IntKind.i64.wrap (a0.start+a0.delay)+a0.time)) 0 36000000))))=true then
  some 1
 else
 some (oR a0.fu)
theorem acR {a0:gB} {σ:Heap} {r:Int} (h:GO a0=some r):N6 [(AV.agg (fG a0))] σ=some ((AV.int .i64 r),σ):=by
 refine yp (f:=N8) (y0:=(AV.agg (fG a0))) (enc:=fun r:Int=>(AV.int .i64 r)) (T:=GO a0) rfl rfl ?_ r h
 unfold N8 GO
 refine aq _ rfl<|aq _ rfl<|aq _ rfl<|aq (sl 1 rT ([a0.dA,a0.to]:(List Int))) rfl ?_
 refine kZ (fun r1:Int=>((AV.int .i64 r1),σ)) (fun r1 kQ=>UR kQ) (fun r1 kQ=>?_)
 refine aq _ (gC _ _ _) ?_
 refine kY (p:=¬(r1=0)) (fun c3=>?_) (fun c3=>?_)
 ·exact eD _ (bC _ _) ⟨rfl,rfl⟩
 refine aq _ rfl<|aq _ (GV (σ:=σ) (r:=(aR a0.start 0 36000000)) rfl)<|aq _ rfl<|eE (AV.int .i64 a0.delay) (fun hg=>rfl)<|eE (AV.bool ((aR a0.delay 0 36000000))) (fun hg=>by(try rw[hg]);exact(quiet_of (GV (σ:=σ) (r:=(aR a0.delay 0 36000000)) rfl)))<|eE (AV.bool (!((aR a0.delay 0 36000000)))) (fun hg=>by(try rw[hg]);exact rfl)<|aq _ (pg _ _)<|eE (AV.int .i64 a0.time) (fun hg=>rfl)<|eE (AV.bool ((aR a0.time 0 36000000))) (fun hg=>by(try rw[hg]);exact(quiet_of (GV (σ:=σ) (r:=(aR a0.time 0 36000000)) rfl)))<|eE (AV.bool (!((aR a0.time 0 36000000)))) (fun hg=>by(try rw[hg]);exact rfl)<|aq _ (pg _ _)<|eE (AV.int .i64 a0.start) (fun hg=>rfl)<|eE (AV.int .i64 a0.delay) (fun hg=>rfl)<|eE (AV.int .i64 (IntKind.i64.wrap (a0.start+a0.delay))) (fun hg=>by(try rw[hg]);exact rfl)<|eE (AV.int .i64 a0.time) (fun hg=>rfl)<|eE (AV.int .i64 (IntKind.i64.wrap (IntKind.i64.wrap (a0.start+a0.delay)+a0.time))) (fun hg=>by(try rw[hg]);exact rfl)<|eE (AV.bool ((aR (IntKind.i64.wrap (IntKind.i64.wrap (a0.start+a0.delay)+a0.time)) 0 36000000))) (fun hg=>by(try rw[hg]);exact(quiet_of (GV (σ:=σ) (r:=(aR (IntKind.i64.wrap (IntKind.i64.wrap (a0.start+a0.delay)+a0.time)) 0 36000000)) rfl)))<|eE (AV.bool (!((aR (IntKind.i64.wrap (IntKind.i64.wrap (a0.start+a0.delay)+a0.time)) 0 36000000)))) (fun hg=>by(try rw[hg]);exact rfl)<|aq _ (pg _ _) ?_
 refine ji (c:=((((!((aR a0.start 0 36000000)))||(!((aR a0.delay 0 36000000))))||(!((aR a0.time 0 36000000))))||(!((aR (IntKind.i64.wrap (IntKind.i64.wrap (a0.start+a0.delay)+a0.time)) 0 36000000))))) (fun c2=>?_) (fun c2=>?_)
 ·exact eD _ (bC _ _) ⟨rfl,rfl⟩
 refine aq _ rfl<|aq _ (UY a0.fu σ) ?_
 exact eD _ (bC _ _) ⟨rfl,rfl⟩
noncomputable def GZ (a0:Int) (a1:Int):Option (Int×Int):=
 (CR ([a0,a1]:(List Int))).bind fun r1=>
 if ¬(r1=0)then
  some (0,r1)
 else
 (G5 (IntKind.i64.wrap (a0*a1)) 65535).bind fun r2=>
 some (r2,0)
theorem adT {a0:Int} {a1:Int} {σ:Heap} {r:(Int×Int)} (h:GZ a0 a1=some r):CS [(AV.int .i64 a0),(AV.int .i64 a1)] σ=some ((AV.aH [(AV.int .i64 r.1),(AV.int .i64 r.2)]),σ):=by
 refine uQ (f:=OG) (y0:=(AV.int .i64 a0)) (y1:=(AV.int .i64 a1)) (enc:=fun r:(Int×Int)=>(AV.aH [(AV.int .i64 r.1),(AV.int .i64 r.2)])) (T:=GZ a0 a1) rfl rfl ?_ r h
 unfold OG GZ
 refine aq (sl 1 rT ([a0,a1]:(List Int))) rfl ?_
 refine kZ (fun r1:Int=>((AV.int .i64 r1),σ)) (fun r1 kQ=>UR kQ) (fun r1 kQ=>?_)
 refine aq _ (gC _ _ _) ?_
 refine kY (p:=¬(r1=0)) (fun c3=>?_) (fun c3=>?_)
 ·exact eD _ (bC _ _) ⟨rfl,rfl⟩
 refine aq _ rfl ?_
 refine kZ (fun r2:Int=>((AV.int .i64 r2),σ)) (fun r2 tu=>aeh tu) (fun r2 tu=>?_)
 exact eD _ (bC _ _) ⟨rfl,rfl⟩
end
end Go.Proofs.YtooknfkholjpbaaGreat
