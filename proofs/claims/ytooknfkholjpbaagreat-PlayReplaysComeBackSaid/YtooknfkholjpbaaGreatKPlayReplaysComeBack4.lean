/- Parts of the proof of PlayReplaysComeBack, in order. -/
import Derived.Orders
import Derived.Below
import Derived.WalkKit
import Derived.Laws.StructEq
import Derived.Laws.Append
import Derived.Laws.AppendOwn
import Derived.Test.YtooknfkholjpbaaGreatRows
import Derived.KernelRfl
import Derived.Lib.Bytealg
import Derived.Sort.Defs
import Derived.Lib.BitFns
import Derived.Test.YtooknfkholjpbaaGreatShelf
import Derived.Laws.Externs
import Derived.Lib.Overlaps
import Derived.IntWalk
import Derived.Sort.Statements
import Derived.Shelf.SlSortCmp.WholeK
import Derived.Shelf.SlSortCmp.NoneTotal
import Derived.Sort.AssemblyPlain
import Derived.Lib.Strings
import Derived.Test.YtooknfkholjpbaaGreatKPlayReplaysComeBack3
namespace Go.Proofs.YtooknfkholjpbaaGreat
set_option linter.unusedVariables false
set_option linter.unusedSimpArgs false
set_option linter.unusedSectionVars false
section
set_option maxRecDepth 100000
noncomputable def aco:Fx:=⟨Tryz.prog,aF,A.tab (fun _ _=>none) [],(fun _ _ _=>none),[],[],8,[]⟩
theorem acj:Sound Tryz.prog aF 64 (A.wrap true [(.s 2)] .k (A.cK (NJ))):=
 Sound.wrap (Sound.tY (X:=aco) (fn:=Tryz.f64) (bL:=(.s .n (.s bz aU))) .K trivial (dD.of rfl aD.nil (fun _=>Sound.none)) Tryz.func64 Tryz.call64 (fun a0 σ=>by kernel_rfl)) _ _ _ rfl rfl
theorem acf:Sound Tryz.prog aF 64 CF:=yc acj Tryz.call64 aif
theorem aea:Sound Tryz.prog aF 37 Kw:=q1 [1,2,3,5,8,10] 129 (.s .n (.s .n (.s .n (.s (.s .n (.b (.l [1,2,3,27] [.exit 0] (.s .n (.s dI (.s (.b (.s .n (.s .n (.s (.s .n (.b (.l [1,2,3,5,38] [.exit 2] (.s .n (.s dI (.s (.b aU) .n)))))) .n)))) .n)))))) (.s (.s .n (.b (.l [1,2,3,66] [.exit 4] (.s .n (.s dI (.s (.b (.s .n aU)) .n)))))) (.s (.s .n (.b (.l [2,3,84] [.exit 6] (.s .n (.s dI (.s (.b (.s .n (.s .n (.s (.s .n (.b (.l [2,3,10,95] [.exit 8] (.s .n (.s dI (.s (.b (.s .n aU)) .n)))))) .n)))) .n)))))) aU)))))) (aD.cons (Sound.jl abM (.s 3) rfl) (aD.cons (Sound.jl acr (.s 4) rfl) (aD.cons ace (aD.cons (Sound.jl acg (.s 3) rfl) (aD.cons (Sound.jl abV (.s 3) rfl) (aD.cons acB (aD.cons (Sound.jl acq (.s 8) rfl) (aD.cons (Sound.jl acf (.s 2) rfl) aD.nil)))))))) Tryz.func37 Tryz.call37 (fun a0 σ=>by kernel_rfl) rfl rfl
noncomputable def agN:Fx:=⟨Tryz.prog,aF,A.tab (fun _ _=>none) [(36,Kk),(37,Kw),(38,EV),(39,Bm)],(fun _ _ _=>none),[1,8,10,12,14,15],[27],119,[]⟩
theorem agM:Sound Tryz.prog aF 10 (A.wrap true [yL] .k (A.cK (Ht))):=
 Sound.wrap (Sound.tY (X:=agN) (fn:=Tryz.f10) (bL:=(.s .n (.s (.s .n bz) (.s .n (.s .n (.s .n (.s .n (.s .n (.s (.s .n (.b (.l [1,46] [.exit 0] (.s .n (.s dI (.s (.b aU) .n)))))) (.s (.s .n (.b (.l [1,59] [.exit 2] (.s .n (.s dI (.s (.b (.s .n (.s .n (.b (.l [1,10,69] [.exit 4] (.s .n (.s dI (.s (.b aU) .n)))))))) .n)))))) (.s (.s .n (.b (.l [1,88] [.exit 6] (.s .n (.s dI (.s (.b (.s .n aU)) .n)))))) aU))))))))))) .K trivial (dD.of rfl (aD.cons ac0 (aD.cons aea (aD.cons OD (aD.cons VG aD.nil)))) (fun _=>Sound.none)) Tryz.func10 Tryz.call10 (fun a0 σ=>by kernel_rfl)) _ _ _ rfl rfl
theorem Wh:Sound Tryz.prog aF 10 CV:=agM
theorem acO:Sound Tryz.prog aF 42 Ke:=q1 [1] 53 (.s .n (.s bz (.s .n (.s .n (.s bz aU))))) (aD.cons rA aD.nil) Tryz.func42 Tryz.call42 (fun a0 σ=>by kernel_rfl) rfl rfl
theorem U6:Sound Tryz.prog aF 43 G6:=q1 [] 5 (.s .n aU) (aD.cons rA aD.nil) Tryz.func43 Tryz.call43 (fun a0 σ=>by kernel_rfl) rfl rfl
theorem Oh:Sound Tryz.prog aF 12 xW:=q1 [] 22 (.s .n (.s bz aU)) aD.nil Tryz.func12 Tryz.call12 (fun a0 σ=>by kernel_rfl) rfl rfl
noncomputable def abC (dyn:Nat→List AV→Heap→Option (AV×Heap)):Fx:=⟨Tryz.prog,aF,A.tab (fun _ _=>none) [],dyn,[],[],19,[]⟩
theorem abB (dyn:Nat→List AV→Heap→Option (AV×Heap)) (hd:∀f,Sound Tryz.prog aF f (dyn (aF.getD f 0))):Sound Tryz.prog aF 158 (A.wrap true [(.s 3)] .k (A.cQ (JX dyn))):=
 Sound.wrap (Sound.pI (X:=abC dyn) (fn:=Tryz.f158) (bL:=(.s .n (.s (.s .n (.b (.l [4,8] [.exit 0,.ret] (.s .n (.s dI (.s (.b (.s .n bz)) .n)))))) aU))) .F trivial (dD.of rfl aD.nil (hd)) Tryz.func158 Tryz.call158 (fun a0 a1 σ=>by kernel_rfl)) _ _ _ rfl rfl
theorem abA (dyn:Nat→List AV→Heap→Option (AV×Heap)) (hd:∀f,Sound Tryz.prog aF f (dyn (aF.getD f 0))):Sound Tryz.prog aF 158 (JW dyn):=abB dyn hd
noncomputable def abx (dyn:Nat→List AV→Heap→Option (AV×Heap)):Fx:=⟨Tryz.prog,aF,A.tab (fun _ _=>none) [(158,JW dyn)],dyn,[],[],9,[]⟩
theorem abw (dyn:Nat→List AV→Heap→Option (AV×Heap)) (hd:∀f,Sound Tryz.prog aF f (dyn (aF.getD f 0))):Sound Tryz.prog aF 102 (A.wrap true [(.s 3)] .k (A.cQ (JV dyn))):=
 Sound.wrap (Sound.pI (X:=abx dyn) (fn:=Tryz.f102) (bL:=(.s .n aU)) .F trivial (dD.of rfl (aD.cons (abA dyn hd) aD.nil) (hd)) Tryz.func102 Tryz.call102 (fun a0 a1 σ=>by kernel_rfl)) _ _ _ rfl rfl
theorem abv (dyn:Nat→List AV→Heap→Option (AV×Heap)) (hd:∀f,Sound Tryz.prog aF f (dyn (aF.getD f 0))):Sound Tryz.prog aF 102 (JU dyn):=abw dyn hd
theorem Um:Sound Tryz.prog aF 103 GN:=q2 [2] 9 (.s .n aU) aD.nil Tryz.func103 Tryz.call103 (fun a0 a1 σ=>by kernel_rfl) rfl rfl
noncomputable def acT:Fx:=⟨Tryz.prog,aF,A.tab (fun _ _=>none) [(102,JU (A.tab (fun _ _=>none) [(152,GN)])),(89,jE),(41,rC)],(A.tab (fun _ _=>none) [(152,GN)]),[2],[],36,[]⟩
theorem acR:Sound Tryz.prog aF 44 (A.wrap true [yL] .k (A.cQ (Kg))):=
 Sound.wrap (Sound.pI (X:=acT) (fn:=Tryz.f44) (bL:=(.s .n (.s .n (.s bz (.s .n (.s (.s .n (.b (.s .n (.c [6] .n (.s .n (.c [6] .n .n)))))) aU)))))) .F trivial (dD.of rfl (aD.cons (abv _ (sL (jj.cons (oJ Um (by kernel_rfl) rfl) jj.nil))) (aD.cons rA (aD.cons Bn aD.nil))) (sL (jj.cons (oJ Um (by kernel_rfl) rfl) jj.nil))) Tryz.func44 Tryz.call44 (fun a0 a1 σ=>by kernel_rfl)) _ _ _ rfl rfl
theorem acP:Sound Tryz.prog aF 44 Kf:=acR
noncomputable def ab7:Fx:=⟨Tryz.prog,aF,A.tab (fun _ _=>none) [],(fun _ _ _=>none),[],[],8,[]⟩
theorem ab5:Sound Tryz.prog aF 104 (A.wrap false [] .k (A.cK (EJ))):=
 Sound.wrap (Sound.tY (X:=ab7) (fn:=Tryz.f104) (bL:=(.s .n (.s bz aU))) .K trivial (dD.of rfl aD.nil (fun _=>Sound.none)) Tryz.func104 Tryz.call104 (fun a0 σ=>by kernel_rfl)) _ _ _ rfl rfl
theorem ab3:Sound Tryz.prog aF 104 EI:=yc ab5 Tryz.call104 aii
theorem ada:Sound Tryz.prog aF 57 Bj:=q1 [] 31 (.s .n (.s bz aU)) aD.nil Tryz.func57 Tryz.call57 (fun a0 σ=>by kernel_rfl) rfl rfl
theorem Ko:Sound Tryz.prog aF 63 vT:=q2 [2] 16 (.s .n (.s bz aU)) aD.nil Tryz.func63 Tryz.call63 (fun a0 a1 σ=>by kernel_rfl) rfl rfl
noncomputable def abt (dyn:Nat→List AV→Heap→Option (AV×Heap)):Fx:=⟨Tryz.prog,aF,A.tab (fun _ _=>none) [],dyn,[],[],49,[]⟩
theorem abr (dyn:Nat→List AV→Heap→Option (AV×Heap)) (hd:∀f,Sound Tryz.prog aF f (dyn (aF.getD f 0))):Sound Tryz.prog aF 243 (A.wrap true [(.s 11)] .k (A.lp (EG dyn))):=
 Sound.wrap (Sound.IJ (X:=abt dyn) (fn:=Tryz.f243) (bL:=(.s .n (.s .n (.s .n (.s (.b (.l [9,10] [.exit 0] (.s (.s .n dI) (.b (.s .n (.s .n (.c [9,10] .n .n))))))) aU))))) .F trivial (dD.of rfl aD.nil (hd)) Tryz.func243 Tryz.call243 (fun a0 a1 a2 σ=>by kernel_rfl)) _ _ _ rfl rfl
theorem abq (dyn:Nat→List AV→Heap→Option (AV×Heap)) (hd:∀f,Sound Tryz.prog aF f (dyn (aF.getD f 0))):Sound Tryz.prog aF 243 (EF dyn):=abr dyn hd
theorem UP:Sound Tryz.prog aF 244 CN:=q2 [2] 9 (.s .n aU) aD.nil Tryz.func244 Tryz.call244 (fun a0 a1 σ=>by kernel_rfl) rfl rfl
noncomputable def afB:Fx:=⟨Tryz.prog,aF,A.tab (fun _ _=>none) [(243,EF (A.tab (fun _ _=>none) [(177,CN)]))],(A.tab (fun _ _=>none) [(177,CN)]),[],[],11,[]⟩
theorem afy:Sound Tryz.prog aF 199 (A.wrap true [(.e 11 uh)] .k (A.cQ (KO))):=
 Sound.wrap (Sound.pI (X:=afB) (fn:=Tryz.f199) (bL:=(.s .n aU)) .F trivial (dD.of rfl (aD.cons (abq _ (sL (jj.cons (oJ UP (by kernel_rfl) rfl) jj.nil))) aD.nil) (sL (jj.cons (oJ UP (by kernel_rfl) rfl) jj.nil))) Tryz.func199 Tryz.call199 (fun a0 a1 σ=>by kernel_rfl)) _ _ _ rfl rfl
theorem afp:Sound Tryz.prog aF 199 E5:=afy
theorem afq:Sound Tryz.prog aF 200 Hg:=q1 [5,7] 40 (.s .n (.s .n (.s (.s .n (.b (.l [11] [.exit 0] (.s .n (.s dI (.s (.b (.s .n (.s .n (.b (.l [5,18] [.exit 2] (.s .n (.s dI (.s (.b (.s .n (.s .n (.c [5] .n .n)))) .n)))))))) .n)))))) aU))) aD.nil Tryz.func200 Tryz.call200 (fun a0 σ=>by kernel_rfl) rfl rfl
theorem ads:Sound Tryz.prog aF 202 UL:=q2 [2,3] 10 (.s .n aU) (aD.cons U4 aD.nil) Tryz.func202 Tryz.call202 (fun a0 a1 σ=>by kernel_rfl) rfl rfl
noncomputable def afA:Fx:=⟨Tryz.prog,aF,A.tab (fun _ _=>none) [(151,Hq),(199,E5),(200,Hg),(201,GM)],(A.tab (fun _ _=>none) [(297,UL)]),[11],[],42,[]⟩
theorem afx:Sound Tryz.prog aF 159 (A.wrap true [(.e 11 uh)] (.t [(.s 5),.k]) (A.cQ (KN))):=
 Sound.wrap (Sound.pI (X:=afA) (fn:=Tryz.f159) (bL:=(.s .n (.s (.s .n bz) (.s .n (.s bz (.s .n (.s (.s .n (.b (.lc [9] [.exit 0] (.s .n (.s dI (.b aU)))))) (.s .n aU)))))))) (.N (A.nn (.t [(.s 5),.k]))) (fun _ _ _ h=>Dj _ _ _ rfl h) (dD.of rfl (aD.cons Wg (aD.cons afp (aD.cons afq (aD.cons abo aD.nil)))) (sL (jj.cons (oJ ads (by kernel_rfl) rfl) jj.nil))) Tryz.func159 Tryz.call159 (fun a0 a1 σ=>by kernel_rfl)) _ _ _ rfl rfl
theorem afo:Sound Tryz.prog aF 159 KH:=afx
theorem adP:Sound Tryz.prog aF 121 Ow:=q1 [1] 14 (.s .n aU) aD.nil Tryz.func121 Tryz.call121 (fun a0 σ=>by kernel_rfl) rfl rfl
theorem N2:Sound Tryz.prog aF 62 p5:=q3 [4,6,8] 32 (.s .n (.s .n aU)) (aD.cons adP aD.nil) Tryz.func62 Tryz.call62 (fun a0 a1 a2 σ=>by kernel_rfl) rfl rfl
theorem adt:Sound Tryz.prog aF 206 Ol:=q1 [] 5 (.s .n aU) (aD.cons rA aD.nil) Tryz.func206 Tryz.call206 (fun a0 σ=>by kernel_rfl) rfl rfl
theorem UW:Sound Tryz.prog aF 162 Kq:=q1 [] 15 (.s .n (.s (.s .n (.b (.l [2,7] [.exit 0,.ret] (.s .n (.s dI (.s (.b (.s .n bz)) .n)))))) aU)) (aD.cons adt aD.nil) Tryz.func162 Tryz.call162 (fun a0 σ=>by kernel_rfl) rfl rfl
theorem UU:Sound Tryz.prog aF 237 CO:=q1 [] 5 (.s .n aU) (aD.cons rA aD.nil) Tryz.func237 Tryz.call237 (fun a0 σ=>by kernel_rfl) rfl rfl
theorem acX:Sound Tryz.prog aF 236 N7:=q1 [1] 44 (.s .n (.s (.s .n bz) (.s bz aU))) (aD.cons UW (aD.cons UU (aD.cons Ux aD.nil))) Tryz.func236 Tryz.call236 (fun a0 σ=>by kernel_rfl) rfl rfl
theorem agy:Sound Tryz.prog aF 273 oc:=q1 [2] 6 (.s .n aU) aD.nil Tryz.func273 Tryz.call273 (fun a0 σ=>by kernel_rfl) rfl rfl
theorem Uy:Sound Tryz.prog aF 274 p6:=q2 [2,4] 24 (.s .n (.s .n aU)) (aD.cons aeG aD.nil) Tryz.func274 Tryz.call274 (fun a0 a1 σ=>by kernel_rfl) rfl rfl
theorem afr:Sound Tryz.prog aF 258 KI:=q3 [3,6,7,8,11,12] 131 (.s .n (.s .n (.s (.s .n (.b (.s .n (.j aU (.s .n (.j aU (.s .n (.j aU (.s .n (.j (.s bz aU) (.s .n (.j (.s .n (.s .n (.s (.b (.l [6,7,10] [.exit 1] (.s (.s .n dI) (.b .n)))) (.s .n (.s .n (.s .n aU)))))) .n)))))))))))) aU))) (aD.cons agy (aD.cons Uy aD.nil)) Tryz.func258 Tryz.call258 (fun a0 a1 a2 σ=>by kernel_rfl) rfl rfl
theorem acZ:Sound Tryz.prog aF 275 Kj:=q2 [2,3,4] 29 (.s .n (.s .n (.s .n aU))) (aD.cons aeF aD.nil) Tryz.func275 Tryz.call275 (fun a0 a1 σ=>by kernel_rfl) rfl rfl
theorem acY:Sound Tryz.prog aF 276 EP:=q2 [2,3] 24 (.s .n aU) aD.nil Tryz.func276 Tryz.call276 (fun a0 a1 σ=>by kernel_rfl) rfl rfl
theorem adN:Sound Tryz.prog aF 259 Ov:=q4 [6,7,10,15] 80 (.s .n (.s (.s .n (.j (.s .n (.s .n (.s .n (.s (.b (.l [7,10,11,12] [.exit 0] (.s (.s .n dI) (.b (.s .n (.s .n (.c [7,10,11,12] .n .n))))))) aU)))) .n)) (.s .n (.s .n (.s .n (.s (.b (.l [7,15,16,17] [.exit 2] (.s (.s .n dI) (.b (.s .n (.s .n (.c [7,15,16,17] .n .n))))))) aU)))))) (aD.cons Uy (aD.cons acZ (aD.cons acY aD.nil))) Tryz.func259 Tryz.call259 (fun a0 a1 a2 a3 σ=>by kernel_rfl) rfl rfl
theorem agx:Sound Tryz.prog aF 238 Pu:=q2 [2,6,7] 46 (.s .n (.s .n (.s (.b (.s .n (.j aU bz))) (.s .n aU)))) (aD.cons afr (aD.cons adN aD.nil)) Tryz.func238 Tryz.call238 (fun a0 a1 σ=>by kernel_rfl) rfl rfl
theorem agw:Sound Tryz.prog aF 191 Pt:=q2 [2] 21 (.s .n (.s (.s .n bz) aU)) (aD.cons acX (aD.cons UU (aD.cons Bn (aD.cons E1 (aD.cons agx aD.nil))))) Tryz.func191 Tryz.call191 (fun a0 a1 σ=>by kernel_rfl) rfl rfl
theorem Oi:Sound Tryz.prog aF 142 uK:=q2 [2] 16 (.s .n (.s .n aU)) (aD.cons agw aD.nil) Tryz.func142 Tryz.call142 (fun a0 a1 σ=>by kernel_rfl) rfl rfl
theorem aeI:Sound Tryz.prog aF 207 ON:=q2 [] 16 (.s .n (.s .n (.s (.s .n (.c [5] .n .n)) aU))) aD.nil Tryz.func207 Tryz.call207 (fun a0 a1 σ=>by kernel_rfl) rfl rfl
theorem aeJ:Sound Tryz.prog aF 163 OO:=q2 [] 12 (.s .n aU) (aD.cons aeI aD.nil) Tryz.func163 Tryz.call163 (fun a0 a1 σ=>by kernel_rfl) rfl rfl
theorem U5:Sound Tryz.prog aF 111 CQ:=q2 [] 18 (.s .n (.s (.s .n bz) aU)) (aD.cons UW (aD.cons aeJ aD.nil)) Tryz.func111 Tryz.call111 (fun a0 a1 σ=>by kernel_rfl) rfl rfl
theorem Uz:Sound Tryz.prog aF 82 Bh:=q4 [6,10,18] 124 (.s .n (.s .n (.s .n (.s (.s .n (.b (.l [6,10,11,12,13,14,35] [.exit 0] (.s .n (.s dI (.s (.b (.s .n (.s .n (.s .n (.s .n (.s (.s .n dI) (.s .n (.s (.s .n (.c [6,10,18,20] .n .n)) (.s .n (.s .n (.c [6,10,11,12,13,14] .n .n))))))))))) .n)))))) aU)))) (aD.cons Ko (aD.cons N2 (aD.cons Oi (aD.cons U5 aD.nil)))) Tryz.func82 Tryz.call82 (fun a0 a1 a2 a3 σ=>by kernel_rfl) rfl rfl
noncomputable def abU (dyn:Nat→List AV→Heap→Option (AV×Heap)):Fx:=⟨Tryz.prog,aF,A.tab (fun _ _=>none) [],dyn,[],[],19,[]⟩
theorem abR (dyn:Nat→List AV→Heap→Option (AV×Heap)) (hd:∀f,Sound Tryz.prog aF f (dyn (aF.getD f 0))):Sound Tryz.prog aF 204 (A.wrap true [(.s 8)] .k (A.cQ (J6 dyn))):=
 Sound.wrap (Sound.pI (X:=abU dyn) (fn:=Tryz.f204) (bL:=(.s .n (.s (.s .n (.b (.l [4,8] [.exit 0,.ret] (.s .n (.s dI (.s (.b (.s .n bz)) .n)))))) aU))) .F trivial (dD.of rfl aD.nil (hd)) Tryz.func204 Tryz.call204 (fun a0 a1 σ=>by kernel_rfl)) _ _ _ rfl rfl
theorem abO (dyn:Nat→List AV→Heap→Option (AV×Heap)) (hd:∀f,Sound Tryz.prog aF f (dyn (aF.getD f 0))):Sound Tryz.prog aF 204 (GJ dyn):=abR dyn hd
theorem PF:Sound Tryz.prog aF 161 uN:=q1 [1,2] 25 (.s .n (.s .n (.s .n (.s .n aU)))) aD.nil Tryz.func161 Tryz.call161 (fun a0 σ=>by kernel_rfl) rfl rfl
end
section
set_option maxRecDepth 100000
theorem Uq:Sound Tryz.prog aF 205 EN:=q2 [2] 8 (.s .n aU) aD.nil Tryz.func205 Tryz.call205 (fun a0 a1 σ=>by kernel_rfl) rfl rfl
noncomputable def adf:Fx:=⟨Tryz.prog,aF,A.tab (fun _ _=>none) [(204,GJ (A.tab (fun _ _=>none) [(349,EN)])),(161,uN)],(A.tab (fun _ _=>none) [(349,EN)]),[7,12,13,14],[],77,[]⟩
theorem adb:Sound Tryz.prog aF 160 (A.wrap false [] Ds (A.DZ (Of))):=
 Sound.wrap (Sound.abn (X:=adf) (fn:=Tryz.f160) (bL:=(.s .n (.s .n (.s .n (.s (.s .n (.c [7,12,13,14] (.s .n (.s .n (.c [7,12,13,14] .n .n))) .n)) (.s .n (.s (.s .n (.c [12,13,14] .n .n)) (.s (.s .n (.c [12,13] .n .n)) aU)))))))) .F trivial (dD.of rfl (aD.cons (abO _ (sL (jj.cons (oJ Uq (by kernel_rfl) rfl) jj.nil))) (aD.cons PF aD.nil)) (sL (jj.cons (oJ Uq (by kernel_rfl) rfl) jj.nil))) Tryz.func160 Tryz.call160 (fun a0 a1 a2 a3 a4 a5 σ=>by kernel_rfl)) _ _ _ rfl rfl
theorem ac8:Sound Tryz.prog aF 160 Bi:=adb
noncomputable def adg:Fx:=⟨Tryz.prog,aF,A.tab (fun _ _=>none) [(63,vT),(159,KH),(152,CU),(62,p5),(142,uK),(82,Bh),(160,Bi),(161,uN)],(fun _ _ _=>none),[11,18,21,24,25,27],[],239,[]⟩
theorem ade:Sound Tryz.prog aF 105 (A.wrap false [] .k (A.DY (Og))):=
 Sound.wrap (Sound.abm (X:=adg) (fn:=Tryz.f105) (bL:=(.s .n (.s .n (.s .n (.s .n (.s .n (.s .n (.s (.s .n (.b (.l [11,61] [.exit 0] (.s .n (.s dI (.s (.b (.s .n (.s .n (.s .n (.s .n (.s bz (.s .n (.s (.s .n (.c [11,18,23] .n (.s .n (.c [11,18,23] .n .n)))) .n)))))))) .n)))))) (.s (.s .n (.b (.lc [11] [.exit 2] (.s .n (.s dI (.b (.s .n (.s .n (.s (.s .n dI) (.s (.s .n (.c [11,24,25] aU .n)) .n)))))))))) (.s .n (.s .n (.c [] .n .n)))))))))))) .G trivial (dD.of rfl (aD.cons Ko (aD.cons afo (aD.cons Vh (aD.cons N2 (aD.cons Oi (aD.cons Uz (aD.cons ac8 (aD.cons PF aD.nil)))))))) (fun _=>Sound.none)) Tryz.func105 Tryz.call105 (fun a0 a1 a2 a3 a4 σ=>by kernel_rfl)) _ _ _ rfl rfl
theorem UK:Sound Tryz.prog aF 105 sH:=ade
noncomputable def ac5:Fx:=⟨Tryz.prog,aF,A.tab (fun _ _=>none) [(104,EI),(57,Bj),(105,sH)],(fun _ _ _=>none),[4],[5],66,[]⟩
theorem ac3:Sound Tryz.prog aF 45 (A.wrap false [] .k (A.cQ (Kn))):=
 Sound.wrap (Sound.pI (X:=ac5) (fn:=Tryz.f45) (bL:=(.s .n (.s .n (.s .n (.b (.l [4] [.ret] (.b (.s .n (.s (.s .n (.b (.l [4,6,7,21] [.exit 2] (.s .n (.s dI (.s (.b (.s .n (.s .n (.s .n (.c [4,6,7] .n .n))))) .n)))))) (.s bz aU)))))))))) .K trivial (dD.of rfl (aD.cons ab3 (aD.cons ada (aD.cons UK aD.nil))) (fun _=>Sound.none)) Tryz.func45 Tryz.call45 (fun a0 a1 σ=>by kernel_rfl)) _ _ _ rfl rfl
theorem UE:Sound Tryz.prog aF 45 ER:=ac3
noncomputable def abL (dyn:Nat→List AV→Heap→Option (AV×Heap)):Fx:=⟨Tryz.prog,aF,A.tab (fun _ _=>none) [],dyn,[],[],19,[]⟩
theorem abK (dyn:Nat→List AV→Heap→Option (AV×Heap)) (hd:∀f,Sound Tryz.prog aF f (dyn (aF.getD f 0))):Sound Tryz.prog aF 106 (A.wrap true [(.s 10)] .k (A.cQ (J3 dyn))):=
 Sound.wrap (Sound.pI (X:=abL dyn) (fn:=Tryz.f106) (bL:=(.s .n (.s (.s .n (.b (.l [4,8] [.exit 0,.ret] (.s .n (.s dI (.s (.b (.s .n bz)) .n)))))) aU))) .F trivial (dD.of rfl aD.nil (hd)) Tryz.func106 Tryz.call106 (fun a0 a1 σ=>by kernel_rfl)) _ _ _ rfl rfl
theorem abJ (dyn:Nat→List AV→Heap→Option (AV×Heap)) (hd:∀f,Sound Tryz.prog aF f (dyn (aF.getD f 0))):Sound Tryz.prog aF 106 (GI dyn):=abK dyn hd
noncomputable def ab1 (dyn:Nat→List AV→Heap→Option (AV×Heap)):Fx:=⟨Tryz.prog,aF,A.tab (fun _ _=>none) [],dyn,[],[],19,[]⟩
theorem abZ (dyn:Nat→List AV→Heap→Option (AV×Heap)) (hd:∀f,Sound Tryz.prog aF f (dyn (aF.getD f 0))):Sound Tryz.prog aF 108 (A.wrap true [(.s 11)] .k (A.cQ (J7 dyn))):=
 Sound.wrap (Sound.pI (X:=ab1 dyn) (fn:=Tryz.f108) (bL:=(.s .n (.s (.s .n (.b (.l [4,8] [.exit 0,.ret] (.s .n (.s dI (.s (.b (.s .n bz)) .n)))))) aU))) .F trivial (dD.of rfl aD.nil (hd)) Tryz.func108 Tryz.call108 (fun a0 a1 σ=>by kernel_rfl)) _ _ _ rfl rfl
theorem abX (dyn:Nat→List AV→Heap→Option (AV×Heap)) (hd:∀f,Sound Tryz.prog aF f (dyn (aF.getD f 0))):Sound Tryz.prog aF 108 (GL dyn):=abZ dyn hd
noncomputable def acL:Fx:=⟨Tryz.prog,aF,A.tab (fun _ _=>none) [(63,vT),(62,p5),(142,uK),(161,uN)],(fun _ _ _=>none),[7,10,11],[],82,[]⟩
theorem acJ:Sound Tryz.prog aF 110 (A.wrap false [] .k (A.vC (NY))):=
 Sound.wrap (Sound.abl (X:=acL) (fn:=Tryz.f110) (bL:=(.s .n (.s .n (.s .n (.s (.s .n (.b (.lc [7] [.exit 0] (.s .n (.s dI (.b (.s .n (.s .n (.s (.s .n dI) .n))))))))) .n))))) .G trivial (dD.of rfl (aD.cons Ko (aD.cons N2 (aD.cons Oi (aD.cons PF aD.nil)))) (fun _=>Sound.none)) Tryz.func110 Tryz.call110 (fun a0 a1 a2 a3 σ=>by kernel_rfl)) _ _ _ rfl rfl
theorem acH:Sound Tryz.prog aF 110 GQ:=acJ
theorem N0:Sound Tryz.prog aF 107 Bf:=q2 [2] 9 (.s .n aU) aD.nil Tryz.func107 Tryz.call107 (fun a0 a1 σ=>by kernel_rfl) rfl rfl
theorem N1:Sound Tryz.prog aF 109 Bg:=q2 [2] 9 (.s .n aU) aD.nil Tryz.func109 Tryz.call109 (fun a0 a1 σ=>by kernel_rfl) rfl rfl
noncomputable def adw:Fx:=⟨Tryz.prog,aF,A.tab (fun _ _=>none) [(106,GI (A.tab (fun _ _=>none) [(352,Bf),(354,Bg)])),(105,sH),(108,GL (A.tab (fun _ _=>none) [(352,Bf),(354,Bg)])),(63,vT),(110,GQ)],(A.tab (fun _ _=>none) [(352,Bf),(354,Bg)]),[],[],176,[]⟩
theorem adv:Sound Tryz.prog aF 46 (A.wrap false [] .k (A.lp (ET))):=
 Sound.wrap (Sound.IJ (X:=adw) (fn:=Tryz.f46) (bL:=(.s .n (.s (.s .n (.b (.s .n (.j (.s .n (.s .n aU)) (.s .n (.j (.s .n (.s .n aU)) .n)))))) (.s .n (.s .n (.s .n (.s (.s .n (.b (.s .n (.j (.s .n bz) (.s .n (.j (.s .n bz) (.s .n (.j (.s .n bz) (.s .n (.j (.s bz .n) (.s .n (.j (.s bz .n) (.s .n (.j (.s bz (.s .n (.s .n aU))) (.s .n (.c [] .n .n)))))))))))))))) (.s .n (.s (.s .n (.c [] .n .n)) aU))))))))) .K trivial (dD.of rfl (aD.cons (abJ _ (sL (jj.cons (oJ N0 (by kernel_rfl) rfl) (jj.cons (oJ N1 (by kernel_rfl) rfl) jj.nil)))) (aD.cons UK (aD.cons (abX _ (sL (jj.cons (oJ N0 (by kernel_rfl) rfl) (jj.cons (oJ N1 (by kernel_rfl) rfl) jj.nil)))) (aD.cons Ko (aD.cons acH aD.nil))))) (sL (jj.cons (oJ N0 (by kernel_rfl) rfl) (jj.cons (oJ N1 (by kernel_rfl) rfl) jj.nil)))) Tryz.func46 Tryz.call46 (fun a0 a1 a2 σ=>by kernel_rfl)) _ _ _ rfl rfl
theorem adu:Sound Tryz.prog aF 46 GX:=adv
noncomputable def adT:Fx:=⟨Tryz.prog,aF,A.tab (fun _ _=>none) [(41,rC),(42,Ke),(43,G6),(12,xW),(40,ya),(44,Kf),(45,ER),(46,GX)],(fun _ _ _=>none),[3],[6],66,[]⟩
theorem adR:Sound Tryz.prog aF 11 (A.wrap false [] .k (A.cQ (Ks))):=
 Sound.wrap (Sound.pI (X:=adT) (fn:=Tryz.f11) (bL:=(.s .n (.s .n (.s (.s .n bz) (.s .n (.s (.s .n bz) (.s .n (.s .n aU)))))))) .K trivial (dD.of rfl (aD.cons Bn (aD.cons acO (aD.cons U6 (aD.cons Oh (aD.cons E1 (aD.cons acP (aD.cons UE (aD.cons adu aD.nil)))))))) (fun _=>Sound.none)) Tryz.func11 Tryz.call11 (fun a0 a1 σ=>by kernel_rfl)) _ _ _ rfl rfl
theorem UY:Sound Tryz.prog aF 11 xY:=adR
noncomputable def ab6:Fx:=⟨Tryz.prog,aF,A.tab (fun _ _=>none) [],(fun _ _ _=>none),[],[],8,[]⟩
theorem ab4:Sound Tryz.prog aF 49 (A.wrap false [] .k (A.cK (NH))):=
 Sound.wrap (Sound.tY (X:=ab6) (fn:=Tryz.f49) (bL:=(.s .n (.s bz aU))) .K trivial (dD.of rfl aD.nil (fun _=>Sound.none)) Tryz.func49 Tryz.call49 (fun a0 σ=>by kernel_rfl)) _ _ _ rfl rfl
theorem ab2:Sound Tryz.prog aF 49 J8:=yc ab4 Tryz.call49 ag6
noncomputable def acK:Fx:=⟨Tryz.prog,aF,A.tab (fun _ _=>none) [(49,J8)],(fun _ _ _=>none),[],[],8,[]⟩
theorem acI:Sound Tryz.prog aF 14 (A.wrap false [] .k (A.cK (EO))):=
 Sound.wrap (Sound.tY (X:=acK) (fn:=Tryz.f14) (bL:=(.s .n aU)) .K trivial (dD.of rfl (aD.cons ab2 aD.nil) (fun _=>Sound.none)) Tryz.func14 Tryz.call14 (fun a0 σ=>by kernel_rfl)) _ _ _ rfl rfl
theorem acG:Sound Tryz.prog aF 14 Ka:=acI
noncomputable def aee:Fx:=⟨Tryz.prog,aF,A.tab (fun _ _=>none) [(10,CV),(11,xY)],(fun _ _ _=>none),[2,10],[],36,[]⟩
theorem aed:Sound Tryz.prog aF 18 (A.wrap false [] .k (A.cQ (Ky))):=
 Sound.wrap (Sound.pI (X:=aee) (fn:=Tryz.f18) (bL:=(.s .n (.s .n (.s bz (.s (.s .n (.b (.l [4,5,6,22] [.exit 0,.ret] (.s .n (.s dI (.s (.b (.s .n (.s .n bz))) .n)))))) aU))))) .K trivial (dD.of rfl (aD.cons Wh (aD.cons UY aD.nil)) (fun _=>Sound.none)) Tryz.func18 Tryz.call18 (fun a0 a1 σ=>by kernel_rfl)) _ _ _ rfl rfl
theorem aeb:Sound Tryz.prog aF 18 Kx:=aed
theorem ac9:Sound Tryz.prog aF 47 GW:=q2 [] 16 (.s .n aU) (aD.cons U6 (aD.cons Bn (aD.cons Oh (aD.cons E1 aD.nil)))) Tryz.func47 Tryz.call47 (fun a0 a1 σ=>by kernel_rfl) rfl rfl
theorem ac1:Sound Tryz.prog aF 48 CM:=q4 [6] 42 (.s .n (.s .n (.s bz (.s bz (.s .n aU))))) (aD.cons Uz (aD.cons U5 aD.nil)) Tryz.func48 Tryz.call48 (fun a0 a1 a2 a3 σ=>by kernel_rfl) rfl rfl
noncomputable def acU:Fx:=⟨Tryz.prog,aF,A.tab (fun _ _=>none) [(47,GW),(45,ER),(48,CM)],(fun _ _ _=>none),[10],[7],40,[]⟩
theorem acS:Sound Tryz.prog aF 13 (A.wrap false [] .k (A.cQ (Kh))):=
 Sound.wrap (Sound.pI (X:=acU) (fn:=Tryz.f13) (bL:=(.s .n (.s (.s .n bz) (.s .n (.s .n (.s (.s .n (.b (.l [8,25] [.exit 0] (.s .n (.s dI (.s (.b aU) .n)))))) aU)))))) .K trivial (dD.of rfl (aD.cons ac9 (aD.cons UE (aD.cons ac1 aD.nil))) (fun _=>Sound.none)) Tryz.func13 Tryz.call13 (fun a0 a1 σ=>by kernel_rfl)) _ _ _ rfl rfl
theorem acQ:Sound Tryz.prog aF 13 GR:=acS
theorem abW:Sound Tryz.prog aF 17 GK:=q2 [] 26 (.s .n (.s bz (.s (.s .n (.b (.l [4,13] [.exit 0,.ret] (.s .n (.s dI (.s (.b (.s .n bz)) .n)))))) aU))) aD.nil Tryz.func17 Tryz.call17 (fun a0 a1 σ=>by kernel_rfl) rfl rfl
noncomputable def acm:Fx:=⟨Tryz.prog,aF,A.tab (fun _ _=>none) [(10,CV),(11,xY),(14,Ka),(18,Kx),(13,GR),(17,GK),(12,xW)],(fun _ _ _=>none),[3,10],[],88,[14,18]⟩
theorem ach:Sound Tryz.prog aF 5 (A.wrap true [yL,(.s 5)] .k (A.lp (NI))):=
 Sound.wrap (Sound.IJ (X:=acm) (fn:=Tryz.f5) (bL:=(.s .n (.s .n (.s bz (.s (.s .n (.b (.l [3,35] [.exit 0] (.s .n (.s dI (.s (.b aU) .n)))))) (.s .n (.s bz (.s .n (.s .n aU))))))))) .F trivial (dD.of rfl (aD.cons Wh (aD.cons UY (aD.cons acG (aD.cons aeb (aD.cons acQ (aD.cons abW (aD.cons Oh aD.nil))))))) (fun _=>Sound.none)) Tryz.func5 Tryz.call5 (fun a0 a1 a2 σ=>by kernel_rfl)) _ _ _ rfl rfl
theorem acd:Sound Tryz.prog aF 5 Uj:=ach
end
section
def HP:=(Nat→Option aJ)→Prop
namespace HP
def emp:HP:=fun h=>∀i,h i=none
def blk (id:Nat) (b:aJ):HP:=fun h=>∀i,h i=if i=id then some b else none
def star (P Q:HP):HP:=fun h=>∃f g,P f∧Q g∧(∀i,f i=none∨g i=none)∧∀i,h i=(f i).or (g i)
def pr (p:Prop):HP:=fun h=>p∧∀i,h i=none
def ex {α:Type} (P:α→HP):HP:=fun h=>∃x,P x h
instance : Mul HP := ⟨star⟩
theorem Xp (P Q:HP):P*Q=Q*P:=by
 have key:∀P Q:HP,∀h,(P*Q) h→(Q*P) h:=by
  rintro P Q h ⟨f,g,hf,hg,hd,hh⟩
  refine⟨g,f,hg,hf,fun i=>(hd i).symm,fun i=>?_⟩
  rw[hh i]
  rcases hd i with e|e<;>rw[e]<;>simp
 funext h
 exact propext ⟨key P Q h,key Q P h⟩
theorem tG (P Q R:HP):P*Q*R=P*(Q*R):=by
 funext h
 apply propext
 constructor
 ·rintro⟨f,g,⟨f1,f2,h1,h2,Jc,hf⟩,hg,hd,hh⟩
  refine⟨f1,fun i=>(f2 i).or (g i),h1,⟨f2,g,h2,hg,fun i=>?_,fun i=>rfl⟩,fun i=>?_,fun i=>?_⟩
  ·have:=hd i;rw[hf i]at this
   rcases this with e|e
   ·cases h:f1 i<;>simp [h]at e<;>exact .inl e
   ·exact .inr e
  ·have a:=hd i;have b:=Jc i;rw[hf i]at a
   rcases b with b|b
   ·exact .inl b
   ·rcases a with a|a
    ·cases h:f1 i<;>simp [h]at a;exact .inl rfl
    ·exact .inr (show(f2 i).or (g i)=none by rw[b,a];rfl)
  ·rw[hh i,hf i];cases f1 i<;>simp
 ·rintro⟨f,g,hf,⟨g1,g2,h1,h2,Jc,hg⟩,hd,hh⟩
  refine⟨fun i=>(f i).or (g1 i),g2,⟨f,g1,hf,h1,fun i=>?_,fun i=>rfl⟩,h2,fun i=>?_,fun i=>?_⟩
  ·have:=hd i;rw[hg i]at this
   rcases this with e|e
   ·exact .inl e
   ·cases h:g1 i<;>simp [h]at e;exact .inr rfl
  ·have a:=hd i;have b:=Jc i;rw[hg i]at a
   rcases b with b|b
   ·rcases a with a|a
    ·exact .inl (show(f i).or (g1 i)=none by rw[a,b];rfl)
    ·rw[b]at a;exact .inr (by simpa using a)
   ·exact .inr b
  ·show h i=((f i).or (g1 i)).or (g2 i)
   rw[hh i,hg i];cases f i<;>simp
theorem ym (P:HP):emp*P=P:=by
 funext h
 apply propext
 constructor
 ·rintro⟨f,g,hf,hg,hd,hh⟩
  have:h=g:=by funext i;rw[hh i,hf i];rfl
  rw[this];exact hg
 ·intro hp
  exact⟨fun _=>none,h,fun _=>rfl,hp,fun _=>.inl rfl,fun i=>by simp⟩
theorem ajf (P:HP):P*emp=P:=by rw[Xp,ym]
instance : Std.Associative (α := HP) (· * ·) := ⟨tG⟩
instance : Std.Commutative (α := HP) (· * ·) := ⟨Xp⟩
end HP
open HP
structure Hs (B : aJ → Prop) (aC σ : Heap) (P : HP) : Prop where
 pre:∃bs,σ=aC++bs∧∀b∈bs,B b
 own:∃h,P h∧∀i b,h i=some b→aC.length≤i∧σ[i]? =some b
def bK:aJ→Prop:=fun _=>True
section
variable {B : aJ → Prop} {aC σ : Heap} {P Q R : HP} {id : Nat} {b b' : aJ}
theorem hs_eq (e:P=Q) (H:Hs B aC σ P):Hs B aC σ Q:=e▸H
theorem YI (k:∀h,P h→Q h) (H:Hs B aC σ (P*R)):Hs B aC σ (Q*R):=by
 obtain⟨h1,h,⟨f,g,hf,hg,hd,hh⟩,h2⟩:=H
 exact⟨h1,h,⟨f,g,k f hf,hg,hd,hh⟩,h2⟩
theorem wm (H:Hs B aC σ (P*R)):Hs B aC σ R:=by
 obtain⟨h1,h,⟨f,g,hf,hg,hd,hh⟩,h2⟩:=H
 refine⟨h1,g,hg,fun i b hb=>h2 i b ?_⟩
 rw[hh i]
 rcases hd i with e|e
 ·rw[e,hb];rfl
 ·rw[e]at hb;cases hb
theorem mW {p:Prop}:Hs B aC σ (pr p*R)↔p∧Hs B aC σ R:=by
 constructor
 ·intro H
  refine⟨?_,wm H⟩
  obtain⟨h1,h,⟨f,g,hf,hg,hd,hh⟩,h2⟩:=H
  exact hf.1
 ·rintro⟨hp,h1,h,hr,h2⟩
  exact⟨h1,h,⟨fun _=>none,h,⟨hp,fun _=>rfl⟩,hr,fun _=>.inl rfl,fun i=>by simp⟩,h2⟩
theorem Mz {α:Type} {P:α→HP}:Hs B aC σ (ex P*R)↔∃x,Hs B aC σ (P x*R):=by
 constructor
 ·rintro⟨h1,h,⟨f,g,⟨x,hf⟩,hg,hd,hh⟩,h2⟩
  exact⟨x,h1,h,⟨f,g,hf,hg,hd,hh⟩,h2⟩
 ·rintro⟨x,h1,h,⟨f,g,hf,hg,hd,hh⟩,h2⟩
  exact⟨h1,h,⟨f,g,⟨x,hf⟩,hg,hd,hh⟩,h2⟩
theorem HV (σ:Heap):Hs B σ σ emp:=⟨⟨[],by simp,by simp⟩,fun _=>none,fun _=>rfl,fun _ _ h=>by cases h⟩
theorem ZE (H:Hs B aC σ P):aC.length≤σ.length:=by obtain⟨⟨bs,rfl,_⟩,_⟩:=H;simp
theorem iz (H:Hs B aC σ (blk id b*R)):aC.length≤id∧σ[id]? =some b:=by
 obtain⟨h1,h,⟨f,g,hf,hg,hd,hh⟩,h2⟩:=H
 exact h2 id b (by rw[hh id,hf id];simp)
theorem an9 (H:Hs B aC σ (blk id b*R)):B b:=by
 obtain⟨h1,h2⟩:=iz H
 obtain⟨⟨bs,rfl,hb⟩,_⟩:=H
 rw[List.getElem?_append_right h1]at h2
 exact hb b (List.mem_of_getElem? h2)
theorem zF (H:Hs B aC σ (blk id b*R)) (hb:B b'):Hs B aC (σ.set id b') (blk id b'*R):=by
 obtain⟨hid,jX⟩:=iz H
 have hlt:=(List.getElem?_eq_some_iff.1 jX).1
 obtain⟨⟨bs,rfl,hB⟩,h,⟨f,g,hf,hg,hd,hh⟩,h2⟩:=H
 refine⟨⟨bs.set (id-aC.length) b',by rw[List.set_append_right _ _ hid],fun x hx=>?_⟩,fun i=>if i=id then some b' else g i,⟨fun i=>if i=id then some b' else none,g,fun i=>rfl,hg,fun i=>?_,fun i=>?_⟩,fun i x hx=>?_⟩
 ·rcases List.mem_or_eq_of_mem_set hx with hx|hx
  ·exact hB x hx
  ·subst hx;exact hb
 ·have:=hd i;rw[hf i]at this
  by_cases e:i=id
  ·simp only[e,if_true]at this ⊢
   rcases this with h|h
   ·cases h
   ·exact .inr h
  ·simp [e]
 ·by_cases e:i=id<;>simp [e]
 ·by_cases e:i=id
  ·subst e
   simp only[if_true,Option.some.injEq]at hx
   subst hx
   exact⟨hid,by rw[List.getElem?_set_self hlt]⟩
  ·simp only[e,if_false]at hx
   rw[List.getElem?_set_ne (fun e'=>e e'.symm)]
   have:=h2 i x (by rw[hh i,hf i];simp [e,hx])
   exact this
theorem FM (H:Hs B aC σ R) (hb:B b):Hs B aC (σ++[b]) (blk σ.length b*R):=by
 have hl:=ZE H
 obtain⟨⟨bs,rfl,hB⟩,h,hr,h2⟩:=H
 have hn:∀i x,h i=some x→i<(aC++bs).length:=fun i x hx=>(List.getElem?_eq_some_iff.1 (h2 i x hx).2).1
 refine⟨⟨bs++[b],by simp,fun x hx=>?_⟩,fun i=>if i=(aC++bs).length then some b else h i,⟨fun i=>if i=(aC++bs).length then some b else none,h,fun i=>rfl,hr,fun i=>?_,fun i=>?_⟩,fun i x hx=>?_⟩
 ·rcases List.mem_append.1 hx with hx|hx
  ·exact hB x hx
  ·simp at hx;subst hx;exact hb
 ·by_cases e:i=(aC++bs).length
  ·right
   cases hi:h i with
   |none=>rfl
   |some x=>have:=hn i x hi;omega
  ·simp only[e,if_false,true_or]
 ·by_cases e:i=(aC++bs).length<;>simp only[e,if_true,if_false,Option.or_some,Option.none_or,Option.some_or]
 ·by_cases e:i=(aC++bs).length
  ·subst e
   simp only[if_true,Option.some.injEq]at hx
   subst hx
   exact⟨hl,by simp⟩
  ·simp only[e,if_false]at hx
   obtain⟨k1,k2⟩:=h2 i x hx
   exact⟨k1,by rw[List.getElem?_append_left (hn i x hx)];exact k2⟩
end
section
variable {α : Type} {E : List AV → α → HP} {B : aJ → Prop} {aC σ : Heap} {R : HP}
def els (E:List AV→α→HP):List (List AV)→List α→HP
 |[],[]=>emp
 |e::es,x::l=>E e x*els E es l
 |_,_=>pr False
theorem L3:∀{es:List (List AV)} {l:List α} {R:HP},Hs B aC σ (els E es l*R)→es.length=l.length
 |[],[],_,_=>rfl
 |[],_::_,_,H=>(mW.1 H).1.elim
 |_::_,[],_,H=>(mW.1 H).1.elim
 |e::es,x::l,R,H=>by
  have:=L3 (es:=es) (l:=l) (R:=E e x*R) (hs_eq (by rw[els];ac_rfl) H)
  simp [this]
theorem YA:∀{xB Gq:List (List AV)} {l1 l2:List α},xB.length=l1.length→els E (xB++Gq) (l1++l2)=els E xB l1*els E Gq l2
 |[],Gq,[],l2,_=>by rw[els,ym];rfl
 |e::xB,Gq,x::l1,l2,h=>by
  simp only[List.cons_append,els]
  rw[YA (by simpa using h)]
  ac_rfl
theorem ajM (e:List AV) (x:α):els E [e] [x]=E e x:=by rw[els,els,ajf]
def fl (c:α→List AV):List AV→α→HP:=fun e x=>pr (e=c x)
theorem Ml {c:α→List AV}:∀{es:List (List AV)} {l:List α} {R:HP},Hs B aC σ (els (fl c) es l*R)↔es=l.map c∧Hs B aC σ R
 |[],[],R=>by rw[els,ym];simp
 |[],x::l,R=>by show Hs B aC σ (pr False*R)↔_;rw[mW];simp
 |e::es,[],R=>by show Hs B aC σ (pr False*R)↔_;rw[mW];simp
 |e::es,x::l,R=>by
  rw[els,fl,tG,mW,Ml,List.map_cons,List.cons.injEq,and_assoc]
def Sl (E:List AV→α→HP) (sz:Nat) (v:AV) (l:List α):HP:=fun h=>(l=[]∧(v=.au∨v=.ez)∧emp h)∨∃id g seg,v=.os id g sz 0 l.length∧(blk id (.arr g sz seg)*els E seg l) h
variable {sz : Nat} {v : AV} {l : List α}
theorem zq (H:Hs B aC σ (Sl E sz v l*R)):(l=[]∧(v=.au∨v=.ez)∧Hs B aC σ R)∨∃id g seg,v=.os id g sz 0 l.length∧seg.length=l.length∧Hs B aC σ (blk id (.arr g sz seg)*(els E seg l*R)):=by
 have H2:=wm H
 obtain⟨h1,h,⟨f,g,hf,hg,hd,hh⟩,h2⟩:=H
 rcases hf with⟨k1,k2,k3⟩|⟨id,gg,seg,k1,k2⟩
 ·exact .inl ⟨k1,k2,H2⟩
 ·have K:Hs B aC σ (blk id (.arr gg sz seg)*(els E seg l*R)):=hs_eq (tG _ _ _) ⟨h1,h,⟨f,g,k2,hg,hd,hh⟩,h2⟩
  exact .inr ⟨id,gg,seg,k1,L3 (R:=blk id (.arr gg sz seg)*R) (hs_eq (by ac_rfl) K),K⟩
theorem qY (H:Hs B aC σ R) (hv:v=.au∨v=.ez):Hs B aC σ (Sl E sz v []*R):=
 YI (P:=emp) (fun h k=>.inl ⟨rfl,hv,k⟩) (hs_eq (ym R).symm H)
theorem MI {id g:Nat} {seg:List (List AV)} {n:Nat} (H:Hs B aC σ (blk id (.arr g sz seg)*(els E seg l*R))) (hn:n=l.length:=by rfl):Hs B aC σ (Sl E sz (.os id g sz 0 n) l*R):=
 YI (P:=blk id (.arr g sz seg)*els E seg l) (fun h k=>.inr ⟨id,g,seg,by rw[hn],k⟩) (hs_eq (tG _ _ _).symm H)
theorem ZX (H:Hs B aC σ (Sl E sz v l*R)):A.bJ v=some (.int .i64 l.length):=by
 rcases zq H with⟨rfl,rfl|rfl,_⟩|⟨id,g,seg,rfl,_⟩<;>rfl
theorem HW {ys:List (List AV)} {xs:List α} {most:Nat} (H:Hs B aC σ (Sl E sz v l*(els E ys xs*R))) (hm:l.length+xs.length≤most) (hB:∀g g' seg,(seg=[]∨B (.arr g sz seg))→B (.arr g' sz (seg++ys))):
  ∃v' σ',A.append sz most v (.sl sz ys) σ=some (v',σ')∧Hs B aC σ' (Sl E sz v' (l++xs)*R):=by
 rcases zq H with⟨rfl,hv,H⟩|⟨id,g,seg,rfl,hl,H⟩
 ·have hxl:=L3 H
  by_cases hy:ys=[]
  ·subst hy
   have:xs=[]:=List.eq_nil_of_length_eq_zero (by simpa using hxl.symm)
   subst this
   refine⟨v,σ,?_,qY (wm H) hv⟩
   rcases hv with rfl|rfl<;>simp [A.append,A.elems,A.sJ]
  ·refine⟨.os σ.length ys.length sz 0 ys.length,σ++[.arr ys.length sz ys],?_,?_⟩
   ·have:ys.length≤most:=by simp at hm;omega
    rcases hv with rfl|rfl<;>simp [A.append,A.elems,A.sJ,hy,this]
   ·have H2:=FM H (by simpa using hB 0 ys.length [] (.inl rfl):B (.arr ys.length sz ys))
    exact MI H2 (by simpa using hxl)
 ·have hxl:=L3 (hs_eq (show _=els E ys xs*(blk id (.arr g sz seg)*(els E seg l*R)) by ac_rfl) H)
  obtain⟨h1,h2⟩:=iz H
  by_cases hy:ys=[]
  ·subst hy
   have:xs=[]:=List.eq_nil_of_length_eq_zero (by simpa using hxl.symm)
   subst this
   refine⟨.os id g sz 0 l.length,σ,?_,?_⟩
   ·have:l.length≤most:=by simpa using hm
    simp [A.append,A.elems,A.sJ,h2,hl,this]
   ·rw[List.append_nil]
    exact MI (hs_eq (by rw[els,ym]) H)
  ·have hp:0<ys.length:=List.length_pos_iff.2 hy
   refine⟨.os id (g+ys.length) sz 0 (l.length+ys.length),σ.set id (.arr (g+ys.length) sz (seg++ys)),?_,?_⟩
   ·have e1:l.length+ys.length≤most:=by omega
    have e2:seg.take l.length=seg:=List.take_of_length_le (by omega)
    simp [A.append,A.elems,A.sJ,h2,hl,e1,hy,e2,hp]
   ·have H2:=zF (b':=.arr (g+ys.length) sz (seg++ys)) H (hB g _ seg (.inr (an9 H)))
    exact MI (id:=id) (g:=g+ys.length) (seg:=seg++ys) (hs_eq (by rw[YA hl];ac_rfl) H2) (by simp;omega)
end
end
section
open HP
section
variable {σ : Heap} {id g sz off len : Nat} {es : List (List AV)}
theorem cW {α:Type} {X Y:Option α}:A.cond (.bool true) X Y=X:=rfl
theorem cD {α:Type} {X Y:Option α}:A.cond (.bool false) X Y=Y:=rfl
theorem ak6 {R:Type} {p:Nat→Prop} {k:Nat→Option R} {r:R} (n:Nat) (hn:p n) (h:∀n,p n→k n=some r):A.all p k=some r:=by
 have hx:∃r,∀n,p n→k n=some r:=⟨r,h⟩
 unfold A.all
 rw[dif_pos hx]
 have:=Classical.choose_spec hx n hn
 rw[h n hn]at this
 injection this with this
 rw[←this]
end
section
variable {α : Type} {E : List AV → α → HP} {aC σ : Heap} {R : HP} {sz most : Nat} {zs : List AV} {rot : List AV → Heap → Option (AV × Heap)} {v : AV} {l : List α} {y : α} {ye : List AV} {i : Nat}
end
end
def aR (n lo hi:Int):Bool:=decide (lo≤n∧n≤hi)
def qV (c:UInt8):Bool:=decide (97≤c.toNat∧c.toNat≤122)||decide (48≤c.toNat∧c.toNat≤57)||decide (c.toNat=45)
def Gj (s:ByteArray):Bool:=s.data.toList.all qV&&decide (0<s.size)
def tL (s:ByteArray):Bool:=Gj s&&decide (s.size≤20)&&decide (97≤(s.data.toList.getD 0 0).toNat)&&decide ((s.data.toList.getD 0 0).toNat≤122)
def pc (c:UInt8):Bool:=decide (32≤c.toNat∧c.toNat≤126)
def Mx (s:ByteArray):Bool:=decide (0<s.size)&&decide (s.size≤60)&&(decide ((s.data.toList.getD 0 0).toNat≠32)&&decide ((s.data.toList.getD (s.size-1) 0).toNat≠32))
def HY (s:ByteArray):Bool:=s.data.toList.all pc&&Mx s
theorem ahg (s:ByteArray) (i:Nat) (h:i<s.size):s.data.toList.getD i 0=s[i]:=by
 rw[List.getD_eq_getElem?_getD,List.getElem?_eq_getElem (by simpa using h)];rfl
def MO (pre:List oq):List oq→Int
 |[]=>0
 |r::rest=>
  if aR r.low 0 65535=false∨aR r.high 0 65535=false∨r.high<r.low then 1
  else if 0<pre.length∧r.low≤(pre.getLast?.map (·.high)).getD 0 then 7
  else if tL r.name=false then 5
  else if jv r.name (pre.map (·.name))=true then 6
  else MO (pre++[r]) rest
def zz (l:List oq):Int:=if 30<l.length then 2 else MO [] l
def slotsOf (l:List ew):List Int:=l.flatMap fun x=>if 0<x.lY then[x.nh,x.lY]else[x.nh]
theorem Vj (l:List ew) (x:ew):slotsOf (l++[x])=slotsOf l++(if 0<x.lY then[x.nh,x.lY]else[x.nh]):=by simp [slotsOf]
def Ce (size:Int) (pre:List ew):List ew→Int
 |[]=>0
 |x::rest=>
  if tL x.name=false then 5
  else if jv x.name (pre.map (·.name))=true then 6
  else if aR x.group 1 4=false then 4
  else if aR x.nh 1 size=false∨aR x.lY 0 size=false∨aR x.default 0 65535=false then 1
  else if x.nh=x.lY∨jv x.nh (slotsOf pre)=true∨(0<x.lY∧jv x.lY (slotsOf pre)=true)then 12
  else if zz x.ranges=0 then Ce size (pre++[x]) rest else zz x.ranges
def ql (p:cV):Int:=
 if tL p.name=false then 5 else if aR p.size 1 512=false then 1 else if p.params.length=0 then 8 else if 40<p.params.length then 2 else Ce p.size [] p.params
def Iv (size:Int) (pre:List ew) (x:ew):Int:=
 if tL x.name=false then 5
 else if jv x.name (pre.map (·.name))=true then 6
 else if aR x.group 1 4=false then 4
 else if aR x.nh 1 size=false∨aR x.lY 0 size=false∨aR x.default 0 65535=false then 1
 else if x.nh=x.lY∨jv x.nh (slotsOf pre)=true∨(0<x.lY∧jv x.lY (slotsOf pre)=true)then 12
 else zz x.ranges
theorem ag3 (size:Int) (pre:List ew) (x:ew) (rest:List ew):Ce size pre (x::rest)=if Iv size pre x=0 then Ce size (pre++[x]) rest else Iv size pre x:=by
 rw[Ce,Iv]
 split<;>first|(simp;done)|skip
 split<;>first|(simp;done)|skip
 split<;>first|(simp;done)|skip
 split<;>first|(simp;done)|skip
 split<;>first|(simp;done)|skip
def Cd (pre:List cV):List cV→Int
 |[]=>0
 |p::rest=>if ql p=0 then(if jv p.name (pre.map (·.name))=true then 6 else Cd (pre++[p]) rest)else ql p
def wW (l:List cV):Int:=if 60<l.length then 2 else Cd [] l
def jV (nm:ByteArray):List cV→cV×Bool
 |[]=>(⟨⟨#[]⟩,0,[]⟩,false)
 |p::rest=>if p.name=nm then(p,true)else jV nm rest
def u9 (f:Nat→Bool):Nat→Nat→Bool
 |0,_=>true
 |n+1,a=>if 512<a∨f a=true then false else u9 f n (a+1)
def nC (f:Int→Nat→Bool) (u:Int) (a s:Nat):Int→Nat→Bool:=fun v k=>if v=u∧a≤k∧k<a+s then true else f v k
def DN (pre:List Int) (n:Int):Bool:=match pre.getLast? with|some m=>decide (n≤m)|none=>false
def oT (gI:List cV) (u:gY):Int:=u.address+(jV u.profile gI).1.size-1
def FJ (gI:List cV) (u:gY) (pre:List gY):Bool:=pre.any fun x=>decide (x.univ=u.univ∧x.address≤oT gI u∧u.address≤oT gI x)
def F1 (gI:List cV) (pre:List gY):List gY→Int
 |[]=>0
 |u::rest=>
  if aR u.number 1 9999=false then 1
  else if DN (pre.map (·.number)) u.number=true then 7
  else if(jV u.profile gI).2=false then 5
  else if aR u.univ 1 64=false∨aR u.address 1 512=false∨512<oT gI u then 1
  else if FJ gI u pre=true then 12
  else F1 gI (pre++[u]) rest
def jZ (r:gr):Int:=if wW r.aY=0 then(if 400<r.units.length then 2 else F1 r.aY [] r.units)else wW r.aY
def HD (gI:List cV) (pre:List gY):Prop:=∀x∈pre,1≤x.address∧x.address≤oT gI x∧oT gI x≤512
def BD (gI:List cV) (pre:List gY) (f:Int→Nat→Bool):Prop:=∀v k,f v k=true↔∃x∈pre,x.univ=v∧x.address≤(k:Int)∧(k:Int)≤oT gI x
theorem BD.nil (gI:List cV):BD gI [] (fun _ _=>false):=fun v k=>by simp
theorem BD.snoc {gI:List cV} {pre:List gY} {f:Int→Nat→Bool} (h:BD gI pre f) (u:gY) (a s:Nat) (ha:u.address=a) (hs:oT gI u=(a:Int)+s-1):BD gI (pre++[u]) (nC f u.univ a s):=by
 intro v k
 unfold nC
 by_cases e:v=u.univ∧a≤k∧k<a+s
 ·rw[if_pos e]
  refine⟨fun _=>⟨u,by simp,e.1.symm,by omega,by omega⟩,fun _=>rfl⟩
 ·rw[if_neg e,h v k]
  constructor
  ·rintro⟨x,hx,h1⟩
   exact⟨x,by simp [hx],h1⟩
  ·rintro⟨x,hx,h1,h2,h3⟩
   simp only[List.mem_append,List.mem_singleton]at hx
   rcases hx with hx|rfl
   ·exact⟨x,hx,h1,h2,h3⟩
   ·exact absurd ⟨h1.symm,by omega,by omega⟩ e
theorem PT (f:Nat→Bool):∀(s a:Nat),u9 f s a=true↔∀k,a≤k→k<a+s→k≤512∧f k=false
 |0,a=>by simp [u9];intro k h1 h2;omega
 |s+1,a=>by
  rw[u9]
  by_cases e:512<a∨f a=true
  ·rw[if_pos e]
   simp only[Bool.false_eq_true,false_iff]
   intro h
   have:=h a (Nat.le_refl _) (by omega)
   rcases e with e|e
   ·omega
   ·rw[e]at this;simp at this
  ·rw[if_neg e,PT f s (a+1)]
   constructor
   ·intro h k h1 h2
    by_cases hk:k=a
    ·subst hk
     refine⟨by omega,?_⟩
     cases hf:f k
     ·rfl
     ·exact absurd (.inr hf) e
    ·exact h k (by omega) (by omega)
   ·intro h k h1 h2
    exact h k (by omega) (by omega)
theorem afT {gI:List cV} {pre:List gY} {f:Int→Nat→Bool} (h:BD gI pre f) (hok:HD gI pre) (u:gY) (a s:Nat) (ha:u.address=a) (h1:1≤s) (hs:oT gI u=(a:Int)+s-1) (h2:oT gI u≤512):u9 (f u.univ) s a=!FJ gI u pre:=by
 rw[Bool.eq_iff_iff,PT]
 simp only[Bool.not_eq_true',FJ,List.any_eq_false,decide_eq_true_eq,not_and]
 constructor
 ·intro hf x hx e1 e2 e3
  have hx':=hok x hx
  obtain⟨k,hk⟩:∃k:Nat,(k:Int)=max x.address a:=⟨(max x.address (a:Int)).toNat,by omega⟩
  have hf':=(hf k (by omega) (by omega)).2
  have:f u.univ k=true:=(h u.univ k).2 ⟨x,hx,e1,by omega,by omega⟩
  rw[this]at hf';simp at hf'
 ·intro hf k h3 h4
  refine⟨by omega,?_⟩
  cases hfk:f u.univ k
  ·rfl
  ·obtain⟨x,hx,e1,e2,e3⟩:=(h u.univ k).1 hfk
   exact absurd (show u.address≤oT gI x by omega) (hf x hx e1 (by omega))
theorem ad1 {p:cV} (h:ql p=0):1≤p.size∧p.size≤512:=by
 unfold ql at h
 by_cases h1:tL p.name=false
 ·rw[if_pos h1]at h;simp at h
 ·rw[if_neg h1]at h
  by_cases h2:aR p.size 1 512=false
  ·rw[if_pos h2]at h;simp at h
  ·simpa [aR]using h2
theorem VQ:∀(l pre:List cV),Cd pre l=0→∀p∈l,1≤p.size∧p.size≤512
 |[],pre,h,p,hp=>by simp at hp
 |q::rest,pre,h,p,hp=>by
  rw[Cd]at h
  by_cases e:ql q=0
  ·rw[if_pos e]at h
   by_cases e2:jv q.name (pre.map (·.name))=true
   ·rw[if_pos e2]at h;simp at h
   ·rw[if_neg e2]at h
    simp only[List.mem_cons]at hp
    rcases hp with rfl|hp
    ·exact ad1 e
    ·exact VQ rest _ h p hp
  ·rw[if_neg e]at h;exact absurd h e
theorem afY {l:List cV} (h:wW l=0):∀p∈l,1≤p.size∧p.size≤512:=by
 unfold wW at h
 by_cases e:60<l.length
 ·rw[if_pos e]at h;simp at h
 ·rw[if_neg e]at h;exact VQ l [] h
theorem Pz (nm:ByteArray):∀(l:List cV),(jV nm l).2=true→(jV nm l).1∈l
 |[],h=>by simp [jV]at h
 |p::r,h=>by
  rw[jV]at h ⊢
  by_cases e:p.name=nm
  ·rw[if_pos e];simp
  ·rw[if_neg e]at h ⊢
   exact List.mem_cons_of_mem _ (Pz nm r h)
theorem HD.snoc {gI:List cV} {pre:List gY} (h:HD gI pre) {u:gY} (h1:1≤u.address∧u.address≤oT gI u∧oT gI u≤512):HD gI (pre++[u]):=fun x hx=>by
 simp only[List.mem_append,List.mem_singleton]at hx
 rcases hx with hx|rfl
 ·exact h x hx
 ·exact h1
theorem jT (n lo hi:Int) (σ:Heap):jE [.int .i64 n,.int .i64 lo,.int .i64 hi] σ=some (.bool (aR n lo hi),σ):=by
 refine wrap_eq rfl ?_ rfl
 show OK _ _ _ σ=_
 unfold OK aR
 by_cases h:lo≤n<;>simp only[aO,reduceCtorEq,h,true_and,false_and]
theorem uT (b:Bool) (n:Int) (σ:Heap):rC [.bool b,.int .i64 n] σ=some (.int .i64 (if b=true then n else 0),σ):=by
 refine wrap_eq rfl ?_ rfl
 show Pe _ _ σ=_
 unfold Pe
 cases b<;>simp [aO,reduceCtorEq]
theorem QU (s:ByteArray) {i:Nat} (h:i<s.size):A.tc (.str s) (.int .i64 (i:Int))=some (.int .u8 (s.data.toList.getD i 0).toNat):=by
 have h1:s[i]? =some s[i]:=by simp [h]
 simp [A.tc,A.idx,h,ahg s i h]
 rfl
theorem VY (s:ByteArray):(decide (¬s=⟨#[]⟩))=decide (0<s.size):=by
 rw[decide_eq_decide]
 constructor
 ·intro h
  rcases Nat.eq_zero_or_pos s.size with e|e
  ·exact absurd (ByteArray.ext (Array.eq_empty_of_size_eq_zero e)) h
  ·exact e
 ·rintro h rfl;exact absurd h (by decide)
theorem ak2 (s:ByteArray) (hs:iZ s) (σ:Heap):Pv [.str s] σ=some (.bool (Gj s),σ):=by
 refine wrap_eq rfl ?_ rfl
 show PD _ σ=_
 unfold PD
 simp only[aO,reduceCtorEq]
 refine(Xv (p:=qV) s (some (.bool false,σ)) ?_ ?_ ?_).trans ?_
 ·intro i c hi hc
  have h1:aP ((i:Int)+1):=by unfold iZ aW at hs;unfold aP;omega
  have h2:(i:Int)<s.size:=by omega
  simp only[aO,reduceCtorEq,h2,hc,wrap64 h1,qV]
  clear hc h1
  repeat' ((first|rw[AU]|rw[AT]|rw[AP]|rw[Al]|rw[AO]|rw[AN]);split<;>try simp only[aO,reduceCtorEq, *])
  all_goals first|rfl|(refine(if_pos ?_).symm;simp;omega)|(refine(if_neg ?_).symm;simp;omega)|(refine congrArg some (congrArg (fun b=>(AV.bool b,σ)) ?_);rw[Bool.eq_iff_iff];simp;omega)
 ·simp only[aO,reduceCtorEq,Int.lt_irrefl]
 ·intro i;simp only[aO,reduceCtorEq]
 ·simp only[aO,reduceCtorEq,VY,Gj]
  cases s.data.toList.all qV<;>simp
theorem ai3 {s:ByteArray} (h:Gj s=true):0<s.size:=by
 simp only[Gj,Bool.and_eq_true,decide_eq_true_eq]at h;exact h.2
theorem LV (s:ByteArray) (hs:iZ s) (σ:Heap):E6 [.str s] σ=some (.bool (tL s),σ):=by
 refine wrap_eq rfl ?_ rfl
 show Pd _ σ=_
 unfold Pd
 simp only[aO,reduceCtorEq,ak2 s hs]
 cases h:Gj s
 ·simp [aO,reduceCtorEq,tL,h]
 ·have h0:=ai3 h
  have:=QU s h0
  simp only[Int.ofNat_zero]at this
  simp only[aO,reduceCtorEq,this]
  simp only[tL,h,Bool.true_and]
  generalize s.data.toList.getD 0 0=c0 at *
  repeat' ((first|rw[AU]|rw[AT]|rw[AP]|rw[Al]|rw[AO]|rw[AN]);split<;>try simp only[aO,reduceCtorEq, *])
  all_goals first|rfl|(refine(if_pos ?_).symm;simp;omega)|(refine(if_neg ?_).symm;simp;omega)|(refine congrArg some (congrArg (fun b=>(AV.bool b,σ)) ?_);rw[Bool.eq_iff_iff];simp;omega)
theorem Xu (s:ByteArray) (hs:iZ s) (σ:Heap):KC [.str s] σ=some (.bool (HY s),σ):=by
 refine wrap_eq rfl ?_ rfl
 show OX _ σ=_
 unfold OX
 simp only[aO,reduceCtorEq]
 refine(Xv (p:=pc) s (some (.bool false,σ)) ?_ ?_ ?_).trans ?_
 ·intro i c hi hc
  have h1:aP ((i:Int)+1):=by unfold iZ aW at hs;unfold aP;omega
  have h2:(i:Int)<s.size:=by omega
  simp only[aO,reduceCtorEq,h2,hc,wrap64 h1,pc]
  clear h1
  repeat' ((first|rw[AU]|rw[AT]|rw[AP]|rw[Al]|rw[AO]|rw[AN]);split<;>try simp only[aO,reduceCtorEq, *])
  all_goals first|rfl|(refine(if_pos ?_).symm;simp;omega)|(refine(if_neg ?_).symm;simp;omega)|(refine congrArg some (congrArg (fun b=>(AV.bool b,σ)) ?_);rw[Bool.eq_iff_iff];simp;omega)
 ·simp only[aO,reduceCtorEq,Int.lt_irrefl]
 ·intro i;simp only[aO,reduceCtorEq]
 ·simp only[aO,reduceCtorEq,VY,HY]
  cases s.data.toList.all pc
  ·simp
  ·simp only[if_true,Bool.true_and]
   by_cases h0:0<s.size
   ·by_cases Gt:s.size≤60
    ·have e0:=QU s h0
     have e1:=QU s (i:=s.size-1) (by omega)
     simp only[Int.ofNat_zero]at e0
     rw[show((s.size-1:Nat):Int)=(s.size:Int) -1 by omega]at e1
     have h1:aP ((s.size:Int) -1):=by unfold iZ aW at hs;unfold aP;omega
     have Ch:(s.size:Int)≤60:=by omega
     have hw:=wrap64 h1
     simp only[Mx,h0,Gt]
     generalize s.data.toList.getD 0 0=c0 at *
     generalize s.data.toList.getD (s.size-1) 0=c1 at *
     simp only[aO,reduceCtorEq,h0,Ch,e0,e1,hw]
     repeat' ((first|rw[AU]|rw[AT]|rw[AP]|rw[Al]|rw[AO]|rw[AN]);split<;>try simp only[aO,reduceCtorEq, *])
     all_goals first|rfl|(refine(if_pos ?_).symm;simp;omega)|(refine(if_neg ?_).symm;simp;omega)|(refine congrArg some (congrArg (fun b=>(AV.bool b,σ)) ?_);rw[Bool.eq_iff_iff];simp;omega)
    ·have Ch:¬(s.size:Int)≤60:=by omega
     simp [aO,reduceCtorEq,h0,Ch,Mx,Gt]
   ·simp [aO,reduceCtorEq,h0,Mx]
theorem ae3 (n:Int) (σ:Heap):Ol [.int .i64 n] σ=some (.bool (aR n 0 65535),σ):=by
 refine wrap_eq rfl ?_ rfl
 show Oo (.int .i64 n) σ=_
 unfold Oo
 simp only[aO,reduceCtorEq,jT]
theorem aho {γ:Type} {f:List AV→Heap→Option (AX×List AV×Heap)} (a n:Nat) (p:Nat→Bool) (vs:Nat→List AV) (σ:Heap) (fin:AX×List AV×Heap) (ret:Nat→AX×List AV×Heap) {k:AX×List AV×Heap→Option γ} (K1 K2:Option γ)
  (hstep:∀(i:Nat),a≤i→i<a+n→f (vs i) σ=if p i=true then some (ret i)else some (.normal,vs (i+1),σ)) (hend:f (vs (a+n)) σ=some fin) (hk1:k fin=K1) (hk2:∀i,k (ret i)=K2)
  (Ap:fin.1≠.normal:=by simp) (IC:∀i,(ret i).1≠.normal:=by intros;simp) {v:List AV} {σ':Heap} (hv:v=vs a:=by rfl) (fS:σ'=σ:=by rfl):
  (A.loop f v σ').bind k=if(List.range' a n).any p=true then K2 else K1:=by
 refine XZ (List.range' a n) p (fun i=>vs (a+i)) σ fin (fun i=>ret (a+i)) K1 K2 ?_ (by rw[List.length_range'];exact hend) hk1 (fun i=>hk2 _) Ap (fun i=>IC _) hv fS
 intro i x hx
 obtain⟨h1,h2⟩:=List.getElem?_eq_some_iff.1 hx
 rw[List.length_range']at h1
 obtain rfl:a+i=x:=by simpa [List.getElem_range']using h2
 exact hstep (a+i) (by omega) (by omega)
def dS:lE:=⟨0,0⟩
def Dv (p:lE):Bool:=!(aR p.time 0 1000)||!(aR p.way 0 1000)
def DO (l:List lE) (i:Nat):Bool:=decide ((l.getD i dS).time≤(l.getD (i-1) dS).time∨(l.getD i dS).way<(l.getD (i-1) dS).way)
def SE (l:List lE):Int:=
 if l.any Dv=true then 1
 else if ¬((l.getD 0 dS).time=0∧(l.getD 0 dS).way=0)then 3
 else if ¬((l.getD (l.length-1) dS).time=1000∧(l.getD (l.length-1) dS).way=1000)then 3
 else if(List.range' 1 (l.length-1)).any (DO l)=true then 7 else 0
def oN (c:oM):Int:=
 if aR c.kind 1 6=false then 4
 else if c.kind=6 then(if c.points.length<2 then 8 else if 20<c.points.length then 2 else SE c.points)
 else if 0<c.points.length then 3 else 0
theorem Qj (x:lE) (a b:Int):A.neq (.s [0,0]) (.agg (gX x)) (.agg [.int .i64 a,.int .i64 b])=some (.bool (decide (¬(x.time=a∧x.way=b)))):=by
 simp only[A.neq,A.ef,gX,A.fV,A.l8,A.mJ,if_true,Option.bind_some,Option.map_some]
 congr 2
 rw[Bool.eq_iff_iff]
 simp
theorem aaC (a b c:AV):A.splice 0 [a] [b,c]=some [a,c]:=rfl
theorem aaD (a b c:AV):A.splice 1 [a] [b,c]=some [b,a]:=rfl
theorem Bx {l:List lE} {i:Nat} (h:i<l.length):l[i]? =some (l.getD i dS):=by simp [h]
theorem U0 (c:oM) (σ:Heap):Kc [.agg (lN c)] σ=some (.int .i64 (oN c),σ):=by
 refine wrap_eq rfl ?_ rfl
 show N4 (.agg (lN c)) σ=_
 unfold N4 oN
 simp only[aO,reduceCtorEq,vV,vW,vY,vX,vZ,jT]
 cases hk:aR c.kind 1 6
 ·simp only[aO,reduceCtorEq]
 by_cases h6:c.kind=6
 case neg=>
  by_cases h0:0<c.points.length
  ·simp only[aO,reduceCtorEq,vV,vW,vY,vX,vZ,h6,h0,uT,show(0:Int)<c.points.length by omega]
  ·simp only[aO,reduceCtorEq,vV,vW,vY,vX,vZ,h6,h0,uT,show ¬(0:Int)<c.points.length by omega]
 by_cases h2:c.points.length<2
 ·simp only[aO,reduceCtorEq,vV,vW,vY,vX,vZ,h6,h2,show(c.points.length:Int)<2 by omega]
 by_cases IZ:20<c.points.length
 ·simp only[aO,reduceCtorEq,vV,vW,vY,vX,vZ,h6,h2,IZ,show ¬(c.points.length:Int)<2 by omega,show(20:Int)<c.points.length by omega]
 simp only[aO,reduceCtorEq,vV,vW,vY,vX,vZ,h6,h2,IZ,show ¬(c.points.length:Int)<2 by omega,show ¬(20:Int)<c.points.length by omega]
 have Jf:c.points.length≤aW:=by unfold aW;omega
 refine(XZ c.points Dv (fun i=>[.int .i64 0,.int .i64 (i:Int)]) σ (.exit 0,[.int .i64 0,.int .i64 (c.points.length:Int)],σ) (fun i=>(.ret,[.int .i64 1,.int .i64 (i:Int)],σ))
  (some (.int .i64 (if ¬((c.points.getD 0 dS).time=0∧(c.points.getD 0 dS).way=0)then 3
 else if ¬((c.points.getD (c.points.length-1) dS).time=1000∧(c.points.getD (c.points.length-1) dS).way=1000)then 3
 else if(List.range' 1 (c.points.length-1)).any (DO c.points)=true then 7 else 0),σ)) (some (.int .i64 1,σ)) ?_ ?_ ?_ ?_).trans ?_
 ·intro i x hx
  obtain⟨g1,g2,g3⟩:=XT 2 gX hx
  have g3:=g3 Jf
  simp only[aO,reduceCtorEq,Hh,Hi,C1,CX,C3,g1,g2,g3,jT,Dv]
  rcases Bool.eq_false_or_eq_true (aR x.time 0 1000)with e|e
  ·rcases Bool.eq_false_or_eq_true (aR x.way 0 1000)with e'|e'<;>simp only[aO,reduceCtorEq,jT,e,e',Bool.false_or,Bool.or_false]
  ·simp only[aO,reduceCtorEq,e,Bool.true_or]
 ·exact Fp _ _ _
 ·have g0:=lM 2 gX c.points (Bx (l:=c.points) (i:=0) (by omega))
  have gl:=KS 2 gX c.points (k:=c.points.length) (by omega) (Bx (by omega))
  have hw:IntKind.i64.wrap ((c.points.length:Int) -1)=(c.points.length:Int) -1:=wrap64 (by unfold aP;omega)
  simp only[Int.ofNat_zero,Int.natCast_zero]at g0
  simp only[aO,reduceCtorEq,vV,vW,vY,vX,vZ,Hh,Hi,C1,CX,C3,g0,Qj]
  by_cases e1:(c.points.getD 0 dS).time=0∧(c.points.getD 0 dS).way=0
  case neg=>simp only[aO,reduceCtorEq,e1]
  simp only[aO,reduceCtorEq,vV,vW,vY,vX,vZ,e1,hw,gl,Hh,Hi,C1,CX,C3]
  by_cases e2:(c.points.getD (c.points.length-1) dS).time=1000∧(c.points.getD (c.points.length-1) dS).way=1000
  case neg=>
   simp only[aaC,aaD,aO,reduceCtorEq,Qj,e2]
  simp only[aaC,aaD,aO,reduceCtorEq,Qj,e2]
  refine(aho 1 (c.points.length-1) (DO c.points) (fun i=>[.int .i64 0,.int .i64 (i:Int)]) σ (.exit 2,[.int .i64 0,.int .i64 (c.points.length:Int)],σ) (fun i=>(.ret,[.int .i64 7,.int .i64 (i:Int)],σ)) (some (AV.int .i64 0,σ)) (some (AV.int .i64 7,σ)) ?_ ?_ ?_ ?_).trans ?_
  ·intro i hi1 hi2
   have k1:=lM 2 gX c.points (Bx (l:=c.points) (i:=i) (by omega))
   have k2:=KS 2 gX c.points (k:=i) (by omega) (Bx (by omega))
   have k3:IntKind.i64.wrap ((i:Int) -1)=(i:Int) -1:=wrap64 (by unfold aP;omega)
   have k4:IntKind.i64.wrap ((i:Int)+1)=((i+1:Nat):Int):=by rw[wrap64 (by unfold aP;omega)];omega
   have k5:(i:Int)<c.points.length:=by omega
   simp only[aO,reduceCtorEq,vV,vW,vY,vX,vZ,Hh,Hi,C1,CX,C3,k1,k2,k3,k5,DO]
   by_cases q1:(c.points.getD i dS).time≤(c.points.getD (i-1) dS).time
   ·simp only[aO,reduceCtorEq,q1]
   ·by_cases q2:(c.points.getD i dS).way<(c.points.getD (i-1) dS).way<;>simp only[aO,reduceCtorEq,vV,vW,vY,vX,vZ,Hh,Hi,C1,CX,C3,k1,k2,k3,k4,q1,q2]
  ·rw[show 1+(c.points.length-1)=c.points.length by omega]
   simp only[aO,reduceCtorEq,vV,vW,vY,vX,vZ,Int.lt_irrefl]
  ·simp only[aO,reduceCtorEq]
  ·intro i;simp only[aO,reduceCtorEq]
  ·cases(List.range' 1 (c.points.length-1)).any (DO c.points)<;>rfl
 ·intro i;simp only[aO,reduceCtorEq]
 ·unfold SE
  cases c.points.any Dv<;>rfl
theorem C4 (l:List Int) (hl:l.length≤aW) (σ:Heap):ya [sl 1 rS l] σ=some (.int .i64 ((l.find? fun n=>decide (¬n=0)).getD 0),σ):=by
 refine wrap_eq rfl ?_ rfl
 show OU (sl 1 rS l) σ=_
 unfold OU
 simp only[aO,reduceCtorEq]
 refine(ahp l (fun n=>decide (¬n=0)) (fun i=>[.int .i64 0,.int .i64 (i:Int)]) σ (.exit 0,[.int .i64 0,.int .i64 (l.length:Int)],σ) (fun i n=>(.ret,[.int .i64 n,.int .i64 (i:Int)],σ)) (some (AV.int .i64 0,σ)) (fun n=>some (AV.int .i64 n,σ)) ?_ ?_ ?_ ?_).trans ?_
 ·intro i x hx
  obtain⟨g1,g2,g3⟩:=XT 1 rS hx
  have g3:=g3 hl
  simp only[aO,reduceCtorEq,g1,g2,g3]
  repeat' ((first|rw[AU]|rw[AT]|rw[AP]|rw[Al]|rw[AO]|rw[AN]);split<;>try simp only[aO,reduceCtorEq, *])
  all_goals first|with_reducible rfl|(simp [*];done)|(simp_all;done)|(simp_all;omega)|rfl
 ·exact Fp _ _ _
 ·simp only[aO,reduceCtorEq]
 ·intro i n;simp only[aO,reduceCtorEq]
 ·cases l.find? (fun n=>decide (¬n=0))<;>rfl
theorem E4 (n:Int) (σ:Heap):GS [.int .i64 n] σ=some (.bool (aR n 0 65535),σ):=by
 refine wrap_eq rfl ?_ rfl
 show N8 _ σ=_
 unfold N8
 simp only[aO,reduceCtorEq,jT]
theorem adz (l:List oq) (hok:eW QN l) (σ:Heap):NU [sl 3 mq l] σ=some (.int .i64 (zz l),σ):=by
 refine wrap_eq rfl ?_ rfl
 show NV (sl 3 mq l) σ=_
 unfold NV zz
 simp only[aO,reduceCtorEq]
 by_cases M7:30<l.length
 ·have Ix:(30:Int)<l.length:=by omega
  simp only[aO,reduceCtorEq,M7,Ix]
 ·have Ix:¬(30:Int)<l.length:=by omega
  simp only[aO,reduceCtorEq,M7,Ix]
  refine(oI (S:=Unit) (R:=Int) l (fun pre x _=>
    if aR x.low 0 65535=false∨aR x.high 0 65535=false∨x.high<x.low then .out 1
    else if 0<pre.length∧x.low≤(pre.getLast?.map (·.high)).getD 0 then .out 7
    else if tL x.name=false then .out 5
    else if jv x.name (pre.map (·.name))=true then .out 6 else .go ())
   (fun pre _=>[.int .i64 0,.int .i64 (pre.length:Int)]) (fun pre _=>σ++[aJ.map (l5 (·.name) pre)])
   (fun _=>(.exit 0,[.int .i64 0,.int .i64 (l.length:Int)],σ++[aJ.map (l5 (·.name) l)])) (fun pre _ r=>(.ret,[.int .i64 r,.int .i64 (pre.length:Int)],σ++[aJ.map (l5 (·.name) pre)]))
   (fun _ _=>True) () (fun _=>some (AV.int .i64 0,σ)) (fun r=>some (AV.int .i64 r,σ)) ?_ ?_ trivial (fun _ _ _ _ _ _ _ _=>trivial) ?_ ?_).trans ?_
  ·intro pre x rest u hl _
   have hx:=oL hl
   have hlt:=rN hl
   have hi1:IntKind.i64.wrap ((pre.length:Int)+1)=(pre.length:Int)+1:=wrap64 (by unfold aP;omega)
   have hi2:IntKind.i64.wrap ((pre.length:Int) -1)=(pre.length:Int) -1:=wrap64 (by unfold aP;omega)
   have hlt':(pre.length:Int)<(l.length:Int):=by omega
   have hnm:=(hok.2 x (by rw[hl];simp)).2.2
   have jI:=lM 3 mq l hx
   have hN:=LV _ hnm
   by_cases h0:0<pre.length
   ·obtain⟨y,hy,hy2⟩:=X7 hl h0
    have Sj:=KS 3 mq l h0 hy2
    have qP:(0:Int)<pre.length:=by omega
    clear hl hx hlt hok M7 Ix hy2 hnm
    simp only[aO,reduceCtorEq,KK,KL,KM,Lk,Lc,Lp,hlt',jI,E4,hi1,hi2,hN,qP,hy,h0]
    repeat' ((first|rw[AU]|rw[AT]|rw[AP]|rw[Al]|rw[AO]|rw[AN]);split<;>try simp only[aO,reduceCtorEq,KK,KL,KM,Lk,Lc,Lp,E4, *])
    all_goals first|with_reducible rfl|(simp [*];done)|(simp_all;done)|(simp_all;omega)|rfl
   ·have qP:¬(0:Int)<pre.length:=by omega
    clear hl hx hlt hok M7 Ix hnm
    simp only[aO,reduceCtorEq,KK,KL,KM,Lk,Lc,Lp,hlt',jI,E4,hi1,hi2,hN,qP,h0]
    repeat' ((first|rw[AU]|rw[AT]|rw[AP]|rw[Al]|rw[AO]|rw[AN]);split<;>try simp only[aO,reduceCtorEq,KK,KL,KM,Lk,Lc,Lp,E4, *])
    all_goals first|with_reducible rfl|(simp [*];done)|(simp_all;done)|(simp_all;omega)|rfl
  ·intro u _
   simp only[aO,reduceCtorEq,Int.lt_irrefl]
  ·intro u _;simp only[aO,reduceCtorEq]
  ·intros;simp only[aO,reduceCtorEq]
  ·refine(KZ (uu:=MO) ?_ ?_ (fun n=>some (AV.int .i64 n,σ)) l []).trans ?_
   ·intro pre;rfl
   ·intro pre x rest;rw[MO];simp only[FK,BF,BP]
   ·rfl
theorem adi (p:cV) (hok:Li p) (σ:Heap):NP [.agg (cm p)] σ=some (.int .i64 (ql p),σ):=by
 refine wrap_eq rfl ?_ rfl
 show NR (.agg (cm p)) σ=_
 obtain⟨pn,ps,l⟩:=p
 obtain⟨hnm,hps,Sq⟩:=hok
 simp only at hnm hps Sq
 have hN:=LV _ hnm
 unfold NR ql
 simp only[aO,reduceCtorEq,p7,rz,p9,rD,rB,rE,hN,jT]
 cases hn:tL pn
 ·simp only[aO,reduceCtorEq]
 cases hz:aR ps 1 512
 ·simp only[aO,reduceCtorEq]
 by_cases h0:l.length=0
 ·obtain rfl:l=[]:=List.eq_nil_of_length_eq_zero h0
  simp [aO,reduceCtorEq]
 have qP:¬(l.length:Int)=0:=by omega
 by_cases Tt:40<l.length
 ·have MQ:(40:Int)<l.length:=by omega
  simp only[aO,reduceCtorEq,h0,qP,Tt,MQ]
 have MQ:¬(40:Int)<l.length:=by omega
 simp only[aO,reduceCtorEq,h0,qP,Tt,MQ]
 refine(oI (S:=Unit) (R:=Int) l (fun pre x _=>
   if tL x.name=false then .out 5
   else if jv x.name (pre.map (·.name))=true then .out 6
   else if aR x.group 1 4=false then .out 4
   else if aR x.nh 1 ps=false∨aR x.lY 0 ps=false∨aR x.default 0 65535=false then .out 1
   else if x.nh=x.lY∨jv x.nh (slotsOf pre)=true∨(0<x.lY∧jv x.lY (slotsOf pre)=true)then .out 12
   else if zz x.ranges=0 then .go ()else .out (zz x.ranges))
  (fun pre _=>[.lbx (cm ⟨pn,ps,l⟩),.int .i64 0,.int .i64 (pre.length:Int)]) (fun pre _=>σ++[aJ.map (l5 (·.name) pre),aJ.map (qL id (slotsOf pre))])
  (fun _=>(.exit 1,[.lbx (cm ⟨pn,ps,l⟩),.int .i64 0,.int .i64 (l.length:Int)],σ++[aJ.map (l5 (·.name) l),aJ.map (qL id (slotsOf l))]))
  (fun pre _ r=>(.ret,[.lbx (cm ⟨pn,ps,l⟩),.int .i64 r,.int .i64 (pre.length:Int)],σ++[aJ.map (l5 (·.name) pre),aJ.map (qL id (slotsOf pre))]))
  (fun _ _=>True) () (fun _=>some (AV.int .i64 0,σ)) (fun r=>some (AV.int .i64 r,σ)) ?_ ?_ trivial (fun _ _ _ _ _ _ _ _=>trivial) ?_ ?_).trans ?_
 ·intro pre x rest u hl _
  have hx:=oL hl;have hlt:=rN hl;have hi1:IntKind.i64.wrap ((pre.length:Int)+1)=(pre.length:Int)+1:=wrap64 (by unfold aP;omega);have hi2:IntKind.i64.wrap ((pre.length:Int) -1)=(pre.length:Int) -1:=wrap64 (by unfold aP;omega);have hlt':(pre.length:Int)<(l.length:Int):=by omega
  obtain⟨k1,k2,k3,k4,k5,k6⟩:=Sq.2 x (by rw[hl];simp)
  have hNx:=LV _ k1
  have hRx:=adz _ k6
  have jI:=lM 7 eR l hx
  clear hl hx hlt Sq Tt MQ h0 qP k1 k2 k3 k4 k5 k6 hnm hps hN hn hz
  simp only[aO,reduceCtorEq,KJ,O4,O5,O6,O7,O8,O9,P4,PR,Lo,p7,rz,p9,rD,rB,rE,hlt',jI,jT,E4,hi1,hi2,hNx,hRx,List.map_id]
  repeat' ((first|rw[AU]|rw[AT]|rw[AP]|rw[Al]|rw[AO]|rw[AN]);split<;>try simp only[aO,reduceCtorEq,KJ,O4,O5,O6,O7,O8,O9,P4,PR,Lo,p7,rz,p9,rD,rB,rE,jT,E4,List.map_id,Xg,ahu,Bool.or_false, *])
  all_goals first|rfl|(simp_all;done)|(simp_all [Vj,Xg];done)|(simp only[Vj,ite_false,ite_true,if_false,if_true, *]<;>simp_all)
 ·intro u _
  simp only[aO,reduceCtorEq,Int.lt_irrefl]
 ·intro u _;simp only[aO,reduceCtorEq]
 ·intros;simp only[aO,reduceCtorEq]
 ·refine(KZ (uu:=Ce ps) ?_ ?_ (fun n=>some (AV.int .i64 n,σ)) l []).trans ?_
  ·intro pre;rfl
  ·intro pre x rest;rw[Ce];simp only[FK,BF,BP]
  ·rfl
theorem adh (l:List cV) (hok:eW Li l) (σ:Heap):NO [sl 3 cm l] σ=some (.int .i64 (wW l),σ):=by
 refine wrap_eq rfl ?_ rfl
 show NQ (sl 3 cm l) σ=_
 unfold NQ wW
 simp only[aO,reduceCtorEq]
 by_cases Gt:60<l.length
 ·have Ch:(60:Int)<l.length:=by omega
  simp only[aO,reduceCtorEq,Gt,Ch]
 have Ch:¬(60:Int)<l.length:=by omega
 simp only[aO,reduceCtorEq,Gt,Ch]
 refine(oI (S:=Unit) (R:=Int) l (fun pre x _=>if ql x=0 then(if jv x.name (pre.map (·.name))=true then .out 6 else .go ())else .out (ql x))
  (fun pre _=>[.int .i64 0,.int .i64 (pre.length:Int)]) (fun pre _=>σ++[aJ.map (l5 (·.name) pre)])
  (fun _=>(.exit 0,[.int .i64 0,.int .i64 (l.length:Int)],σ++[aJ.map (l5 (·.name) l)])) (fun pre _ r=>(.ret,[.int .i64 r,.int .i64 (pre.length:Int)],σ++[aJ.map (l5 (·.name) pre)]))
  (fun _ _=>True) () (fun _=>some (AV.int .i64 0,σ)) (fun r=>some (AV.int .i64 r,σ)) ?_ ?_ trivial (fun _ _ _ _ _ _ _ _=>trivial) ?_ ?_).trans ?_
 ·intro pre x rest u hl _
  have hx:=oL hl;have hlt:=rN hl;have hi1:IntKind.i64.wrap ((pre.length:Int)+1)=(pre.length:Int)+1:=wrap64 (by unfold aP;omega);have hi2:IntKind.i64.wrap ((pre.length:Int) -1)=(pre.length:Int) -1:=wrap64 (by unfold aP;omega);have hlt':(pre.length:Int)<(l.length:Int):=by omega
  have hP:=adi x (hok.2 x (by rw[hl];simp))
  have jI:=lM 3 cm l hx
  clear hl hx hlt hok Gt Ch
  simp only[aO,reduceCtorEq,p7,rz,p9,rD,rB,rE,hlt',jI,hi1,hP]
  repeat' ((first|rw[AU]|rw[AT]|rw[AP]|rw[Al]|rw[AO]|rw[AN]);split<;>try simp only[aO,reduceCtorEq,p7,rz,p9,rD,rB,rE, *])
  all_goals first|with_reducible rfl|(simp [*];done)|(simp_all;done)|(simp_all;omega)|rfl
 ·intro u _
  simp only[aO,reduceCtorEq,Int.lt_irrefl]
 ·intro u _;simp only[aO,reduceCtorEq]
 ·intros;simp only[aO,reduceCtorEq]
 ·refine(KZ (uu:=Cd) ?_ ?_ (fun n=>some (AV.int .i64 n,σ)) l []).trans ?_
  ·intro pre;rfl
  ·intro pre x rest;rw[Cd];simp only[FK,BF,BP]
  ·rfl
theorem aiD {α:Type} (p:α→Bool) (l:List α):decide (0≤kq p l)=l.any p:=by
 rcases Bo p l with⟨h1,h2,_⟩|⟨k,x,h1,h2,h3,_⟩
 ·rw[h1,Bool.eq_iff_iff]
  simp only[decide_eq_true_eq,List.any_eq_true]
  exact⟨fun h=>by omega,fun⟨x,hx,hp⟩=>by rw[h2 x hx]at hp;cases hp⟩
 ·rw[h3,Bool.eq_iff_iff]
  simp only[decide_eq_true_eq,List.any_eq_true]
  exact⟨fun _=>⟨x,List.mem_of_getElem? h1,h2⟩,fun _=>by omega⟩
theorem aby (dyn:Nat→List AV→Heap→Option (AV×Heap)) (l:List cV) (hl:l.length≤aW) (n:Nat) (caps:List AV) (p:cV→Bool) (σ:Heap) (hd:∀x∈l,dyn n ((.agg (cm x):AV)::caps) σ=some (.bool (p x),σ)):JY dyn [sl 3 cm l,.fn n caps] σ=some (.int .i64 (kq p l),σ):=by
 refine wrap_eq rfl ?_ rfl
 show JZ dyn (sl 3 cm l) (.fn n caps) σ=_
 unfold JZ
 simp only[aO,reduceCtorEq]
 refine(oI (S:=Unit) (R:=Int) l (fun pre x _=>if p x=true then .out (pre.length:Int)else .go ())
  (fun pre _=>[.int .i64 0,.int .i64 (pre.length:Int)]) (fun _ _=>σ) (fun _=>(.exit 0,[.int .i64 0,.int .i64 (l.length:Int)],σ)) (fun pre _ r=>(.ret,[.int .i64 (pre.length:Int),.int .i64 (pre.length:Int)],σ))
  (fun _ _=>True) () (fun _=>some (AV.int .i64 (-1),σ)) (fun r=>some (AV.int .i64 r,σ)) ?_ ?_ trivial (fun _ _ _ _ _ _ _ _=>trivial) ?_ ?_).trans ?_
 ·intro pre x rest u hl' _
  have hx:=oL hl'
  have hlt:=rN hl'
  have hi1:IntKind.i64.wrap ((pre.length:Int)+1)=(pre.length:Int)+1:=wrap64 (by unfold aP;unfold aW at hl;omega)
  have hlt':(pre.length:Int)<(l.length:Int):=by omega
  have jI:=lM 3 cm l hx
  have nV:=hd x (by rw[hl'];simp)
  simp only[aO,reduceCtorEq,p7,rz,p9,rD,rB,rE,hlt',jI,A.jF,List.cons_append,List.nil_append,nV,hi1]
  cases p x<;>simp [aO,reduceCtorEq]
 ·intro u _;simp only[aO,reduceCtorEq,Int.lt_irrefl]
 ·intro u _;simp only[aO,reduceCtorEq]
 ·intro pre x rest s q hl' _ hb
  have:q=(pre.length:Int):=by
   cases hpx:p x
   ·rw[hpx]at hb;cases hb
   ·rw[hpx]at hb;simp at hb;exact hb.symm
  simp only[aO,reduceCtorEq,this]
 ·rw[C8 p _ _ l [] (by simp)]
  simp only[List.nil_append]
  split
  ·rename_i h;rw[h]
  ·rfl
theorem abE (dyn:Nat→List AV→Heap→Option (AV×Heap)) (l:List fE) (hl:l.length≤aW) (n:Nat) (caps:List AV) (p:fE→Bool) (σ:Heap) (hd:∀x∈l,dyn n ((.agg (fG x):AV)::caps) σ=some (.bool (p x),σ)):GJ dyn [sl 8 fG l,.fn n caps] σ=some (.int .i64 (kq p l),σ):=by
 refine wrap_eq rfl ?_ rfl
 show J6 dyn (sl 8 fG l) (.fn n caps) σ=_
 unfold J6
 simp only[aO,reduceCtorEq]
 refine(oI (S:=Unit) (R:=Int) l (fun pre x _=>if p x=true then .out (pre.length:Int)else .go ())
  (fun pre _=>[.int .i64 0,.int .i64 (pre.length:Int)]) (fun _ _=>σ) (fun _=>(.exit 0,[.int .i64 0,.int .i64 (l.length:Int)],σ)) (fun pre _ r=>(.ret,[.int .i64 (pre.length:Int),.int .i64 (pre.length:Int)],σ))
  (fun _ _=>True) () (fun _=>some (AV.int .i64 (-1),σ)) (fun r=>some (AV.int .i64 r,σ)) ?_ ?_ trivial (fun _ _ _ _ _ _ _ _=>trivial) ?_ ?_).trans ?_
 ·intro pre x rest u hl' _
  have hx:=oL hl'
  have hlt:=rN hl'
  have hi1:IntKind.i64.wrap ((pre.length:Int)+1)=(pre.length:Int)+1:=wrap64 (by unfold aP;unfold aW at hl;omega)
  have hlt':(pre.length:Int)<(l.length:Int):=by omega
  have jI:=lM 8 fG l hx
  have nV:=hd x (by rw[hl'];simp)
  simp only[aO,reduceCtorEq,af8,af9,aga,agb,agc,agd,age,agf,aey,adE,aiU,aib,LQ,hlt',jI,A.jF,List.cons_append,List.nil_append,nV,hi1]
  cases p x<;>simp [aO,reduceCtorEq]
 ·intro u _;simp only[aO,reduceCtorEq,Int.lt_irrefl]
 ·intro u _;simp only[aO,reduceCtorEq]
 ·intro pre x rest s q hl' _ hb
  have:q=(pre.length:Int):=by
   cases hpx:p x
   ·rw[hpx]at hb;cases hb
   ·rw[hpx]at hb;simp at hb;exact hb.symm
  simp only[aO,reduceCtorEq,this]
 ·rw[C8 p _ _ l [] (by simp)]
  simp only[List.nil_append]
  split
  ·rename_i h;rw[h]
  ·rfl
theorem abI (dyn:Nat→List AV→Heap→Option (AV×Heap)) (l:List bf) (hl:l.length≤aW) (n:Nat) (caps:List AV) (p:bf→Bool) (σ:Heap) (hd:∀x∈l,dyn n ((.agg (aZ x):AV)::caps) σ=some (.bool (p x),σ)):GL dyn [sl 11 aZ l,.fn n caps] σ=some (.int .i64 (kq p l),σ):=by
 refine wrap_eq rfl ?_ rfl
 show J7 dyn (sl 11 aZ l) (.fn n caps) σ=_
 unfold J7
 simp only[aO,reduceCtorEq]
 refine(oI (S:=Unit) (R:=Int) l (fun pre x _=>if p x=true then .out (pre.length:Int)else .go ())
  (fun pre _=>[.int .i64 0,.int .i64 (pre.length:Int)]) (fun _ _=>σ) (fun _=>(.exit 0,[.int .i64 0,.int .i64 (l.length:Int)],σ)) (fun pre _ r=>(.ret,[.int .i64 (pre.length:Int),.int .i64 (pre.length:Int)],σ))
  (fun _ _=>True) () (fun _=>some (AV.int .i64 (-1),σ)) (fun r=>some (AV.int .i64 r,σ)) ?_ ?_ trivial (fun _ _ _ _ _ _ _ _=>trivial) ?_ ?_).trans ?_
 ·intro pre x rest u hl' _
  have hx:=oL hl'
  have hlt:=rN hl'
  have hi1:IntKind.i64.wrap ((pre.length:Int)+1)=(pre.length:Int)+1:=wrap64 (by unfold aP;unfold aW at hl;omega)
  have hlt':(pre.length:Int)<(l.length:Int):=by omega
  have jI:=lM 11 aZ l hx
  have nV:=hd x (by rw[hl'];simp)
  simp only[aO,reduceCtorEq,PZ,ahA,P0,W9,P3,Xa,ahB,ahC,ahD,Xb,V2,OF,HK,LY,HM,hlt',jI,A.jF,List.cons_append,List.nil_append,nV,hi1]
  cases p x<;>simp [aO,reduceCtorEq]
 ·intro u _;simp only[aO,reduceCtorEq,Int.lt_irrefl]
 ·intro u _;simp only[aO,reduceCtorEq]
 ·intro pre x rest s q hl' _ hb
  have:q=(pre.length:Int):=by
   cases hpx:p x
   ·rw[hpx]at hb;cases hb
   ·rw[hpx]at hb;simp at hb;exact hb.symm
  simp only[aO,reduceCtorEq,this]
 ·rw[C8 p _ _ l [] (by simp)]
  simp only[List.nil_append]
  split
  ·rename_i h;rw[h]
  ·rfl
theorem abD (dyn:Nat→List AV→Heap→Option (AV×Heap)) (l:List iR) (hl:l.length≤aW) (n:Nat) (caps:List AV) (p:iR→Bool) (σ:Heap) (hd:∀x∈l,dyn n ((.agg (dU x):AV)::caps) σ=some (.bool (p x),σ)):J4 dyn [sl 2 dU l,.fn n caps] σ=some (.int .i64 (kq p l),σ):=by
 refine wrap_eq rfl ?_ rfl
 show J5 dyn (sl 2 dU l) (.fn n caps) σ=_
 unfold J5
 simp only[aO,reduceCtorEq]
 refine(oI (S:=Unit) (R:=Int) l (fun pre x _=>if p x=true then .out (pre.length:Int)else .go ())
  (fun pre _=>[.int .i64 0,.int .i64 (pre.length:Int)]) (fun _ _=>σ) (fun _=>(.exit 0,[.int .i64 0,.int .i64 (l.length:Int)],σ)) (fun pre _ r=>(.ret,[.int .i64 (pre.length:Int),.int .i64 (pre.length:Int)],σ))
  (fun _ _=>True) () (fun _=>some (AV.int .i64 (-1),σ)) (fun r=>some (AV.int .i64 r,σ)) ?_ ?_ trivial (fun _ _ _ _ _ _ _ _=>trivial) ?_ ?_).trans ?_
 ·intro pre x rest u hl' _
  have hx:=oL hl'
  have hlt:=rN hl'
  have hi1:IntKind.i64.wrap ((pre.length:Int)+1)=(pre.length:Int)+1:=wrap64 (by unfold aP;unfold aW at hl;omega)
  have hlt':(pre.length:Int)<(l.length:Int):=by omega
  have jI:=lM 2 dU l hx
  have nV:=hd x (by rw[hl'];simp)
  simp only[aO,reduceCtorEq,af7,Py,aiT,aia,LP,hlt',jI,A.jF,List.cons_append,List.nil_append,nV,hi1]
  cases p x<;>simp [aO,reduceCtorEq]
 ·intro u _;simp only[aO,reduceCtorEq,Int.lt_irrefl]
 ·intro u _;simp only[aO,reduceCtorEq]
 ·intro pre x rest s q hl' _ hb
  have:q=(pre.length:Int):=by
   cases hpx:p x
   ·rw[hpx]at hb;cases hb
   ·rw[hpx]at hb;simp at hb;exact hb.symm
  simp only[aO,reduceCtorEq,this]
 ·rw[C8 p _ _ l [] (by simp)]
  simp only[List.nil_append]
  split
  ·rename_i h;rw[h]
  ·rfl
theorem abu (dyn:Nat→List AV→Heap→Option (AV×Heap)) (l:List lJ) (hl:l.length≤aW) (n:Nat) (caps:List AV) (p:lJ→Bool) (σ:Heap) (hd:∀x∈l,dyn n ((.agg (cz x):AV)::caps) σ=some (.bool (p x),σ)):JW dyn [sl 3 cz l,.fn n caps] σ=some (.int .i64 (kq p l),σ):=by
 refine wrap_eq rfl ?_ rfl
 show JX dyn (sl 3 cz l) (.fn n caps) σ=_
 unfold JX
 simp only[aO,reduceCtorEq]
 refine(oI (S:=Unit) (R:=Int) l (fun pre x _=>if p x=true then .out (pre.length:Int)else .go ())
  (fun pre _=>[.int .i64 0,.int .i64 (pre.length:Int)]) (fun _ _=>σ) (fun _=>(.exit 0,[.int .i64 0,.int .i64 (l.length:Int)],σ)) (fun pre _ r=>(.ret,[.int .i64 (pre.length:Int),.int .i64 (pre.length:Int)],σ))
  (fun _ _=>True) () (fun _=>some (AV.int .i64 (-1),σ)) (fun r=>some (AV.int .i64 r,σ)) ?_ ?_ trivial (fun _ _ _ _ _ _ _ _=>trivial) ?_ ?_).trans ?_
 ·intro pre x rest u hl' _
  have hx:=oL hl'
  have hlt:=rN hl'
  have hi1:IntKind.i64.wrap ((pre.length:Int)+1)=(pre.length:Int)+1:=wrap64 (by unfold aP;unfold aW at hl;omega)
  have hlt':(pre.length:Int)<(l.length:Int):=by omega
  have jI:=lM 3 cz l hx
  have nV:=hd x (by rw[hl'];simp)
  simp only[aO,reduceCtorEq,adA,adB,adC,aez,aej,Vk,hlt',jI,A.jF,List.cons_append,List.nil_append,nV,hi1]
  cases p x<;>simp [aO,reduceCtorEq]
 ·intro u _;simp only[aO,reduceCtorEq,Int.lt_irrefl]
 ·intro u _;simp only[aO,reduceCtorEq]
 ·intro pre x rest s q hl' _ hb
  have:q=(pre.length:Int):=by
   cases hpx:p x
   ·rw[hpx]at hb;cases hb
   ·rw[hpx]at hb;simp at hb;exact hb.symm
  simp only[aO,reduceCtorEq,this]
 ·rw[C8 p _ _ l [] (by simp)]
  simp only[List.nil_append]
  split
  ·rename_i h;rw[h]
  ·rfl
theorem abp (dyn:Nat→List AV→Heap→Option (AV×Heap)) (l:List lJ) (hl:l.length≤aW) (n:Nat) (caps:List AV) (p:lJ→Bool) (σ:Heap) (hd:∀x∈l,dyn n ((.agg (cz x):AV)::caps) σ=some (.bool (p x),σ)):JU dyn [sl 3 cz l,.fn n caps] σ=some (.bool (l.any p),σ):=by
 refine wrap_eq rfl ?_ rfl
 show JV dyn (sl 3 cz l) (.fn n caps) σ=_
 unfold JV
 simp only[aO,reduceCtorEq,abu dyn l hl n caps p σ hd]
 refine congrArg some (congrArg (fun b=>(AV.bool b,σ)) ?_)
 exact aiD p l
theorem Pa (nm:ByteArray):∀(l:List cV),jV nm l=match l.find? (fun x:cV=>decide (x.name=nm))with|some p=>(p,true)|none=>(⟨⟨#[]⟩,0,[]⟩,false)
 |[]=>rfl
 |p::l=>by
  rw[jV]
  by_cases h:p.name=nm
  ·simp [h]
  ·simp [h,Pa nm l]
theorem adF (x:cV) (nm:ByteArray) (σ:Heap):GO [.agg (cm x),.rp [.str nm]] σ=some (.bool (decide (x.name=nm)),σ):=by
 refine wrap_eq rfl ?_ rfl
 show NW (.agg (cm x)) (.rp [.str nm]) σ=_
 unfold NW
 simp only[aO,reduceCtorEq,p7,rz,p9,rD,rB,rE]
 show(some (AV.str nm)).bind _=_
 simp only[aO,reduceCtorEq]
theorem nnP (x:ew):A.bV [.k,.k,.k,.k,.k,.k,(.s 3)] (eR x)=eR x:=rfl
theorem alw (p:cV) (b:Bool):A.nn (.t [(.a Dr),.k]) (.aG [.agg (cm p),.bool b])=.aG [.agg (cm p),.bool b]:=by
 show AV.aG [.agg [.str p.name,.int .i64 p.size,A.nn (.e 7 [.k,.k,.k,.k,.k,.k,(.s 3)]) (sl 7 eR p.params)],.bool b]=_
 rw[tW nnP];rfl
theorem V8 (l:List cV) (hl:l.length≤aW) (nm:ByteArray) (σ:Heap):Ki [sl 3 cm l,.str nm] σ=some (.aG [.agg (cm (jV nm l).1),.bool (jV nm l).2],σ):=by
 have key:∃w,Km (sl 3 cm l) (.str nm) σ=some (w,σ)∧A.nn (.t [(.a Dr),.k]) w=.aG [.agg (cm (jV nm l).1),.bool (jV nm l).2]:=by
  unfold Km
  simp only[aO,reduceCtorEq]
  rw[aby _ l hl 64 [.rp [.str nm]] (fun x=>decide (x.name=nm)) σ (fun x _=>adF x nm σ)]
  simp only[aO,reduceCtorEq]
  rw[Pa]
  rcases Bo (fun x:cV=>decide (x.name=nm)) l with⟨h1,_,h3⟩|⟨k,x,h1,h2,h3,h4,_⟩
  ·refine⟨.aG [.agg [.str ⟨#[]⟩,.int .i64 0,.au],.bool false],?_,?_⟩
   ·rw[h1]
    simp only[aO,reduceCtorEq,show((-1:Int)<0)from by decide]
    rfl
   ·rw[h3];rfl
  ·refine⟨.aG [.agg (cm x),.bool true],?_,?_⟩
   ·rw[h3]
    simp only[aO,reduceCtorEq,p7,rz,p9,rD,rB,rE,show ¬((k:Int)<0)from by omega,lM 3 cm l h1]
   ·rw[h4];exact alw x true
 obtain⟨w,h1,h2⟩:=key
 exact wrap_eq rfl h1 h2
def marks (f:Nat→Bool):List AV:=(List.range 513).map fun k=>.bool (f k)
theorem Fh (f:Nat→Bool) {k:Nat} (h:k<513):(marks f)[k]? =some (.bool (f k)):=by simp [marks,h]
theorem C0 (f:Nat→Bool):(marks f).length=513:=by simp [marks]
theorem WI (f:Nat→Bool) {γ:Type} (K1 K2:γ):∀(s a:Nat) (pre:List Nat),(kr (fun _ k (_:Unit)=>if 512<k∨f k=true then(Rd.out ():Rd Unit Unit)else .go ()) pre (List.range' a s) ()).el (fun _=>K1) (fun _=>K2)=if u9 f s a=true then K1 else K2
 |0,a,pre=>by simp [kr,u9,Rd.el]
 |s+1,a,pre=>by
  rw[List.range'_succ,kr,u9]
  by_cases h:512<a∨f a=true
  ·simp only[if_pos h,Rd.el];simp
  ·simp only[if_neg h]
   exact WI f K1 K2 s (a+1) _
theorem ajT (a s:Int) (h:aP (a+s)) (h':aP (a+s-1)) (σ:Heap):EM [.np,.int .i64 a,.int .i64 s] σ=some (.bool (decide (a+s-1≤512)),σ):=by
 refine wrap_eq rfl ?_ rfl
 show GP .np (.int .i64 a) (.int .i64 s) σ=_
 unfold GP
 simp only[aO,reduceCtorEq,show A.eql .p AV.np AV.np=some (.bool true)from rfl,wrap64 h,wrap64 h']
theorem ah1 (cs:List AV) {k:Nat} (h:k<513):A.yF 513 1 (.rp cs) (.int .i64 (k:Int))=some (.rp (cs.drop k)):=by
 have h1:A.idx 513 (.int .i64 (k:Int))=some k:=by
  show(if(0:Int)≤(k:Int)∧(k:Int)<((513:Nat):Int)then some (k:Int).toNat else none)=some k
  rw[if_pos ⟨by omega,by omega⟩];rfl
 unfold A.yF
 rw[h1]
 simp only[Option.bind_some,Nat.mul_one]
theorem ajV (f:Nat→Bool) (a s:Nat) (hs:a≤1024∧s≤1024) (σ:Heap):EM [.rp (marks f),.int .i64 (a:Int),.int .i64 (s:Int)] σ=some (.bool (u9 f s a),σ):=by
 refine wrap_eq rfl ?_ rfl
 show GP (.rp (marks f)) (.int .i64 (a:Int)) (.int .i64 (s:Int)) σ=_
 unfold GP
 have hw:IntKind.i64.wrap ((a:Int)+s)=(a:Int)+s:=wrap64 (by unfold aP;omega)
 simp only[aO,reduceCtorEq,show A.eql .p (AV.rp (marks f)) AV.np=some (.bool false)from rfl,hw]
 refine(oI (S:=Unit) (R:=Unit) (List.range' a s) (fun _ k (_:Unit)=>if 512<k∨f k=true then(Rd.out ():Rd Unit Unit)else .go ())
  (fun pre _=>[.bool false,.int .i64 ((a:Int)+(pre.length:Int))]) (fun _ _=>σ) (fun _=>(.exit 0,[.bool false,.int .i64 ((a:Int)+s)],σ)) (fun pre _ _=>(.ret,[.bool false,.int .i64 ((a:Int)+(pre.length:Int))],σ))
  (fun _ _=>True) () (fun _=>some (AV.bool true,σ)) (fun _=>some (AV.bool false,σ)) ?_ ?_ trivial (fun _ _ _ _ _ _ _ _=>trivial) ?_ ?_ (hv:=by simp)).trans ?_
 ·intro pre k rest u hl _
  have hx:=oL hl
  have hlt:=rN hl
  rw[List.length_range']at hlt
  obtain rfl:a+pre.length=k:=by
   have:=(List.getElem?_eq_some_iff.1 hx).2
   simpa [List.getElem_range']using this
  have hlt':(a:Int)+(pre.length:Int)<(a:Int)+s:=by omega
  have hi1:IntKind.i64.wrap ((a:Int)+(pre.length:Int)+1)=(a:Int)+((pre.length:Int)+1):=by rw[wrap64 (by unfold aP;omega)];omega
  have ecast:(a:Int)+(pre.length:Int)=((a+pre.length:Nat):Int):=by omega
  clear hl hx
  by_cases h5:512<a+pre.length
  ·have Tu:(512:Int)<(a:Int)+(pre.length:Int):=by omega
   simp only[aO,reduceCtorEq,hlt',h5,Tu]
  have Tu:¬(512:Int)<(a:Int)+(pre.length:Int):=by omega
  have hp:A.aj 0 ((marks f).drop (a+pre.length))=some (.bool (f (a+pre.length))):=by
   rw[TX];simp only[A.aj,Nat.add_zero,Fh f (show a+pre.length<513 by omega)];rfl
  simp only[aO,reduceCtorEq,hlt',h5,Tu,show A.aL (AV.rp (marks f))=some (.rp (marks f))from rfl]
  rw[ecast,ah1 _ (by omega)]
  simp only[aO,reduceCtorEq,hp]
  cases hf:f (a+pre.length)
  ·simp only[aO,reduceCtorEq,←ecast,hi1]
  ·simp only[aO,reduceCtorEq,←ecast]
 ·intro u _
  rw[List.length_range']
  exact Fp _ _ _
 ·intro u _;simp only[aO,reduceCtorEq]
 ·intros;simp only[aO,reduceCtorEq]
 ·rw[WI]
  cases u9 f s a<;>rfl
theorem ajU (f:Nat→Bool) (a s:Nat) (hs:a≤1024∧s≤1024) {σ:Heap} {id:Nat} (h:σ[id]? =some (.box (marks f))):EM [.op id 0,.int .i64 (a:Int),.int .i64 (s:Int)] σ=some (.bool (u9 f s a),σ):=by
 refine Yq (args':=[.rp (marks f),.int .i64 (a:Int),.int .i64 (s:Int)]) rfl ?_ rfl (ajV f a s hs []) rfl
 have e:A.tK σ 0 7 (marks f)=some (marks f):=by
  have key:∀(l:List Nat),A.tK σ 0 7 (l.map fun k=>AV.bool (f k))=some (l.map fun k=>AV.bool (f k)):=by
   intro l
   induction l with
   |nil=>simp [A.tK]
   |cons x l ih=>simp [A.tK,A.bw,ih]
  exact key _
 simp [A.eO,A.bw,h,e]
def tF (b:Nat):List Int→List (AV×AV)
 |[]=>[]
 |v::r=>(.int .i64 v,.op b 0)::tF (b+1) r
def iC (σ:Heap) (vs:List Int) (f:Int→Nat→Bool):Heap:=σ++(aJ.map (tF (σ.length+1) vs)::vs.map fun v=>aJ.box (marks (f v)))
theorem Yo (v:Int):∀(vs:List Int) (b:Nat),tF b (vs++[v])=tF b vs++[(.int .i64 v,.op (b+vs.length) 0)]
 |[],b=>rfl
 |w::r,b=>by
  simp only[List.cons_append,tF,Yo v r (b+1),List.length_cons]
  rw[show b+1+r.length=b+(r.length+1) by omega]
theorem LU (v:Int):∀(vs:List Int) (b:Nat),A.find .i (.int .i64 v) (tF b vs)=some (if v∈vs then some (.op (b+vs.idxOf v) 0)else none)
 |[],b=>rfl
 |w::r,b=>by
  simp only[tF,A.find,A.ef,A.mJ,if_true,Option.bind_some]
  by_cases h:v=w
  ·subst h;simp
  ·have h1:(v==w)=false:=by simpa using h
   have h2:(w==v)=false:=by simpa using fun e:w=v=>h e.symm
   simp only[h1,cond_false,LU v r (b+1),List.mem_cons,h,false_or,List.idxOf_cons,h2]
   rw[show b+1+r.idxOf v=b+(r.idxOf v+1) by omega]
theorem Zb (v:Int) (w:AV):∀(vs:List Int) (b:Nat),v∉vs→A.upd .i (.int .i64 v) w (tF b vs)=some (tF b vs++[(.int .i64 v,w)])
 |[],b,_=>rfl
 |x::r,b,h=>by
  simp only[List.mem_cons,not_or]at h
  have h1:(v==x)=false:=by simpa using h.1
  simp only[tF,A.upd,A.ef,A.mJ,if_true,Option.bind_some,h1,cond_false,Zb v w r (b+1) h.2,Option.map_some,List.cons_append]
theorem Zd (σ:Heap) (vs:List Int) (f:Int→Nat→Bool):(iC σ vs f).length=σ.length+1+vs.length:=by simp [iC];omega
theorem Me (σ:Heap) (vs:List Int) (f:Int→Nat→Bool):(iC σ vs f)[σ.length]? =some (.map (tF (σ.length+1) vs)):=by simp [iC]
theorem Zc (σ:Heap) {vs:List Int} (f:Int→Nat→Bool) {v:Int} (h:v∈vs):(iC σ vs f)[σ.length+1+vs.idxOf v]? =some (.box (marks (f v))):=by
 unfold iC
 rw[List.getElem?_append_right (by omega),show σ.length+1+vs.idxOf v-σ.length=vs.idxOf v+1 by omega,List.getElem?_cons_succ,List.getElem?_map]
 have:vs[vs.idxOf v]? =some v:=by
  have hl:=List.idxOf_lt_length_of_mem h
  rw[List.getElem?_eq_getElem hl,List.getElem_idxOf hl]
 rw[this];rfl
theorem akW (σ:Heap) {vs:List Int} (hn:vs.Nodup) {f f':Int→Nat→Bool} {v:Int} (h:v∈vs) (ho:∀w,w≠v→f' w=f w):(iC σ vs f).set (σ.length+1+vs.idxOf v) (.box (marks (f' v)))=iC σ vs f':=by
 unfold iC
 rw[List.set_append_right _ _ (by omega),show σ.length+1+vs.idxOf v-σ.length=vs.idxOf v+1 by omega,List.set_cons_succ]
 refine congrArg (fun z=>σ++(aJ.map (tF (σ.length+1) vs)::z)) ?_
 clear σ
 induction vs with
 |nil=>cases h
 |cons w r ih=>
  rw[List.nodup_cons]at hn
  rw[List.idxOf_cons]
  by_cases e:w=v
  ·subst e
   simp only[beq_self_eq_true,cond_true,List.map_cons,List.set_cons_zero]
   exact congrArg (aJ.box (marks (f' w))::·) (List.map_congr_left fun x hx=>by rw[ho x (fun e=>hn.1 (e▸hx))])
  ·have e2:(w==v)=false:=by simpa using e
   simp only[e2,cond_false,List.map_cons,List.set_cons_succ]
   rw[ih hn.2 ((List.mem_cons.1 h).resolve_left fun q=>e q.symm),ho w e]
theorem akV (σ:Heap) (vs:List Int) {f:Int→Nat→Bool} {v:Int} (h:∀k,f v k=false):((iC σ vs f)++[aJ.box (List.replicate 513 aM)]).set σ.length (.map (tF (σ.length+1) (vs++[v])))=iC σ (vs++[v]) f:=by
 have e:marks (f v)=List.replicate 513 aM:=by
  rw[show f v=fun _=>false from funext h]
  refine List.eq_replicate_iff.2 ⟨C0 _,fun b hb=>?_⟩
  obtain⟨k,_,rfl⟩:=List.mem_map.1 hb
  rfl
 unfold iC
 simp only[List.append_assoc,List.cons_append]
 rw[List.set_append_right _ _ (Nat.le_refl _),Nat.sub_self,List.set_cons_zero,List.map_append,List.map_cons,e]
 rfl
theorem aht (g g':Nat→Bool) {k:Nat} (hk:k<513) (h1:g' k=true) (h2:∀j,j≠k→g' j=g j):A.splice k [AV.bool true] (marks g)=some (marks g'):=by
 unfold A.splice
 rw[if_pos (by rw[C0];simp;omega)]
 refine congrArg some (List.ext_getElem? fun j=>?_)
 simp only[List.append_assoc,List.cons_append,List.nil_append,List.length_cons,List.length_nil]
 by_cases hj:j<k
 ·rw[List.getElem?_append_left (by rw[List.length_take,C0];omega),List.getElem?_take_of_lt hj,Fh _ (by omega),Fh _ (by omega),h2 j (by omega)]
 ·rw[List.getElem?_append_right (by rw[List.length_take,C0];omega),List.length_take,C0,Nat.min_eq_left (by omega)]
  by_cases e:j=k
  ·subst e
   rw[Nat.sub_self,List.getElem?_cons_zero,Fh _ hk,h1]
  ·rw[show j-k=(j-k-1)+1 by omega,List.getElem?_cons_succ,List.getElem?_drop,show k+(0+1)+(j-k-1)=j by omega]
   by_cases hj2:j<513
   ·rw[Fh _ hj2,Fh _ hj2,h2 j e]
   ·rw[List.getElem?_eq_none (by rw[C0];omega),List.getElem?_eq_none (by rw[C0];omega)]
theorem Ms {α γ:Type} (K1:Unit→γ) (K2:Unit→γ):∀(l pre:List α),(kr (fun _ (x:α) (_:Unit)=>(Rd.go ():Rd Unit Unit)) pre l ()).el K1 K2=K1 ()
 |[],pre=>rfl
 |x::l,pre=>by rw[kr];exact Ms K1 K2 l _
theorem We {α S:Type} {body:List α→α→S→Rd S Int} {uu:List α→List α→Int} (h0:∀pre,uu pre []=0) (h:∀pre x rest s,uu pre (x::rest)=(body pre x s).el (fun _=>uu (pre++[x]) rest) (fun r=>r)) {γ:Type} (K:Int→γ):
  ∀(l pre:List α) (s:S),(kr body pre l s).el (fun _=>K 0) K=K (uu pre l)
 |[],pre,s=>by rw[kr,h0];rfl
 |x::l,pre,s=>by
  rw[kr,h pre x l s]
  cases body pre x s with
  |go s'=>exact We h0 h K l (pre++[x]) s'
  |out r=>rfl
theorem af1 (f:Int→Nat→Bool) (v:Int) (a:Nat):nC f v a 0=f:=by
 funext w k
 unfold nC
 rw[if_neg (by omega)]
theorem Xq {γ:Type} (σ:Heap) {vs:List Int} (hn:vs.Nodup) (f:Int→Nat→Bool) (u:gY) (a s:Nat) (ha:u.address=a) (hs:a+s≤513) (hm:u.univ∈vs) (K:List AV→Heap→Option γ):
  (A.loop (fun v11 kK=>
   ((A.lb (v11.getD 0 AV.undef)).bind fun _=>some (3)).bind fun p13=>
   ((A.lb (v11.getD 0 AV.undef)).bind fun jP=>A.aj p13 jP).bind fun dg=>
   (A.add dg (.int .i64 (s:Int))).bind fun cG=>
   (A.lss (v11.getD 1 AV.undef) cG).bind fun cB=>
   A.cond cB (
    ((A.lb (v11.getD 0 AV.undef)).bind fun _=>some (2)).bind fun p18=>
    ((A.lb (v11.getD 0 AV.undef)).bind fun gM=>A.aj p18 gM).bind fun cR=>
    (A.look .i (.om σ.length) cR AV.np kK).bind fun bO=>
    (A.aL bO).bind fun dh=>
    (A.yF 513 1 dh (v11.getD 1 AV.undef)).bind fun eP=>
    (A.storeAt eP [AV.bool true] kK).bind fun gP=>
    (A.add (v11.getD 1 AV.undef) aH).bind fun fA=>
    some (AX.normal,[(v11.getD 0 AV.undef),fA],gP)) (
    some (AX.exit 0,[(v11.getD 0 AV.undef),(v11.getD 1 AV.undef)],kK))) [.lbx (bU u),.int .i64 (a:Int)] (iC σ vs f)).bind (fun sy=>
 bif decide (sy.1=AX.exit 0)then K sy.2.1 sy.2.2 else none)=K [.lbx (bU u),.int .i64 ((a:Int)+s)] (iC σ vs (nC f u.univ a s)):=by
 have hw:IntKind.i64.wrap ((a:Int)+s)=(a:Int)+s:=wrap64 (by unfold aP;omega)
 refine(oI (S:=Unit) (R:=Unit) (List.range' a s) (fun _ k (_:Unit)=>(Rd.go ():Rd Unit Unit))
  (fun pre _=>[.lbx (bU u),.int .i64 ((a:Int)+(pre.length:Int))]) (fun pre _=>iC σ vs (nC f u.univ a pre.length)) (fun _=>(.exit 0,[.lbx (bU u),.int .i64 ((a:Int)+s)],iC σ vs (nC f u.univ a s))) (fun pre _ _=>(.ret,[],σ))
  (fun _ _=>True) () (fun _=>K [.lbx (bU u),.int .i64 ((a:Int)+s)] (iC σ vs (nC f u.univ a s))) (fun _=>none) ?_ ?_ trivial (fun _ _ _ _ _ _ _ _=>trivial) ?_ ?_ (hv:=by simp) (fS:=by rw[List.length_nil,af1])).trans (Ms _ _ _ _)
 ·intro pre k rest t hl _
  have hx:=oL hl
  have hlt:=rN hl
  rw[List.length_range']at hlt
  obtain rfl:a+pre.length=k:=by
   have:=(List.getElem?_eq_some_iff.1 hx).2
   simpa [List.getElem_range']using this
  have hlt':(a:Int)+(pre.length:Int)<(a:Int)+s:=by omega
  have hi1:IntKind.i64.wrap ((a:Int)+(pre.length:Int)+1)=(a:Int)+((pre.length:Int)+1):=by rw[wrap64 (by unfold aP;omega)];omega
  have ecast:(a:Int)+(pre.length:Int)=((a+pre.length:Nat):Int):=by omega
  clear hl hx
  have Ro:A.look .i (.om σ.length) (.int .i64 u.univ) AV.np (iC σ vs (nC f u.univ a pre.length))=some (.op (σ.length+1+vs.idxOf u.univ) 0):=by
   rw[By .i rfl (Me σ vs _),LU,if_pos hm];rfl
  have anO:A.yF 513 1 (.op (σ.length+1+vs.idxOf u.univ) 0) (.int .i64 ((a+pre.length:Nat):Int))=some (.op (σ.length+1+vs.idxOf u.univ) (a+pre.length)):=by
   have h1:A.idx 513 (.int .i64 ((a+pre.length:Nat):Int))=some (a+pre.length):=by
    show(if(0:Int)≤((a+pre.length:Nat):Int)∧((a+pre.length:Nat):Int)<((513:Nat):Int)then some ((a+pre.length:Nat):Int).toNat else none)=_
    rw[if_pos ⟨by omega,by omega⟩];rfl
   unfold A.yF
   rw[h1]
   simp only[Option.bind_some,Nat.mul_one,Nat.zero_add]
  have hst:A.storeAt (.op (σ.length+1+vs.idxOf u.univ) (a+pre.length)) [.bool true] (iC σ vs (nC f u.univ a pre.length))=some (iC σ vs (nC f u.univ a (pre.length+1))):=by
   simp only[A.storeAt,Zc σ _ hm]
   rw[aht _ (nC f u.univ a (pre.length+1) u.univ) (by omega) (by unfold nC;rw[if_pos ⟨rfl,by omega,by omega⟩]) (fun j hj=>by
    unfold nC
    by_cases q:a≤j∧j<a+pre.length
    ·rw[if_pos ⟨rfl,by omega,by omega⟩,if_pos ⟨rfl,q.1,q.2⟩]
    ·rw[if_neg (by omega),if_neg (by omega)])]
   simp only[Option.map_some]
   rw[akW σ hn hm (fun w hw=>by funext j;unfold nC;rw[if_neg (fun q=>hw q.1),if_neg (fun q=>hw q.1)])]
  simp only[aO,reduceCtorEq,qc,qd,qg,qh,qj,qi,qm,ha,hw,hlt',Ro,show A.aL (.op (σ.length+1+vs.idxOf u.univ) 0)=some (.op (σ.length+1+vs.idxOf u.univ) 0)from rfl]
  rw[ecast,anO]
  simp only[aO,reduceCtorEq,hst,←ecast,hi1]
 ·intro t _
  rw[List.length_range']
  simp only[aO,reduceCtorEq,qc,qd,qg,qh,qj,qi,qm,ha,hw,Int.lt_irrefl]
 ·intro t _;simp only[aO,reduceCtorEq]
 ·intro pre x rest t r _ _ hb;cases hb
theorem akS (σ:Heap) {vs:List Int} (hn:vs.Nodup) (f:Int→Nat→Bool) (u:gY) (a s:Nat) (ha:u.address=a) (hs:a+s≤513) (hf:u.univ∉vs→∀k,f u.univ k=false):
  Kp [.om σ.length,.agg (bU u),.int .i64 (s:Int)] (iC σ vs f)=some (.aG [],iC σ (if u.univ∈vs then vs else vs++[u.univ]) (nC f u.univ a s)):=by
 have e:G5 (.om σ.length) (.agg (bU u)) (.int .i64 (s:Int)) (iC σ vs f)=some (.aG [],iC σ (if u.univ∈vs then vs else vs++[u.univ]) (nC f u.univ a s)):=by
  unfold G5
  have Ro:A.look .i (.om σ.length) (.int .i64 u.univ) AV.np (iC σ vs f)=some (if u.univ∈vs then .op (σ.length+1+vs.idxOf u.univ) 0 else .np):=by
   rw[By .i rfl (Me σ vs _),LU]
   by_cases hm:u.univ∈vs<;>simp [hm]
  simp only[aO,reduceCtorEq,qc,qd,qg,qh,qj,qi,qm,Ro]
  by_cases hm:u.univ∈vs
  ·simp only[if_pos hm,show A.eql .p (.op (σ.length+1+vs.idxOf u.univ) 0) AV.np=some (.bool false)from rfl,aO,reduceCtorEq,qc,qd,qg,qh,qj,qi,qm,ha]
   exact Xq σ hn f u a s ha hs hm fun _ h=>some (AV.aG [],h)
  ·have hup:A.eA .i (.om σ.length) (.int .i64 u.univ) (.op (iC σ vs f).length 0) (iC σ vs f++[aJ.box (List.replicate 513 aM)])=some (iC σ (vs++[u.univ]) f):=by
    rw[zx .i rfl (es:=tF (σ.length+1) vs) (by rw[List.getElem?_append_left (by rw[Zd];omega)];exact Me σ vs f),Zb _ _ _ _ hm]
    rw[Option.map_some,Zd,←Yo,akV σ vs (hf hm)]
   simp only[if_neg hm,show A.eql .p AV.np AV.np=some (.bool true)from rfl,aO,reduceCtorEq,qc,qd,qg,qh,qj,qi,qm,hup,ha]
   exact Xq σ (by rw[List.nodup_append];exact⟨hn,by simp,fun x hx y hy e=>hm (by simp at hy;rw[←hy,←e];exact hx)⟩) f u a s ha hs (by simp) fun _ h=>some (AV.aG [],h)
 unfold Kp A.wrap
 rw[Bool.false_and,cond_false]
 show(G5 (.om σ.length) (.agg (bU u)) (.int .i64 (s:Int)) (iC σ vs f)).map _=_
 rw[e];rfl
theorem af4 {α:Type} (f:α→Int) {l pre rest:List α} {x:α} (h:l=pre++x::rest) (n:Int):(∃y,0<pre.length∧l[pre.length-1]? =some y∧DN (pre.map f) n=decide (n≤f y))∨(¬0<pre.length∧DN (pre.map f) n=false):=by
 by_cases h0:0<pre.length
 ·obtain⟨y,hy,hy2⟩:=X7 h h0
  exact .inl ⟨y,h0,hy2,by simp [DN,List.getLast?_map,hy]⟩
 ·obtain rfl:pre=[]:=List.eq_nil_of_length_eq_zero (by omega)
  exact .inr ⟨h0,rfl⟩
theorem ajk (σ:Heap) (vs:List Int) (f:Int→Nat→Bool) (v:Int):A.look .i (.om σ.length) (.int .i64 v) AV.np (iC σ vs f)=some (if v∈vs then .op (σ.length+1+vs.idxOf v) 0 else .np):=by
 rw[By .i rfl (Me σ vs _),LU]
 by_cases hm:v∈vs<;>simp [hm]
theorem YE (σ:Heap) (vs:List Int) (f:Int→Nat→Bool) (n:Int):A.fin σ (.int .i64 n) (iC σ vs f)=some (.int .i64 n,σ):=QD _ _ _ _
theorem O1 (r:gr) (hok:BX r) (σ:Heap):Kb [.agg (jM r)] σ=some (.int .i64 (jZ r),σ):=by
 refine wrap_eq rfl ?_ rfl
 show N3 (.agg (jM r)) σ=_
 obtain⟨Sp,TM⟩:=hok
 have Jf:=Sp.1
 unfold N3 jZ
 simp only[aO,reduceCtorEq,yg,yh,yx,yq,yy,adh _ Sp]
 by_cases hf:wW r.aY=0
 case neg=>simp only[aO,reduceCtorEq,hf]
 by_cases h4:400<r.units.length
 ·have h4':(400:Int)<r.units.length:=by omega
  simp only[aO,reduceCtorEq,yg,yh,yx,yq,yy,hf,h4,h4']
 have h4':¬(400:Int)<r.units.length:=by omega
 simp only[aO,reduceCtorEq,yg,yh,yx,yq,yy,hf,h4,h4']
 have ZF:=afY hf
 generalize Ng:r.units=l at *
 refine(oI (S:=List Int×(Int→Nat→Bool)) (R:=Int) l (fun pre u s=>if aR u.number 1 9999=false then .out 1
    else if DN (pre.map (·.number)) u.number=true then .out 7
    else if(jV u.profile r.aY).2=false then .out 5
    else if aR u.univ 1 64=false∨aR u.address 1 512=false∨512<oT r.aY u then .out 1
    else if FJ r.aY u pre=true then .out 12 else .go (if u.univ∈s.1 then s.1 else s.1++[u.univ],nC s.2 u.univ u.address.toNat (jV u.profile r.aY).1.size.toNat))
  (fun pre _=>[.lbx (jM r),.int .i64 0,.int .i64 (pre.length:Int)]) (fun pre s=>iC σ s.1 s.2)
  (fun s=>(.exit 0,[.lbx (jM r),.int .i64 0,.int .i64 (l.length:Int)],iC σ s.1 s.2)) (fun pre s n=>(.ret,[.lbx (jM r),.int .i64 n,.int .i64 (pre.length:Int)],iC σ s.1 s.2))
  (fun pre s=>HD r.aY pre∧BD r.aY pre s.2∧s.1.Nodup∧∀v,v∉s.1→∀k,s.2 v k=false) ([],fun _ _=>false) (fun _=>some (AV.int .i64 0,σ)) (fun n=>some (AV.int .i64 n,σ)) ?_ ?_ ⟨(by intro x hx;simp at hx),BD.nil _,List.nodup_nil,fun _ _ _=>rfl⟩ ?_ ?_ ?_).trans ?_
 ·intro pre u rest s hl hP
  have hx:=oL hl;have hlt:=rN hl;have hi1:IntKind.i64.wrap ((pre.length:Int)+1)=(pre.length:Int)+1:=wrap64 (by unfold aP;omega);have hi2:IntKind.i64.wrap ((pre.length:Int) -1)=(pre.length:Int) -1:=wrap64 (by unfold aP;omega);have hlt':(pre.length:Int)<(l.length:Int):=by omega
  have hmp:pre.length≤aW:=by unfold aW;omega
  have jI:=lM 4 bU l hx
  have M9:=V8 r.aY Jf u.profile
  have ho:=af4 (·.number) hl u.number
  obtain⟨vs,f⟩:=s
  obtain⟨I7,I8,Gu,Gv⟩:=hP
  dsimp only at I7 I8 Gu Gv ⊢
  clear TM h4 h4' hl hx
  simp only[aO,reduceCtorEq,qc,qd,qg,qh,qj,qi,qm,yg,yh,yx,yq,yy,Ng,hlt',jI,M9,p7,rz,p9,rD,rB,rE,jT]
  cases h1:aR u.number 1 9999
  ·simp only[aO,reduceCtorEq]
  simp only[aO,reduceCtorEq]
  rcases ho with⟨y,h0,hy,ho⟩|⟨h0,ho⟩
  case' inl=>
   have qP:(0:Int)<pre.length:=by omega
   have Sj:=KS 4 bU l h0 hy
   by_cases hq:u.number≤y.number
   ·simp only[aO,reduceCtorEq,qc,qd,qg,qh,qj,qi,qm,yg,yh,yx,yq,yy,Ng,qP,hi2,Sj,ho,hq]
   simp only[aO,reduceCtorEq,qc,qd,qg,qh,qj,qi,qm,yg,yh,yx,yq,yy,Ng,qP,hi2,Sj,ho,hq]
  case' inr=>
   have qP:¬(0:Int)<pre.length:=by omega
   simp only[aO,reduceCtorEq,qP,ho]
  all_goals
   try simp only[aO,reduceCtorEq,qc,qd,qg,qh,qj,qi,qm,yg,yh,yx,yq,yy,Ng,M9]
   cases hp:(jV u.profile r.aY).2
   ·simp only[aO,reduceCtorEq,p7,rz,p9,rD,rB,rE]
   have hsz:=ZF _ (Pz _ _ hp)
   try simp only[aO,reduceCtorEq,qc,qd,qg,qh,qj,qi,qm,p7,rz,p9,rD,rB,rE,jT]
   cases hu:aR u.univ 1 64
   ·simp only[aO,reduceCtorEq]
   cases ha:aR u.address 1 512
   ·simp only[aO,reduceCtorEq,qc,qd,qg,qh,qj,qi,qm,jT,ha]
   have ha':1≤u.address∧u.address≤512:=by simpa [aR]using ha
   have hw1:IntKind.i64.wrap (u.address+(jV u.profile r.aY).1.size)=u.address+(jV u.profile r.aY).1.size:=wrap64 (by unfold aP;omega)
   have hw2:IntKind.i64.wrap (u.address+(jV u.profile r.aY).1.size-1)=oT r.aY u:=wrap64 (by unfold aP;omega)
   have hlu:oT r.aY u=u.address+(jV u.profile r.aY).1.size-1:=rfl
   by_cases h5:512<oT r.aY u
   ·simp only[aO,reduceCtorEq,qc,qd,qg,qh,qj,qi,qm,p7,rz,p9,rD,rB,rE,jT,ha,hw1,hw2,h5]
   obtain⟨a,Tx⟩:∃a:Nat,u.address=a:=⟨u.address.toNat,by omega⟩
   obtain⟨n,hne⟩:∃n:Nat,(jV u.profile r.aY).1.size=n:=⟨(jV u.profile r.aY).1.size.toNat,by omega⟩
   have Nd:=afT I8 I7 u a n Tx (by omega) (by omega) (by omega)
   have hfree:EM [if u.univ∈vs then .op (σ.length+1+vs.idxOf u.univ) 0 else .np,.int .i64 (a:Int),.int .i64 (n:Int)] (iC σ vs f)=some (.bool (!FJ r.aY u pre),iC σ vs f):=by
    by_cases hm:u.univ∈vs
    ·rw[if_pos hm,ajU (f u.univ) a n (by omega) (Zc σ f hm),Nd]
    ·rw[if_neg hm,ajT a n (by unfold aP;omega) (by unfold aP;omega),←Nd]
     have e:u9 (f u.univ) n a=true:=(PT _ _ _).2 fun k h1 h2=>⟨by omega,Gv _ hm k⟩
     rw[e,show decide ((a:Int)+n-1≤512)=true from decide_eq_true (by omega)]
   have qT:=akS σ Gu f u a n Tx (by omega) (Gv u.univ)
   simp only[aO,reduceCtorEq,qc,qd,qg,qh,qj,qi,qm,p7,rz,p9,rD,rB,rE,jT,ha,hw1,hw2,h5,ajk]
   rw[Tx,hne]
   simp only[aO,reduceCtorEq,hfree]
   cases hc:FJ r.aY u pre
   ·simp only[aO,reduceCtorEq,qc,qd,qg,qh,qj,qi,qm,p7,rz,p9,rD,rB,rE,hne,qT,hi1,Int.toNat_natCast]
   ·simp only[aO,reduceCtorEq]
 ·intro s _
  exact Fp _ _ _
 ·intro pre u rest s s' hl hP hb
  obtain⟨vs,f⟩:=s
  obtain⟨I7,I8,Gu,Gv⟩:=hP
  dsimp only at I7 I8 Gu Gv hb
  split at hb
  ·cases hb
  split at hb
  ·cases hb
  split at hb
  ·cases hb
  rename_i hp
  split at hb
  ·cases hb
  rename_i hw
  split at hb
  ·cases hb
  injection hb with hb
  subst hb
  simp only[not_or,Bool.not_eq_false,aR,Bool.and_eq_true,decide_eq_true_eq]at hw hp
  have hsz:=ZF _ (Pz _ _ (by simpa using hp))
  have hlu:oT r.aY u=u.address+(jV u.profile r.aY).1.size-1:=rfl
  refine⟨I7.snoc ⟨hw.2.1.1,by omega,by omega⟩,I8.snoc u u.address.toNat _ (by omega) (by omega),?_,?_⟩
  ·dsimp only
   split
   ·exact Gu
   ·rename_i hm
    rw[List.nodup_append];exact⟨Gu,by simp,fun x hx y hy e=>hm (by simp at hy;rw[←hy,←e];exact hx)⟩
  ·intro v hv k
   dsimp only at hv ⊢
   have h1:v≠u.univ∧v∉vs:=by
    split at hv
    ·rename_i hm
     exact⟨fun e=>hv (e▸hm),hv⟩
    ·simp only[List.mem_append,List.mem_singleton,not_or]at hv
     exact⟨hv.2,hv.1⟩
   unfold nC
   rw[if_neg (fun q=>h1.1 q.1)]
   exact Gv v h1.2 k
 ·intro s _;simp only[aO,reduceCtorEq,YE]
 ·intros;simp only[aO,reduceCtorEq,YE]
 ·refine(We (uu:=F1 r.aY) ?_ ?_ (fun n=>some (AV.int .i64 n,σ)) l [] _).trans ?_
  ·intro pre;rfl
  ·intro pre x rest s;rw[F1];simp only[FK,BF,BP]
  ·rfl
def rG (gI:List cV) (u:gY):List aB:=(jV u.profile gI).1.params.map fun x=>⟨u.number,x.name⟩
def mV (r:gr):List aB:=r.units.flatMap (rG r.aY)
theorem UM {p:cV} (h:ql p=0):p.params.length≤40:=by
 unfold ql at h
 repeat' split at h
 all_goals first|(simp at h;done)|omega
theorem VP:∀(l pre:List cV),Cd pre l=0→∀p∈l,ql p=0
 |[],pre,h,p,hp=>by simp at hp
 |q::rest,pre,h,p,hp=>by
  rw[Cd]at h
  by_cases e:ql q=0
  ·rw[if_pos e]at h
   by_cases e2:jv q.name (pre.map (·.name))=true
   ·rw[if_pos e2]at h;simp at h
   ·rw[if_neg e2]at h
    simp only[List.mem_cons]at hp
    rcases hp with rfl|hp
    ·exact e
    ·exact VP rest _ h p hp
  ·rw[if_neg e]at h;exact absurd h e
theorem Ql {r:gr} (h:jZ r=0):wW r.aY=0:=by
 unfold jZ at h
 split at h
 ·assumption
 ·rename_i h2;exact absurd h h2
theorem Pq {l:List cV} (h:wW l=0):∀p∈l,ql p=0:=by
 unfold wW at h
 by_cases e:60<l.length
 ·rw[if_pos e]at h;simp at h
 ·rw[if_neg e]at h;exact VP l [] h
theorem V7 {r:gr} (h:jZ r=0) (nm:ByteArray):(jV nm r.aY).1.params.length≤40:=by
 rw[Pa]
 cases hf:r.aY.find? (fun x:cV=>decide (x.name=nm))with
 |none=>exact Nat.zero_le _
 |some p=>exact UM (Pq (Ql h) p (List.mem_of_find?_eq_some hf))
theorem O0 {r:gr} (h:jZ r=0):∀(l:List gY),(l.flatMap (rG r.aY)).length≤l.length*40
 |[]=>by simp
 |u::l=>by
  have h1:=V7 h u.profile
  have h2:=O0 h l
  rw[List.flatMap_cons,List.length_append,List.length_cons,Nat.succ_mul]
  have h3:(rG r.aY u).length=(jV u.profile r.aY).1.params.length:=by simp [rG]
  omega
theorem alv (l:List aB) (n:Int):A.nn (.t [(.s 2),.k]) (.aG [if l=[]then .au else sl 2 aN l,.int .i64 n])=.aG [sl 2 aN l,.int .i64 n]:=by
 show AV.aG [A.nn (.s 2) (if l=[]then .au else sl 2 aN l),.int .i64 n]=_
 rw[alx]
theorem Wd {r:gr} (h:jZ r=0):r.units.length≤400:=by
 unfold jZ at h
 split at h
 ·split at h
  ·cases h
  ·omega
 ·rename_i h2;exact absurd h h2
theorem Qt (r:gr) (hok:BX r) (σ:Heap):EV [.agg (jM r)] σ=some (.aG [sl 2 aN (if jZ r=0 then mV r else[]),.int .i64 (jZ r)],σ):=by
 by_cases hf:jZ r=0
 ·refine wrap_eq rfl (v:=.aG [if mV r=[]then .au else sl 2 aN (mV r),.int .i64 0]) ?_ (by rw[if_pos hf,hf];exact alv _ _)
  show G4 (.agg (jM r)) σ=_
  unfold G4
  have hu:=Wd hf
  have Sp:=hok.1.2
  simp only[aO,reduceCtorEq,yg,yh,yx,yq,yy,O1 r hok,hf]
  refine(oI (S:=Unit) (R:=Unit) r.units (fun pre u _=>(Rd.go ():Rd Unit Unit))
   (fun pre _=>[.lbx (jM r),vu σ.length 2 (pre.flatMap (rG r.aY)),.int .i64 (pre.length:Int)]) (fun pre _=>σ++rV 2 aN (pre.flatMap (rG r.aY)))
   (fun _=>(.exit 0,[.lbx (jM r),vu σ.length 2 (mV r),.int .i64 (r.units.length:Int)],σ++rV 2 aN (mV r))) (fun pre _ _=>(.ret,[],σ))
   (fun _ _=>True) () (fun _=>some (AV.aG [if mV r=[]then .au else sl 2 aN (mV r),.int .i64 0],σ)) (fun _=>none) ?_ ?_ trivial (fun _ _ _ _ _ _ _ _=>trivial) ?_ ?_ (fS:=by simp [aiS])).trans (Ms _ _ _ _)
  ·intro pre u rest s hl _
   have hx:=oL hl
   have hlt:=rN hl
   have hi1:IntKind.i64.wrap ((pre.length:Int)+1)=(pre.length:Int)+1:=wrap64 (by unfold aP;omega)
   have hlt':(pre.length:Int)<(r.units.length:Int):=by omega
   have jI:=lM 4 bU r.units hx
   have M9:=V8 r.aY hok.1.1 u.profile
   have hps:=V7 hf u.profile
   have AY:=O0 hf pre
   have A5:(pre++[u]).flatMap (rG r.aY)=pre.flatMap (rG r.aY)++rG r.aY u:=by simp
   have apF:pre.length≤399:=by omega
   generalize hK:pre.flatMap (rG r.aY)=K at *
   generalize hq:(jV u.profile r.aY).1=p at *
   simp only[aO,reduceCtorEq,qc,qd,qg,qh,qj,qi,qm,yg,yh,yx,yq,yy,hlt',jI,M9,hq,p7,rz,p9,rD,rB,rE]
   refine(oI (S:=Unit) (R:=Unit) p.params (fun pre u _=>(Rd.go ():Rd Unit Unit))
    (fun xI _=>[.lbx (jM r),vu σ.length 2 (K++xI.map fun x=>(⟨u.number,x.name⟩:aB)),.lbx (bU u),.int .i64 (xI.length:Int)]) (fun xI _=>σ++rV 2 aN (K++xI.map fun x=>(⟨u.number,x.name⟩:aB)))
    (fun _=>(.exit 2,[.lbx (jM r),vu σ.length 2 (K++rG r.aY u),.lbx (bU u),.int .i64 (p.params.length:Int)],σ++rV 2 aN (K++rG r.aY u))) (fun pre _ _=>(.ret,[],σ))
    (fun _ _=>True) () (fun _=>some (.normal,[.lbx (jM r),vu σ.length 2 (K++rG r.aY u),.int .i64 ((pre.length:Int)+1)],σ++rV 2 aN (K++rG r.aY u))) (fun _=>none) ?_ ?_ trivial (fun _ _ _ _ _ _ _ _=>trivial) ?_ ?_ (hv:=by simp) (fS:=by simp)).trans ((Ms _ _ _ _).trans ?_)
   ·intro xI x rest' s hl' _
    have gx:=oL hl'
    have glt:=rN hl'
    have gi1:IntKind.i64.wrap ((xI.length:Int)+1)=(xI.length:Int)+1:=wrap64 (by unfold aP;omega)
    have anN:(xI.length:Int)<(p.params.length:Int):=by omega
    have gia:=lM 7 eR p.params gx
    have hap:=af6 (most:=140737488355328 / 24) (sz:=2) aN (K++xI.map fun x=>(⟨u.number,x.name⟩:aB)) ⟨u.number,x.name⟩ σ (by
     rw[List.length_append,List.length_map]
     omega)
    have aob:(K++(xI++[x]).map fun x=>(⟨u.number,x.name⟩:aB))=(K++xI.map fun x=>(⟨u.number,x.name⟩:aB))++[⟨u.number,x.name⟩]:=by simp
    clear hl gx glt hx hlt AY hl'
    rw[aob]
    have hch:AV.sl 2 (chunks 2 1 [AV.int .i64 u.number,AV.str x.name])=.sl 2 [aN ⟨u.number,x.name⟩]:=rfl
    simp only[aO,reduceCtorEq,KJ,O4,O5,O6,O7,O8,O9,P4,PR,Lo,qc,qd,qg,qh,qj,qi,qm,anN,gia,gi1]
    show(A.append 2 _ _ (AV.sl 2 [aN ⟨u.number,x.name⟩]) _).bind _=_
    rw[hap]
    simp only[aO,reduceCtorEq,gi1]
   ·intro s _
    refine(Fp _ _ _).trans ?_
    subst hq
    rfl
   ·intro s _;simp only[aO,reduceCtorEq,hi1]
   ·intros;rename_i hb;cases hb
   ·rw[A5]
  ·intro s _
   exact Fp _ _ _
  ·intro s _
   simp only[aO,reduceCtorEq,ait zw]
  ·intros;rename_i hb;cases hb
 ·refine wrap_eq rfl (v:=.aG [.au,.int .i64 (jZ r)]) ?_ (by rw[if_neg hf];rfl)
  show G4 (.agg (jM r)) σ=_
  unfold G4
  simp only[aO,reduceCtorEq,yg,yh,yx,yq,yy,O1 r hok,hf]
theorem Vy (n:Int) (σ:Heap):Kr [.int .i64 n] σ=some (.bool (aR n 0 65535),σ):=by
 refine wrap_eq rfl ?_ rfl
 show OA (.int .i64 n) σ=_
 unfold OA
 simp only[aO,reduceCtorEq,jT]
def Dc (s:ByteArray):Bool:=if s=⟨#[]⟩then true else HY s
theorem ah2 (s:ByteArray) (hs:iZ s) (σ:Heap):OM [.str s] σ=some (.bool (Dc s),σ):=by
 refine wrap_eq rfl ?_ rfl
 show OT (.str s) σ=_
 unfold OT Dc
 by_cases h:s=⟨#[]⟩
 ·simp only[aO,reduceCtorEq,h]
 ·simp only[aO,reduceCtorEq,h,Xu s hs]
def Z4:ew:=⟨⟨#[]⟩,0,0,0,0,false,[]⟩
def Rb (p:cV) (nm:ByteArray):ew×Bool:=(p.params.find? fun x=>decide (x.name=nm)).elim (Z4,false) fun x=>(x,true)
def YZ (r:gr) (k:aB):ew×Bool:=(r.units.find? fun u=>decide (u.number=k.unit)).elim (Z4,false) fun u=>Rb (jV u.profile r.aY).1 k.param
section
set_option maxRecDepth 100000
noncomputable def OZ (a0:Int):Option Bool:=
 some (aR a0 0 36000000)
theorem EZ {a0:Int} {σ:Heap} {r:Bool} (h:OZ a0=some r):Bk [(AV.int .i64 a0)] σ=some ((AV.bool r),σ):=by
 refine yp (f:=OR) (y0:=(AV.int .i64 a0)) (enc:=fun r:Bool=>(AV.bool r)) (T:=OZ a0) rfl rfl ?_ r h
 unfold OR OZ
 refine aq _ (jT a0 0 36000000 σ) ?_
 exact eF _ (bC _ _) ⟨rfl,rfl⟩
noncomputable def EX (a0:aB) (a1:aB):Option Int:=
 if ¬(a0.unit=a1.unit)then
  if a0.unit<a1.unit then
   some (-1)
  else
  some 1
 else
 some (Lib.compareBytes a0.param.data.toList a1.param.data.toList)
theorem adW {a0:aB} {a1:aB} {σ:Heap} {r:Int} (h:EX a0 a1=some r):Kv [(AV.agg (aN a0)),(AV.agg (aN a1))] σ=some ((AV.int .i64 r),σ):=by
 refine uR (f:=OG) (y0:=(AV.agg (aN a0))) (y1:=(AV.agg (aN a1))) (enc:=fun r:Int=>(AV.int .i64 r)) (T:=EX a0 a1) rfl rfl ?_ r h
 unfold OG EX
 refine aq _ rfl<|aq _ rfl<|aq _ rfl<|aq _ rfl<|aq _ (fW _ _ _) ?_
 refine kZ (p:=¬(a0.unit=a1.unit)) (fun c2=>?_) (fun c2=>?_)
 ·refine aq _ rfl<|aq _ rfl<|aq _ rfl ?_
  refine kZ (p:=a0.unit<a1.unit) (fun c1=>?_) (fun c1=>?_)
  ·exact eF _ (bC _ _) ⟨rfl,rfl⟩
  exact eF _ (bC _ _) ⟨rfl,rfl⟩
 refine aq _ rfl<|aq _ rfl<|aq _ rfl ?_
 exact eF _ (bC _ _) ⟨rfl,rfl⟩
noncomputable def ES (a0:(List fE)):Option Int:=
 kX a0 (fun(i8:Nat) e7 (s1:Unit)=>(show Option (Lr Unit Unit Int)from
   if(!(aR e7.key.unit 1 9999))=true then
    some (.ret 1)
   else
   (tq (iZ e7.key.param) (tL e7.key.param)).bind fun r9=>
   if(!r9)=true then
    some (.ret 5)
   else
   if((e7.release&&(decide (¬(e7.value=(⟨0,0⟩:lW)))))||((decide (¬(e7.value.level=0)))&&(decide (¬(e7.value.gj=0)))))=true then
    some (.ret 3)
   else
   if((!(aR e7.value.level 0 65535))||(!(aR e7.value.gj 0 999)))=true then
    some (.ret 1)
   else
   if((!e7.yK)&&((decide (¬(e7.delay=0)))||(decide (¬(e7.time=0)))))=true then
    some (.ret 3)
   else
   if((!((aR e7.delay 0 36000000)))||(!((aR e7.time 0 36000000))))=true then
    some (.ret 1)
   else
   (if decide (0<(i8:Int))=true then uH a0 (IntKind.i64.wrap ((i8:Int) -1))else some default).bind fun bG=>
   (if decide (0<(i8:Int))=true then EX bG.key e7.key else some default).bind fun dF=>
   if((decide (0<(i8:Int)))&&(decide (0≤dF)))=true then
    some (.ret 7)
   else
   some (.go ()))) (fun s1=>some ()) () (fun b2=>
  some 0) (fun b2=>
  some b2)
theorem ac6 {a0:(List fE)} {σ:Heap} {r:Int} (h:ES a0=some r):Od [(sl 8 fG a0)] σ=some ((AV.int .i64 r),σ):=by
 refine yp (f:=Oe) (y0:=(sl 8 fG a0)) (enc:=fun r:Int=>(AV.int .i64 r)) (T:=ES a0) rfl rfl ?_ r h
 unfold Oe ES
 refine aq _ (fL _ _ _) ?_
 refine qv (B:=Unit) (R:=Int) (fun(i8:Nat) (s1:Unit) v w3=>v=[ah,(AV.int .i64 (i8:Int))]∧σ=w3) (fun(b2:Unit) (q:LS)=>∃u2 u7,q=((AX.exit 0),([u2,u7]:List AV),σ)) (fun(b2:Int) (q:LS)=>∃u7,q=(AX.ret,([(AV.int .i64 b2),u7]:List AV),σ)) ?_ ?_ ⟨rfl,rfl⟩ ?_ ?_
 ·intro Aq i8 e7 s1 v w3 nW hI
  obtain⟨rfl,rfl⟩:=hI
  refine aq _ (jr nW)<|qA<|aq _ (iQ nW)<|aq _ rfl<|aq _ rfl<|aq _ (LQ _ _ rfl)<|aq _ rfl<|aq _ (jT e7.key.unit 1 9999 σ)<|aq _ rfl ?_
  refine ji (c:=(!(aR e7.key.unit 1 9999))) (fun iV=>?_) (fun iV=>?_)
  ·exact cg (iy (by simp) ⟨_,rfl⟩)
  refine aq _ rfl ?_
  refine lg (fun r9:Bool=>((AV.bool r9),σ)) (fun r9 hr9=>(wC (e:=fun r:Bool=>((AV.bool r),σ)) (fun hs=>LV e7.key.param hs σ)) hr9) (fun r9 hr9=>?_)
  refine aq _ rfl ?_
  refine ji (c:=(!r9)) (fun mG=>?_) (fun mG=>?_)
  ·exact cg (iy (by simp) ⟨_,rfl⟩)
  refine aq _ rfl<|dW (AV.agg (uV e7.value)) (fun hg=>rfl)<|dW (AV.agg (uV (⟨0,0⟩:lW))) (fun hg=>rfl)<|dW (AV.bool (decide (¬(e7.value=(⟨0,0⟩:lW))))) (fun hg=>by(try rw[hg]);exact(aiR _ _))<|aq _ (rM _ _)<|eG (AV.int .i64 e7.value.level) (fun hg=>rfl)<|eG (AV.bool (decide (¬(e7.value.level=0)))) (fun hg=>by(try rw[hg]);exact(fW _ _ _))<|eG (AV.bool (decide (¬(e7.value.level=0)))) (fun hg=>by(try rw[hg]);exact rfl)<|FP (AV.int .i64 e7.value.gj) (fun hg=>rfl)<|FP (AV.bool (decide (¬(e7.value.gj=0)))) (fun hg=>by(try rw[hg]);exact(fW _ _ _))<|eG (AV.bool ((decide (¬(e7.value.level=0)))&&(decide (¬(e7.value.gj=0))))) (fun hg=>by(try rw[hg]);exact(rM _ _))<|aq _ (oU _ _) ?_
  refine ji (c:=((e7.release&&(decide (¬(e7.value=(⟨0,0⟩:lW)))))||((decide (¬(e7.value.level=0)))&&(decide (¬(e7.value.gj=0)))))) (fun ku=>?_) (fun ku=>?_)
  ·exact cg (iy (by simp) ⟨_,rfl⟩)
  refine aq _ rfl<|aq _ (jT e7.value.level 0 65535 σ)<|aq _ rfl<|eG (AV.int .i64 e7.value.gj) (fun hg=>rfl)<|eG (AV.bool (aR e7.value.gj 0 999)) (fun hg=>by(try rw[hg]);exact(quiet_of (jT e7.value.gj 0 999 σ)))<|eG (AV.bool (!(aR e7.value.gj 0 999))) (fun hg=>by(try rw[hg]);exact rfl)<|aq _ (oU _ _) ?_
  refine ji (c:=((!(aR e7.value.level 0 65535))||(!(aR e7.value.gj 0 999)))) (fun jG=>?_) (fun jG=>?_)
  ·exact cg (iy (by simp) ⟨_,rfl⟩)
  refine aq _ rfl<|aq _ rfl<|dW (AV.int .i64 e7.delay) (fun hg=>rfl)<|dW (AV.bool (decide (¬(e7.delay=0)))) (fun hg=>by(try rw[hg]);exact(fW _ _ _))<|dW (AV.bool (decide (¬(e7.delay=0)))) (fun hg=>by(try rw[hg]);exact rfl)<|ZT (AV.int .i64 e7.time) (fun hg=>rfl)<|ZT (AV.bool (decide (¬(e7.time=0)))) (fun hg=>by(try rw[hg]);exact(fW _ _ _))<|dW (AV.bool ((decide (¬(e7.delay=0)))||(decide (¬(e7.time=0))))) (fun hg=>by(try rw[hg]);exact(oU _ _))<|aq _ (rM _ _) ?_
  refine ji (c:=((!e7.yK)&&((decide (¬(e7.delay=0)))||(decide (¬(e7.time=0)))))) (fun jP=>?_) (fun jP=>?_)
  ·exact cg (iy (by simp) ⟨_,rfl⟩)
  refine aq _ rfl<|aq _ (EZ (σ:=σ) (r:=(aR e7.delay 0 36000000)) rfl)<|aq _ rfl<|eG (AV.int .i64 e7.time) (fun hg=>rfl)<|eG (AV.bool ((aR e7.time 0 36000000))) (fun hg=>by(try rw[hg]);exact(quiet_of (EZ (σ:=σ) (r:=(aR e7.time 0 36000000)) rfl)))<|eG (AV.bool (!((aR e7.time 0 36000000)))) (fun hg=>by(try rw[hg]);exact rfl)<|aq _ (oU _ _) ?_
  refine ji (c:=((!((aR e7.delay 0 36000000)))||(!((aR e7.time 0 36000000))))) (fun gH=>?_) (fun gH=>?_)
  ·exact cg (iy (by simp) ⟨_,rfl⟩)
  refine aq _ rfl<|dW (sl 8 fG a0) (fun hg=>rfl)<|dW (AV.int .i64 (i8:Int)) (fun hg=>rfl)<|dW (AV.int .i64 (IntKind.i64.wrap ((i8:Int) -1))) (fun hg=>by(try rw[hg]);exact rfl) ?_
  refine yC (ω:=fE) (fun bG=>(AV.rp (fG bG))) (fun hg bG aa9=>by(try rw[hg]);exact BU aa9) (fun bG aa9=>?_)
  refine dW (AV.rp (fG bG)) (fun hg=>by(try rw[hg]);exact rfl)<|dW (AV.agg (aN bG.key)) (fun hg=>by(try rw[hg]);exact rfl)<|dW (AV.agg (aN e7.key)) (fun hg=>rfl) ?_
  refine yC (ω:=Int) (fun dF=>(AV.int .i64 dF)) (fun hg dF IB=>by(try rw[hg]);exact(quiet_of (adW IB))) (fun dF IB=>?_)
  refine dW (AV.bool (decide (0≤dF))) (fun hg=>by(try rw[hg]);exact rfl)<|aq _ (rM _ _) ?_
  refine ji (c:=((decide (0<(i8:Int)))&&(decide (0≤dF)))) (fun ep=>?_) (fun ep=>?_)
  ·exact cg (iy (by simp) ⟨_,rfl⟩)
  refine aq _ (fU nW Aq) ?_
  exact cg (qw ⟨rfl,rfl⟩)
 ·intro hl s1 v w3 hI
  obtain⟨rfl,rfl⟩:=hI
  refine aq _ (jq _)<|qz ?_
  exact cg ⟨by simp,⟨_,_,rfl⟩⟩
 ·intro hl b2 q hq
  obtain⟨u2,u7,rfl⟩:=hq
  refine jW rfl ?_
  exact eF _ (bC _ _) ⟨rfl,rfl⟩
 ·intro hl b2 q hq
  obtain⟨u7,rfl⟩:=hq
  refine vg rfl<|jW rfl ?_
  exact eF _ (bC _ _) ⟨rfl,rfl⟩
noncomputable def Fc (a0:(List bf)):Option Int:=
 if 300<(a0.length:Int)then
  some 2
 else
 kX a0 (fun(i8:Nat) e7 (s1:Int)=>(show Option (Lr Int Int Int)from
   if(!(aR e7.number 1 9999999))=true then
    some (.ret 1)
   else
   (if decide (0<(i8:Int))=true then uH a0 (IntKind.i64.wrap ((i8:Int) -1))else some default).bind fun x9=>
   if((decide (0<(i8:Int)))&&(decide (e7.number≤x9.number)))=true then
    some (.ret 7)
   else
   (if decide (¬(e7.title=(⟨#[]⟩:ByteArray)))=true then tq (iZ e7.title) (HY e7.title)else some default).bind fun kH=>
   if((decide (¬(e7.title=(⟨#[]⟩:ByteArray))))&&(!kH))=true then
    some (.ret 3)
   else
   if(((((!((aR e7.delay 0 36000000)))||(!((aR e7.up 0 36000000))))||(!((aR e7.down 0 36000000))))||(!((aR e7.other 0 36000000))))||(!(aR e7.follow (-1) 36000000)))=true then
    some (.ret 1)
   else
   if ¬((oN e7.fq)=0)then
    some (.ret (oN e7.fq))
   else
   if 2000<(e7.dm.length:Int)then
    some (.ret 2)
   else
   (ES e7.dm).bind fun dF=>
   if ¬(dF=0)then
    some (.ret dF)
   else
   some (.go (IntKind.i64.wrap (s1+(e7.dm.length:Int)))))) (fun s1=>some s1) 0 (fun b2=>
  some (if(decide (10000<b2))=true then 2 else 0)) (fun b2=>
  some b2)
theorem VX {a0:(List bf)} {σ:Heap} {r:Int} (h:Fc a0=some r):Hq [(sl 11 aZ a0)] σ=some ((AV.int .i64 r),σ):=by
 refine yp (f:=PB) (y0:=(sl 11 aZ a0)) (enc:=fun r:Int=>(AV.int .i64 r)) (T:=Fc a0) (iS (tW (fun _=>rfl) _) rfl) rfl ?_ r h
 unfold PB Fc
 refine aq _ (fL _ _ _)<|aq _ rfl ?_
 refine kZ (p:=300<(a0.length:Int)) (fun gM=>?_) (fun gM=>?_)
 ·exact eF _ (bC _ _) ⟨rfl,rfl⟩
 refine aq _ (fL _ _ _) ?_
 refine qv (B:=Int) (R:=Int) (fun(i8:Nat) (s1:Int) v w3=>v=[ah,(AV.int .i64 s1),(AV.int .i64 (i8:Int))]∧σ=w3) (fun(b2:Int) (q:LS)=>∃u2 xT,q=((AX.exit 0),([u2,(AV.int .i64 b2),xT]:List AV),σ)) (fun(b2:Int) (q:LS)=>∃u3 xT,q=(AX.ret,([(AV.int .i64 b2),u3,xT]:List AV),σ)) ?_ ?_ ⟨rfl,rfl⟩ ?_ ?_
 ·intro Aq i8 e7 s1 v w3 nW hI
  obtain⟨rfl,rfl⟩:=hI
  refine aq _ (jr nW)<|qA<|aq _ (iQ nW)<|aq _ rfl<|aq _ rfl<|aq _ (HM _ _ rfl)<|aq _ rfl<|aq _ (jT e7.number 1 9999999 σ)<|aq _ rfl ?_
  refine ji (c:=(!(aR e7.number 1 9999999))) (fun iV=>?_) (fun iV=>?_)
  ·exact cg (iy (by simp) ⟨_,_,rfl⟩)
  refine aq _ rfl<|dW (AV.int .i64 e7.number) (fun hg=>rfl)<|dW (sl 11 aZ a0) (fun hg=>rfl)<|dW (AV.int .i64 (i8:Int)) (fun hg=>rfl)<|dW (AV.int .i64 (IntKind.i64.wrap ((i8:Int) -1))) (fun hg=>by(try rw[hg]);exact rfl) ?_
  refine yC (ω:=bf) (fun x9=>(AV.rp (aZ x9))) (fun hg x9 Jp=>by(try rw[hg]);exact BU Jp) (fun x9 Jp=>?_)
  refine dW (AV.rp (aZ x9)) (fun hg=>by(try rw[hg]);exact rfl)<|dW (AV.int .i64 x9.number) (fun hg=>by(try rw[hg]);exact rfl)<|dW (AV.bool (decide (e7.number≤x9.number))) (fun hg=>by(try rw[hg]);exact rfl)<|aq _ (rM _ _) ?_
  refine ji (c:=((decide (0<(i8:Int)))&&(decide (e7.number≤x9.number)))) (fun mG=>?_) (fun mG=>?_)
  ·exact cg (iy (by simp) ⟨_,_,rfl⟩)
  refine aq _ rfl<|aq _ (RL _ _)<|dW (AV.str e7.title) (fun hg=>rfl) ?_
  refine yC (ω:=Bool) (fun kH=>(AV.bool kH)) (fun hg kH aa2=>by(try rw[hg]);exact(quiet_of ((wC (e:=fun r:Bool=>((AV.bool r),σ)) (fun hs=>Xu e7.title hs σ)) aa2))) (fun kH aa2=>?_)
  refine dW (AV.bool (!kH)) (fun hg=>by(try rw[hg]);exact rfl)<|aq _ (rM _ _) ?_
  refine ji (c:=((decide (¬(e7.title=(⟨#[]⟩:ByteArray))))&&(!kH))) (fun ku=>?_) (fun ku=>?_)
  ·exact cg (iy (by simp) ⟨_,_,rfl⟩)
  refine aq _ rfl<|aq _ (EZ (σ:=σ) (r:=(aR e7.delay 0 36000000)) rfl)<|aq _ rfl<|eG (AV.int .i64 e7.up) (fun hg=>rfl)<|eG (AV.bool ((aR e7.up 0 36000000))) (fun hg=>by(try rw[hg]);exact(quiet_of (EZ (σ:=σ) (r:=(aR e7.up 0 36000000)) rfl)))<|eG (AV.bool (!((aR e7.up 0 36000000)))) (fun hg=>by(try rw[hg]);exact rfl)<|aq _ (oU _ _)<|eG (AV.int .i64 e7.down) (fun hg=>rfl)<|eG (AV.bool ((aR e7.down 0 36000000))) (fun hg=>by(try rw[hg]);exact(quiet_of (EZ (σ:=σ) (r:=(aR e7.down 0 36000000)) rfl)))<|eG (AV.bool (!((aR e7.down 0 36000000)))) (fun hg=>by(try rw[hg]);exact rfl)<|aq _ (oU _ _)<|eG (AV.int .i64 e7.other) (fun hg=>rfl)<|eG (AV.bool ((aR e7.other 0 36000000))) (fun hg=>by(try rw[hg]);exact(quiet_of (EZ (σ:=σ) (r:=(aR e7.other 0 36000000)) rfl)))<|eG (AV.bool (!((aR e7.other 0 36000000)))) (fun hg=>by(try rw[hg]);exact rfl)<|aq _ (oU _ _)<|eG (AV.int .i64 e7.follow) (fun hg=>rfl)<|eG (AV.bool (aR e7.follow (-1) 36000000)) (fun hg=>by(try rw[hg]);exact(quiet_of (jT e7.follow (-1) 36000000 σ)))<|eG (AV.bool (!(aR e7.follow (-1) 36000000))) (fun hg=>by(try rw[hg]);exact rfl)<|aq _ (oU _ _) ?_
  refine ji (c:=(((((!((aR e7.delay 0 36000000)))||(!((aR e7.up 0 36000000))))||(!((aR e7.down 0 36000000))))||(!((aR e7.other 0 36000000))))||(!(aR e7.follow (-1) 36000000)))) (fun jG=>?_) (fun jG=>?_)
  ·exact cg (iy (by simp) ⟨_,_,rfl⟩)
  refine aq _ rfl<|aq _ (U0 e7.fq σ)<|aq _ (fW _ _ _) ?_
  refine kZ (p:=¬((oN e7.fq)=0)) (fun jP=>?_) (fun jP=>?_)
  ·exact cg (iy (by simp) ⟨_,_,rfl⟩)
  refine aq (sl 8 fG e7.dm) rfl<|aq _ (fL _ _ _)<|aq _ rfl ?_
  refine kZ (p:=2000<(e7.dm.length:Int)) (fun gH=>?_) (fun gH=>?_)
  ·exact cg (iy (by simp) ⟨_,_,rfl⟩)
  refine aq (sl 8 fG e7.dm) rfl ?_
  refine lg (fun dF:Int=>((AV.int .i64 dF),σ)) (fun dF IB=>ac6 IB) (fun dF IB=>?_)
  refine aq _ (fW _ _ _) ?_
  refine kZ (p:=¬(dF=0)) (fun ep=>?_) (fun ep=>?_)
  ·exact cg (iy (by simp) ⟨_,_,rfl⟩)
  refine aq (sl 8 fG e7.dm) rfl<|aq _ (fL _ _ _)<|aq _ rfl<|aq _ (fU nW Aq) ?_
  exact cg (qw ⟨rfl,rfl⟩)
 ·intro hl s1 v w3 hI
  obtain⟨rfl,rfl⟩:=hI
  refine aq _ (jq _)<|qz ?_
  exact cg ⟨by simp,⟨_,_,rfl⟩⟩
 ·intro hl b2 q hq
  obtain⟨u2,xT,rfl⟩:=hq
  refine jW rfl<|aq _ rfl<|aq _ (uT (decide (10000<b2)) 2 σ) ?_
  exact eF _ (bC _ _) ⟨rfl,rfl⟩
 ·intro hl b2 q hq
  obtain⟨u3,xT,rfl⟩:=hq
  refine vg rfl<|jW rfl ?_
  exact eF _ (bC _ _) ⟨rfl,rfl⟩
noncomputable def E7 (a0:gr):Option (List (aB×Bool)):=
 (tq (BX a0) (((if jZ a0=0 then mV a0 else[]:List aB),jZ a0))).bind fun r1=>
 kX r1.1 (fun(uD:Nat) kE (s4:(List (aB×Bool)))=>(show Option (Lr (List (aB×Bool)) (List (aB×Bool)) Unit)from
   some (.go (dB kE true s4)))) (fun s4=>some s4) ([]:List (aB×Bool)) (fun b5=>
  some b5) (fun b5=>
  none)
theorem ae2 {a0:gr} {σ:Heap} {r:(List (aB×Bool))} (h:E7 a0=some r):O3 [(AV.agg (jM a0))] σ=some ((uv (fun x=>(AV.agg (aN x))) (fun x=>(AV.bool x)) r),σ):=by
 refine yp (f:=Pc) (y0:=(AV.agg (jM a0))) (enc:=fun r:(List (aB×Bool))=>(uv (fun x=>(AV.agg (aN x))) (fun x=>(AV.bool x)) r)) (T:=E7 a0) rfl rfl ?_ r h
 unfold Pc E7
 refine aq _ rfl<|aq _ rfl ?_
 refine lg (fun r1:((List aB)×Int)=>((AV.aG [(sl 2 aN r1.1),(AV.int .i64 r1.2)]),σ)) (fun r1 kQ=>(wC (e:=fun r:((List aB)×Int)=>((AV.aG [(sl 2 aN r.1),(AV.int .i64 r.2)]),σ)) (fun hs=>Qt a0 hs σ)) kQ) (fun r1 kQ=>?_)
 refine aq (sl 2 aN r1.1) rfl<|aq _ rfl ?_
 have hp2:Hp σ σ []:=Q5 σ
 have hp3:Hp σ (σ++[aJ.map []]) [((AV.om σ.length),(Ct.m (List.map (fun p=>((fun x=>(AV.agg (aN x))) p.1,(fun x=>(AV.bool x)) p.2)) ([]:List (aB×Bool)))))]:=Rp hp2
 refine aq _ (fL _ _ _) ?_
 refine qv (B:=(List (aB×Bool))) (R:=Unit) (fun(uD:Nat) (s4:(List (aB×Bool))) v w6=>v=[(AV.int .i64 (uD:Int))]∧Hp σ w6 [((AV.om σ.length),(Ct.m (List.map (fun p=>((fun x=>(AV.agg (aN x))) p.1,(fun x=>(AV.bool x)) p.2)) s4)))]) (fun(b5:(List (aB×Bool))) (q:LS)=>∃u16 w7,q=((AX.exit 0),([u16]:List AV),w7)∧Hp σ w7 [((AV.om σ.length),(Ct.m (List.map (fun p=>((fun x=>(AV.agg (aN x))) p.1,(fun x=>(AV.bool x)) p.2)) b5)))]) (fun(b5:Unit) (q:LS)=>False) ?_ ?_ ⟨rfl,hp3⟩ ?_ ?_
 ·intro Rn uD kE s4 v w6 DL hI
  obtain⟨rfl,vK⟩:=hI
  refine aq _ (jr DL)<|qA<|aq _ (iQ DL)<|aq _ rfl<|aq _ rfl<|aq _ (HN _ _ rfl)<|aq _ rfl ?_
  obtain⟨w12,e14,aa0⟩:=QG (ek:=(.s [0,2])) (eK:=(fun x=>(AV.agg (aN x)))) (eV:=(fun x=>(AV.bool x))) vK 0 rfl qo kE true rfl
  change Hp σ w12 [((AV.om σ.length),(Ct.m (List.map (fun p=>((fun x=>(AV.agg (aN x))) p.1,(fun x=>(AV.bool x)) p.2)) (dB kE true s4))))]at aa0
  refine aq w12 e14<|aq _ (fU DL Rn) ?_
  exact cg (qw ⟨rfl,aa0⟩)
 ·intro hl s4 v w6 hI
  obtain⟨rfl,vK⟩:=hI
  refine aq _ (jq _)<|qz ?_
  exact cg ⟨by simp,⟨_,_,rfl,vK⟩⟩
 ·intro hl b5 q hq
  obtain⟨u16,w7,rfl,hp9⟩:=hq
  refine jW rfl ?_
  exact eF _ (Mo hp9 (Zy hp9 (k:=0) rfl (by intro p hp;obtain⟨x,_,rfl⟩:=List.mem_map.1 hp;exact⟨(wu (zw _)),(Bw _)⟩))) ⟨rfl,rfl⟩
 ·intro hl b5 q hq
  exact False.elim hq
noncomputable def EY (a0:aB) (a1:aB):Option Bool:=
 if ¬(a0.unit=a1.unit)then
  some (decide (a0.unit<a1.unit))
 else
 some (decide ((Lib.compareBytes a0.param.data.toList a1.param.data.toList)<0))
theorem adY {a0:aB} {a1:aB} {σ:Heap} {r:Bool} (h:EY a0 a1=some r):OE [(AV.agg (aN a0)),(AV.agg (aN a1))] σ=some ((AV.bool r),σ):=by
 refine uR (f:=OI) (y0:=(AV.agg (aN a0))) (y1:=(AV.agg (aN a1))) (enc:=fun r:Bool=>(AV.bool r)) (T:=EY a0 a1) rfl rfl ?_ r h
 unfold OI EY
 refine aq _ rfl<|aq _ rfl<|aq _ rfl<|aq _ rfl<|aq _ (fW _ _ _) ?_
 refine kZ (p:=¬(a0.unit=a1.unit)) (fun c1=>?_) (fun c1=>?_)
 ·refine aq _ rfl<|aq _ rfl<|aq _ rfl ?_
  exact eF _ (bC _ _) ⟨rfl,rfl⟩
 refine aq _ rfl<|aq _ rfl<|aq _ rfl<|aq _ rfl ?_
 exact eF _ (bC _ _) ⟨rfl,rfl⟩
noncomputable def CJ (a0:gr) (a1:(List jU)):Option Int:=
 (tq (BX a0) (jZ a0)).bind fun r1=>
 (tq (([r1,(if(decide (200<(a1.length:Int)))=true then 2 else 0)]:(List Int)).length≤aW) ((([r1,(if(decide (200<(a1.length:Int)))=true then 2 else 0)]:(List Int)).find? fun n=>decide (¬n=0)).getD 0)).bind fun r2=>
 if ¬(r2=0)then
  some r2
 else
 (E7 a0).bind fun r3=>
 kX a1 (fun(uD:Nat) kE (s4:Unit)=>(show Option (Lr Unit Unit Int)from
   if(!(aR kE.number 1 999))=true then
    some (.ret 1)
   else
   (if decide (0<(uD:Int))=true then uH a1 (IntKind.i64.wrap ((uD:Int) -1))else some default).bind fun ct=>
   if((decide (0<(uD:Int)))&&(decide (kE.number≤ct.number)))=true then
    some (.ret 7)
   else
   (tq (iZ kE.title) (Dc kE.title)).bind fun qW=>
   if(!qW)=true then
    some (.ret 3)
   else
   if 2000<(kE.jL.length:Int)then
    some (.ret 2)
   else
   kX kE.jL (fun(i21:Nat) AQ (xR:Unit)=>(show Option (Lr Unit Unit Int)from
     if(!((cH AQ.key r3).getD false))=true then
      some (.ret 8)
     else
     if(!(aR AQ.level 0 65535))=true then
      some (.ret 1)
     else
     (if decide (0<(i21:Int))=true then uH kE.jL (IntKind.i64.wrap ((i21:Int) -1))else some default).bind fun dh=>
     (if decide (0<(i21:Int))=true then EY dh.key AQ.key else some default).bind fun nv=>
     if((decide (0<(i21:Int)))&&(!nv))=true then
      some (.ret 7)
     else
     some (.go ()))) (fun xR=>some ()) () (fun D2=>
    some (.go ())) (fun D2=>
    some (.ret D2)))) (fun s4=>some ()) () (fun b5=>
  some 0) (fun b5=>
  some b5)
theorem Ur {a0:gr} {a1:(List jU)} {σ:Heap} {r:Int} (h:CJ a0 a1=some r):J9 [(AV.agg (jM a0)),(sl 3 dN a1)] σ=some ((AV.int .i64 r),σ):=by
 refine uR (f:=NX) (y0:=(AV.agg (jM a0))) (y1:=(sl 3 dN a1)) (enc:=fun r:Int=>(AV.int .i64 r)) (T:=CJ a0 a1) rfl rfl ?_ r h
 unfold NX CJ
 refine aq _ rfl<|aq _ rfl ?_
 refine lg (fun r1:Int=>((AV.int .i64 r1),σ)) (fun r1 kQ=>(wC (e:=fun r:Int=>((AV.int .i64 r),σ)) (fun hs=>O1 a0 hs σ)) kQ) (fun r1 kQ=>?_)
 refine aq _ (fL _ _ _)<|aq _ rfl<|aq _ (uT (decide (200<(a1.length:Int))) 2 σ)<|aq (sl 1 rS ([r1,(if(decide (200<(a1.length:Int)))=true then 2 else 0)]:(List Int))) rfl ?_
 refine lg (fun r2:Int=>((AV.int .i64 r2),σ)) (fun r2 tg=>(wC (e:=fun r:Int=>((AV.int .i64 r),σ)) (fun hs=>C4 ([r1,(if(decide (200<(a1.length:Int)))=true then 2 else 0)]:(List Int)) hs σ)) tg) (fun r2 tg=>?_)
 refine aq _ (fW _ _ _) ?_
 refine kZ (p:=¬(r2=0)) (fun vD=>?_) (fun vD=>?_)
 ·exact eF _ (bC _ _) ⟨rfl,rfl⟩
 refine aq _ rfl ?_
 refine lg (fun r3:(List (aB×Bool))=>((uv (fun x=>(AV.agg (aN x))) (fun x=>(AV.bool x)) r3),σ)) (fun r3 Jl=>ae2 Jl) (fun r3 Jl=>?_)
 refine aq _ (fL _ _ _) ?_
 refine qv (B:=Unit) (R:=Int) (fun(uD:Nat) (s4:Unit) v w6=>∃u4,v=[u4,(AV.int .i64 (uD:Int))]∧σ=w6) (fun(b5:Unit) (q:LS)=>∃u4 JI,q=((AX.exit 0),([u4,JI]:List AV),σ)) (fun(b5:Int) (q:LS)=>∃JI,q=(AX.ret,([(AV.int .i64 b5),JI]:List AV),σ)) ?_ ?_ ⟨_,rfl,rfl⟩ ?_ ?_
 ·intro Rn uD kE s4 v w6 DL hI
  obtain⟨u4,rfl,rfl⟩:=hI
  refine aq _ (jr DL)<|qA<|aq _ (iQ DL)<|aq _ rfl<|aq _ rfl<|aq _ (Wp _ _ rfl)<|aq _ rfl<|aq _ (jT kE.number 1 999 σ)<|aq _ rfl ?_
  refine ji (c:=(!(aR kE.number 1 999))) (fun um=>?_) (fun um=>?_)
  ·exact cg (iy (by simp) ⟨_,rfl⟩)
  refine aq _ rfl<|dW (AV.int .i64 kE.number) (fun hg=>rfl)<|dW (sl 3 dN a1) (fun hg=>rfl)<|dW (AV.int .i64 (uD:Int)) (fun hg=>rfl)<|dW (AV.int .i64 (IntKind.i64.wrap ((uD:Int) -1))) (fun hg=>by(try rw[hg]);exact rfl) ?_
  refine yC (ω:=jU) (fun ct=>(AV.rp (dN ct))) (fun hg ct abb=>by(try rw[hg]);exact BU abb) (fun ct abb=>?_)
  refine dW (AV.rp (dN ct)) (fun hg=>by(try rw[hg]);exact rfl)<|dW (AV.int .i64 ct.number) (fun hg=>by(try rw[hg]);exact rfl)<|dW (AV.bool (decide (kE.number≤ct.number))) (fun hg=>by(try rw[hg]);exact rfl)<|aq _ (rM _ _) ?_
  refine ji (c:=((decide (0<(uD:Int)))&&(decide (kE.number≤ct.number)))) (fun qN=>?_) (fun qN=>?_)
  ·exact cg (iy (by simp) ⟨_,rfl⟩)
  refine aq _ rfl ?_
  refine lg (fun qW:Bool=>((AV.bool qW),σ)) (fun qW aa4=>(wC (e:=fun r:Bool=>((AV.bool r),σ)) (fun hs=>ah2 kE.title hs σ)) aa4) (fun qW aa4=>?_)
  refine aq _ rfl ?_
  refine ji (c:=(!qW)) (fun mH=>?_) (fun mH=>?_)
  ·exact cg (iy (by simp) ⟨_,rfl⟩)
  refine aq (sl 3 dM kE.jL) rfl<|aq _ (fL _ _ _)<|aq _ rfl ?_
  refine kZ (p:=2000<(kE.jL.length:Int)) (fun lq=>?_) (fun lq=>?_)
  ·exact cg (iy (by simp) ⟨_,rfl⟩)
  refine aq (sl 3 dM kE.jL) rfl<|aq _ (fL _ _ _) ?_
  refine qv (B:=Unit) (R:=Int) (fun(i21:Nat) (xR:Unit) v Ue=>∃u4,v=[u4,(AV.lbx (dN kE)),(AV.int .i64 (i21:Int))]∧σ=Ue) (fun(D2:Unit) (q:LS)=>∃u4 u8 JO,q=((AX.exit 3),([u4,u8,JO]:List AV),σ)) (fun(D2:Int) (q:LS)=>∃u8 JO,q=(AX.ret,([(AV.int .i64 D2),u8,JO]:List AV),σ)) ?_ ?_ ⟨_,rfl,rfl⟩ ?_ ?_
  ·intro amk i21 AQ xR v Ue Se hI
   obtain⟨u4,rfl,rfl⟩:=hI
   refine aq _ (jr Se)<|qA<|aq _ (iQ Se)<|aq _ rfl<|aq _ rfl<|aq _ (VI _ _ rfl)<|aq _ rfl<|aq _ (aiw (ek:=(.s [0,2])) (eK:=(fun x=>(AV.agg (aN x)))) (eV:=(fun x=>(AV.bool x))) qo AQ.key false rfl)<|aq _ rfl ?_
   refine ji (c:=(!((cH AQ.key r3).getD false))) (fun fM=>?_) (fun fM=>?_)
   ·exact cg (iy (by simp) ⟨_,_,rfl⟩)
   refine aq _ rfl<|aq _ (Vy AQ.level σ)<|aq _ rfl ?_
   refine ji (c:=(!(aR AQ.level 0 65535))) (fun gP=>?_) (fun gP=>?_)
   ·exact cg (iy (by simp) ⟨_,_,rfl⟩)
   refine aq _ rfl<|aq _ rfl<|dW (sl 3 dM kE.jL) (fun hg=>rfl)<|dW (AV.int .i64 (i21:Int)) (fun hg=>rfl)<|dW (AV.int .i64 (IntKind.i64.wrap ((i21:Int) -1))) (fun hg=>by(try rw[hg]);exact rfl) ?_
   refine yC (ω:=lK) (fun dh=>(AV.rp (dM dh))) (fun hg dh abc=>by(try rw[hg]);exact BU abc) (fun dh abc=>?_)
   refine dW (AV.rp (dM dh)) (fun hg=>by(try rw[hg]);exact rfl)<|dW (AV.agg (aN dh.key)) (fun hg=>by(try rw[hg]);exact rfl)<|dW (AV.agg (aN AQ.key)) (fun hg=>rfl) ?_
   refine yC (ω:=Bool) (fun nv=>(AV.bool nv)) (fun hg nv aa5=>by(try rw[hg]);exact(quiet_of (adY aa5))) (fun nv aa5=>?_)
   refine dW (AV.bool (!nv)) (fun hg=>by(try rw[hg]);exact rfl)<|aq _ (rM _ _) ?_
   refine ji (c:=((decide (0<(i21:Int)))&&(!nv))) (fun gu=>?_) (fun gu=>?_)
   ·exact cg (iy (by simp) ⟨_,_,rfl⟩)
   refine aq _ (fU Se amk) ?_
   exact cg (qw ⟨_,rfl,rfl⟩)
  ·intro hl xR v Ue hI
   obtain⟨u4,rfl,rfl⟩:=hI
   refine aq _ (jq _)<|qz ?_
   exact cg ⟨by simp,⟨_,_,_,rfl⟩⟩
  ·intro hl D2 q hq
   obtain⟨u4,u8,JO,rfl⟩:=hq
   refine jW rfl<|aq _ (fU DL Rn) ?_
   exact cg (qw ⟨_,rfl,rfl⟩)
  ·intro hl D2 q hq
   obtain⟨u8,JO,rfl⟩:=hq
   refine vg rfl<|jW rfl ?_
   exact cg (iy (by simp) ⟨_,rfl⟩)
 ·intro hl s4 v w6 hI
  obtain⟨u4,rfl,rfl⟩:=hI
  refine aq _ (jq _)<|qz ?_
  exact cg ⟨by simp,⟨_,_,rfl⟩⟩
 ·intro hl b5 q hq
  obtain⟨u4,JI,rfl⟩:=hq
  refine jW rfl ?_
  exact eF _ (bC _ _) ⟨rfl,rfl⟩
 ·intro hl b5 q hq
  obtain⟨JI,rfl⟩:=hq
  refine vg rfl<|jW rfl ?_
  exact eF _ (bC _ _) ⟨rfl,rfl⟩
noncomputable def E3 (a0:(List jU)) (a1:aB) (a2:lW):Option (Int×Int):=
 if((decide (¬(a2.level=0)))&&(decide (¬(a2.gj=0))))=true then
  some (0,3)
 else
 if(!(aR a2.level 0 65535))=true then
  some (0,1)
 else
 if a2.gj=0 then
  some (a2.level,0)
 else
 kX a0 (fun(i8:Nat) e7 (s1:Unit)=>(show Option (Lr Unit Unit Int)from
   if ¬(e7.number=a2.gj)then
    some (.go ())
   else
   kX e7.jL (fun(i16:Nat) M6 (s9:Unit)=>(show Option (Lr Unit Unit Int)from
     if M6.key=a1 then
      some (.ret M6.level)
     else
     some (.go ()))) (fun s9=>some ()) () (fun D0=>
    some (.brk ())) (fun D0=>
    some (.ret D0)))) (fun s1=>some ()) () (fun b2=>
  some (0,8)) (fun b2=>
  some (b2,0))
theorem Ve {a0:(List jU)} {a1:aB} {a2:lW} {σ:Heap} {r:(Int×Int)} (h:E3 a0 a1 a2=some r):CU [(sl 3 dN a0),(AV.agg (aN a1)),(AV.agg (uV a2))] σ=some ((AV.aG [(AV.int .i64 r.1),(AV.int .i64 r.2)]),σ):=by
 refine Ye (f:=OS) (y0:=(sl 3 dN a0)) (y1:=(AV.agg (aN a1))) (y2:=(AV.agg (uV a2))) (enc:=fun r:(Int×Int)=>(AV.aG [(AV.int .i64 r.1),(AV.int .i64 r.2)])) (T:=E3 a0 a1 a2) rfl rfl ?_ r h
 unfold OS E3
 refine aq _ rfl<|aq _ rfl<|aq _ rfl<|aq _ (fW _ _ _)<|dW (AV.int .i64 a2.gj) (fun hg=>rfl)<|dW (AV.bool (decide (¬(a2.gj=0)))) (fun hg=>by(try rw[hg]);exact(fW _ _ _))<|aq _ (rM _ _) ?_
 refine ji (c:=((decide (¬(a2.level=0)))&&(decide (¬(a2.gj=0))))) (fun kC=>?_) (fun kC=>?_)
 ·exact eF _ (bC _ _) ⟨rfl,rfl⟩
 refine aq _ rfl<|aq _ (Vy a2.level σ)<|aq _ rfl ?_
 refine ji (c:=(!(aR a2.level 0 65535))) (fun gO=>?_) (fun gO=>?_)
 ·exact eF _ (bC _ _) ⟨rfl,rfl⟩
 refine aq _ rfl<|aq _ (iN _ _ _) ?_
 refine kZ (p:=a2.gj=0) (fun gM=>?_) (fun gM=>?_)
 ·refine aq _ rfl ?_
  exact eF _ (bC _ _) ⟨rfl,rfl⟩
 refine aq _ (fL _ _ _) ?_
 refine qv (B:=Unit) (R:=Int) (fun(i8:Nat) (s1:Unit) v w3=>v=[(AV.lbx (aN a1)),(AV.lbx (uV a2)),ah,ah,(AV.int .i64 (i8:Int))]∧σ=w3) (fun(b2:Unit) (q:LS)=>∃u4 u5 u6 u7 JK,q=((AX.exit 0),([u4,u5,u6,u7,JK]:List AV),σ)) (fun(b2:Int) (q:LS)=>∃u4 u5 JK,q=(AX.ret,([u4,u5,(AV.int .i64 b2),ah,JK]:List AV),σ)) ?_ ?_ ⟨rfl,rfl⟩ ?_ ?_
 ·intro Aq i8 e7 s1 v w3 nW hI
  obtain⟨rfl,rfl⟩:=hI
  refine aq _ (jr nW)<|qA<|aq _ (iQ nW)<|aq _ rfl<|aq _ rfl<|aq _ (Wp _ _ rfl)<|aq _ rfl<|aq _ rfl<|aq _ rfl<|aq _ (fW _ _ _) ?_
  refine kZ (p:=¬(e7.number=a2.gj)) (fun iV=>?_) (fun iV=>?_)
  ·refine aq _ (fU nW Aq) ?_
   exact cg (qw ⟨rfl,rfl⟩)
  refine aq (sl 3 dM e7.jL) rfl<|aq _ (fL _ _ _) ?_
  refine qv (B:=Unit) (R:=Int) (fun(i16:Nat) (s9:Unit) v Ub=>v=[(AV.lbx (aN a1)),ah,ah,(AV.int .i64 (i16:Int))]∧σ=Ub) (fun(D0:Unit) (q:LS)=>∃u4 u6 u7 JL,q=((AX.exit 2),([u4,u6,u7,JL]:List AV),σ)) (fun(D0:Int) (q:LS)=>∃u4 JL,q=(AX.ret,([u4,(AV.int .i64 D0),ah,JL]:List AV),σ)) ?_ ?_ ⟨rfl,rfl⟩ ?_ ?_
  ·intro ami i16 M6 s9 v Ub Sc hI
   obtain⟨rfl,rfl⟩:=hI
   refine aq _ (jr Sc)<|qA<|aq _ (iQ Sc)<|aq _ rfl<|aq _ rfl<|aq _ (VI _ _ rfl)<|aq _ rfl<|aq _ rfl<|aq _ (Zs _ _) ?_
   refine kZ (p:=M6.key=a1) (fun mG=>?_) (fun mG=>?_)
   ·refine aq _ rfl ?_
    exact cg (iy (by simp) ⟨_,_,rfl⟩)
   refine aq _ (fU Sc ami) ?_
   exact cg (qw ⟨rfl,rfl⟩)
  ·intro hl s9 v Ub hI
   obtain⟨rfl,rfl⟩:=hI
   refine aq _ (jq _)<|qz ?_
   exact cg ⟨by simp,⟨_,_,_,_,rfl⟩⟩
  ·intro hl D0 q hq
   obtain⟨u4,u6,u7,JL,rfl⟩:=hq
   refine jW rfl ?_
   exact cg (akF (by simp) ⟨_,_,_,_,_,rfl⟩)
  ·intro hl D0 q hq
   obtain⟨u4,JL,rfl⟩:=hq
   refine vg rfl<|jW rfl ?_
   exact cg (iy (by simp) ⟨_,_,_,rfl⟩)
 ·intro hl s1 v w3 hI
  obtain⟨rfl,rfl⟩:=hI
  refine aq _ (jq _)<|qz ?_
  exact cg ⟨by simp,⟨_,_,_,_,_,rfl⟩⟩
 ·intro hl b2 q hq
  obtain⟨u4,u5,u6,u7,JK,rfl⟩:=hq
  refine jW rfl ?_
  exact eF _ (bC _ _) ⟨rfl,rfl⟩
 ·intro hl b2 q hq
  obtain⟨u4,u5,JK,rfl⟩:=hq
  refine vg rfl<|jW rfl ?_
  exact eF _ (bC _ _) ⟨rfl,rfl⟩
noncomputable def EU (a0:gr) (a1:(List jU)) (a2:(List bf)):Option Int:=
 (CJ a0 a1).bind fun r1=>
 (Fc a2).bind fun r2=>
 (tq (([r1,r2]:(List Int)).length≤aW) ((([r1,r2]:(List Int)).find? fun n=>decide (¬n=0)).getD 0)).bind fun r3=>
 if ¬(r3=0)then
  some r3
 else
 (tq (BX a0) (((if jZ a0=0 then mV a0 else[]:List aB),jZ a0))).bind fun r4=>
 kX r4.1 (fun(TQ:Nat) M5 (s7:(List (aB×Bool)))=>(show Option (Lr (List (aB×Bool)) (List (aB×Bool)) Unit)from
   some (.go (dB M5 true s7)))) (fun s7=>some s7) ([]:List (aB×Bool)) (fun b8=>
  kX a2 (fun(TS:Nat) IY (vQ:Unit)=>(show Option (Lr Unit Unit Int)from
    kX IY.dm (fun(i33:Nat) Gp (Nv:Unit)=>(show Option (Lr Unit Unit Int)from
      if(!((cH Gp.key b8).getD false))=true then
       some (.ret 8)
      else
      (E3 a1 Gp.key Gp.value).bind fun nw=>
      if ¬(nw.2=0)then
       some (.ret nw.2)
      else
      some (.go ()))) (fun Nv=>some ()) () (fun D5=>
     some (.go ())) (fun D5=>
     some (.ret D5)))) (fun vQ=>some ()) () (fun D4=>
   some 0) (fun D4=>
   some D4)) (fun b8=>
  none)
theorem adj {a0:gr} {a1:(List jU)} {a2:(List bf)} {σ:Heap} {r:Int} (h:EU a0 a1 a2=some r):Oj [(AV.agg (jM a0)),(sl 3 dN a1),(sl 11 aZ a2)] σ=some ((AV.int .i64 r),σ):=by
 refine Ye (f:=Om) (y0:=(AV.agg (jM a0))) (y1:=(sl 3 dN a1)) (y2:=(sl 11 aZ a2)) (enc:=fun r:Int=>(AV.int .i64 r)) (T:=EU a0 a1 a2) (iS (qH (iS (tW (fun _=>(iS rfl (iS rfl (iS (tW (fun _=>rfl) _) FX)))) _) (iS rfl FX))) (iS (tW (fun _=>rfl) _) (iS (tW (fun _=>rfl) _) rfl))) rfl ?_ r h
 unfold Om EU
 refine aq _ rfl<|aq _ rfl ?_
 refine lg (fun r1:Int=>((AV.int .i64 r1),σ)) (fun r1 kQ=>Ur kQ) (fun r1 kQ=>?_)
 refine lg (fun r2:Int=>((AV.int .i64 r2),σ)) (fun r2 tg=>VX tg) (fun r2 tg=>?_)
 refine aq (sl 1 rS ([r1,r2]:(List Int))) rfl ?_
 refine lg (fun r3:Int=>((AV.int .i64 r3),σ)) (fun r3 Jl=>(wC (e:=fun r:Int=>((AV.int .i64 r),σ)) (fun hs=>C4 ([r1,r2]:(List Int)) hs σ)) Jl) (fun r3 Jl=>?_)
 refine aq _ (fW _ _ _) ?_
 refine kZ (p:=¬(r3=0)) (fun fI=>?_) (fun fI=>?_)
 ·exact eF _ (bC _ _) ⟨rfl,rfl⟩
 refine aq _ rfl ?_
 refine lg (fun r4:((List aB)×Int)=>((AV.aG [(sl 2 aN r4.1),(AV.int .i64 r4.2)]),σ)) (fun r4 hr4=>(wC (e:=fun r:((List aB)×Int)=>((AV.aG [(sl 2 aN r.1),(AV.int .i64 r.2)]),σ)) (fun hs=>Qt a0 hs σ)) hr4) (fun r4 hr4=>?_)
 refine aq (sl 2 aN r4.1) rfl<|aq _ rfl ?_
 have hp5:Hp σ σ []:=Q5 σ
 have hp6:Hp σ (σ++[aJ.map []]) [((AV.om σ.length),(Ct.m (List.map (fun p=>((fun x=>(AV.agg (aN x))) p.1,(fun x=>(AV.bool x)) p.2)) ([]:List (aB×Bool)))))]:=Rp hp5
 refine aq _ (fL _ _ _) ?_
 refine qv (B:=(List (aB×Bool))) (R:=Unit) (fun(TQ:Nat) (s7:(List (aB×Bool))) v w9=>v=[(AV.int .i64 (TQ:Int))]∧Hp σ w9 [((AV.om σ.length),(Ct.m (List.map (fun p=>((fun x=>(AV.agg (aN x))) p.1,(fun x=>(AV.bool x)) p.2)) s7)))]) (fun(b8:(List (aB×Bool))) (q:LS)=>∃u37 Ua,q=((AX.exit 0),([u37]:List AV),Ua)∧Hp σ Ua [((AV.om σ.length),(Ct.m (List.map (fun p=>((fun x=>(AV.agg (aN x))) p.1,(fun x=>(AV.bool x)) p.2)) b8)))]) (fun(b8:Unit) (q:LS)=>False) ?_ ?_ ⟨rfl,hp6⟩ ?_ ?_
 ·intro amh TQ M5 s7 v w9 Sb hI
  obtain⟨rfl,Sr⟩:=hI
  refine aq _ (jr Sb)<|qA<|aq _ (iQ Sb)<|aq _ rfl<|aq _ rfl<|aq _ (HN _ _ rfl)<|aq _ rfl ?_
  obtain⟨w15,kF,MT⟩:=QG (ek:=(.s [0,2])) (eK:=(fun x=>(AV.agg (aN x)))) (eV:=(fun x=>(AV.bool x))) Sr 0 rfl qo M5 true rfl
  change Hp σ w15 [((AV.om σ.length),(Ct.m (List.map (fun p=>((fun x=>(AV.agg (aN x))) p.1,(fun x=>(AV.bool x)) p.2)) (dB M5 true s7))))]at MT
  refine aq w15 kF<|aq _ (fU Sb amh) ?_
  exact cg (qw ⟨rfl,MT⟩)
 ·intro hl s7 v w9 hI
  obtain⟨rfl,Sr⟩:=hI
  refine aq _ (jq _)<|qz ?_
  exact cg ⟨by simp,⟨_,_,rfl,Sr⟩⟩
 ·intro hl b8 q hq
  obtain⟨u37,Ua,rfl,an5⟩:=hq
  refine jW rfl<|aq _ (fL _ _ _) ?_
  refine qv (B:=Unit) (R:=Int) (fun(TS:Nat) (vQ:Unit) v Ug=>∃u6,v=[u6,(AV.int .i64 (TS:Int))]∧Hp σ Ug [((AV.om σ.length),(Ct.m (List.map (fun p=>((fun x=>(AV.agg (aN x))) p.1,(fun x=>(AV.bool x)) p.2)) b8)))]) (fun(D4:Unit) (q:LS)=>∃u6 JM EC,q=((AX.exit 2),([u6,JM]:List AV),EC)∧Hp σ EC [((AV.om σ.length),(Ct.m (List.map (fun p=>((fun x=>(AV.agg (aN x))) p.1,(fun x=>(AV.bool x)) p.2)) b8)))]) (fun(D4:Int) (q:LS)=>∃JM EC,q=(AX.ret,([(AV.int .i64 D4),JM]:List AV),EC)∧Hp σ EC []) ?_ ?_ ⟨_,rfl,an5⟩ ?_ ?_
  ·intro aml TS IY vQ v Ug Sg hI
   obtain⟨u6,rfl,Ss⟩:=hI
   refine aq _ (jr Sg)<|qA<|aq _ (iQ Sg)<|aq _ rfl<|aq _ rfl<|aq _ (HM _ _ rfl)<|aq (sl 8 fG IY.dm) rfl<|aq _ (fL _ _ _) ?_
   refine qv (B:=Unit) (R:=Int) (fun(i33:Nat) (Nv:Unit) v Nz=>∃u6,v=[u6,(AV.int .i64 (i33:Int))]∧Hp σ Nz [((AV.om σ.length),(Ct.m (List.map (fun p=>((fun x=>(AV.agg (aN x))) p.1,(fun x=>(AV.bool x)) p.2)) b8)))]) (fun(D5:Unit) (q:LS)=>∃u6 JN ED,q=((AX.exit 4),([u6,JN]:List AV),ED)∧Hp σ ED [((AV.om σ.length),(Ct.m (List.map (fun p=>((fun x=>(AV.agg (aN x))) p.1,(fun x=>(AV.bool x)) p.2)) b8)))]) (fun(D5:Int) (q:LS)=>∃JN ED,q=(AX.ret,([(AV.int .i64 D5),JN]:List AV),ED)∧Hp σ ED []) ?_ ?_ ⟨_,rfl,Ss⟩ ?_ ?_
   ·intro amm i33 Gp Nv v Nz Si hI
    obtain⟨u6,rfl,F8⟩:=hI
    refine aq _ (jr Si)<|qA<|aq _ (iQ Si)<|aq _ rfl<|aq _ rfl<|aq _ (LQ _ _ rfl)<|aq _ rfl<|aq _ (aiC (ek:=(.s [0,2])) (eK:=(fun x=>(AV.agg (aN x)))) (eV:=(fun x=>(AV.bool x))) F8 0 rfl qo Gp.key false rfl)<|aq _ rfl ?_
    refine ji (c:=(!((cH Gp.key b8).getD false))) (fun hG=>?_) (fun hG=>?_)
    ·exact cg (iy (by simp) ⟨_,_,rfl,(QH F8)⟩)
    refine aq _ rfl<|aq _ rfl ?_
    refine lg (fun nw:(Int×Int)=>((AV.aG [(AV.int .i64 nw.1),(AV.int .i64 nw.2)]),Nz)) (fun nw aa7=>Ve aa7) (fun nw aa7=>?_)
    refine aq _ rfl<|aq _ rfl<|aq _ (fW _ _ _) ?_
    refine kZ (p:=¬(nw.2=0)) (fun gZ=>?_) (fun gZ=>?_)
    ·exact cg (iy (by simp) ⟨_,_,rfl,(QH F8)⟩)
    refine aq _ (fU Si amm) ?_
    exact cg (qw ⟨_,rfl,F8⟩)
   ·intro hl Nv v Nz hI
    obtain⟨u6,rfl,F8⟩:=hI
    refine aq _ (jq _)<|qz ?_
    exact cg ⟨by simp,⟨_,_,_,rfl,F8⟩⟩
   ·intro hl D5 q hq
    obtain⟨u6,JN,ED,rfl,Su⟩:=hq
    refine jW rfl<|aq _ (fU Sg aml) ?_
    exact cg (qw ⟨_,rfl,Su⟩)
   ·intro hl D5 q hq
    obtain⟨JN,ED,rfl,Su⟩:=hq
    refine vg rfl<|jW rfl ?_
    exact cg (iy (by simp) ⟨_,_,rfl,(QH Su)⟩)
  ·intro hl vQ v Ug hI
   obtain⟨u6,rfl,Ss⟩:=hI
   refine aq _ (jq _)<|qz ?_
   exact cg ⟨by simp,⟨_,_,_,rfl,Ss⟩⟩
  ·intro hl D4 q hq
   obtain⟨u6,JM,EC,rfl,F7⟩:=hq
   refine jW rfl ?_
   exact eF _ (Mo F7 (Zx (dO _ _))) ⟨rfl,rfl⟩
  ·intro hl D4 q hq
   obtain⟨JM,EC,rfl,F7⟩:=hq
   refine vg rfl<|jW rfl ?_
   exact eF _ (Mo F7 (Zx (dO _ _))) ⟨rfl,rfl⟩
 ·intro hl b8 q hq
  exact False.elim hq
end
section
set_option maxRecDepth 100000
noncomputable def Ou (a0:iR) (a1:Int):Option Bool:=
 some (decide (a0.number=a1))
theorem adl {a0:iR} {a1:Int} {σ:Heap} {r:Bool} (h:Ou a0 a1=some r):GY [(AV.agg (dU a0)),(AV.rp [(AV.int .i64 a1)])] σ=some ((AV.bool r),σ):=by
 refine uR (f:=Oq) (y0:=(AV.agg (dU a0))) (y1:=(AV.rp [(AV.int .i64 a1)])) (enc:=fun r:Bool=>(AV.bool r)) (T:=Ou a0 a1) rfl rfl ?_ r h
 unfold Oq Ou
 refine aq _ rfl<|aq _ rfl<|aq _ rfl<|aq _ (iN _ _ _) ?_
 exact eF _ (bC _ _) ⟨rfl,rfl⟩
noncomputable def E8 (a0:gf) (a1:Int):Option (iR×Bool):=
 (tq (a0.lists.length≤aW) (kq (fun x=>(decide (x.number=a1))) a0.lists)).bind fun r1=>
 if r1<0 then
  some ((⟨0,[]⟩:iR),false)
 else
 (uH a0.lists r1).bind fun x2=>
 some (x2,true)
theorem Vx {a0:gf} {a1:Int} {σ:Heap} {r:(iR×Bool)} (h:E8 a0 a1=some r):Bm [(AV.agg (bA a0)),(AV.int .i64 a1)] σ=some ((AV.aG [(AV.agg (dU r.1)),(AV.bool r.2)]),σ):=by
 refine uR (f:=KQ) (y0:=(AV.agg (bA a0))) (y1:=(AV.int .i64 a1)) (enc:=fun r:(iR×Bool)=>(AV.aG [(AV.agg (dU r.1)),(AV.bool r.2)])) (T:=E8 a0 a1) rfl rfl ?_ r h
 unfold KQ E8
 refine aq _ rfl<|aq _ rfl<|aq (sl 2 dU a0.lists) rfl ?_
 refine lg (fun r1:Int=>((AV.int .i64 r1),σ)) (fun r1 kQ=>(wC (e:=fun r:Int=>((AV.int .i64 r),σ)) (fun hs=>abD _ a0.lists hs _ _ (fun x=>(decide (x.number=a1))) σ (fun x hx=>adl (σ:=σ) (r:=(decide (x.number=a1))) rfl))) kQ) (fun r1 kQ=>?_)
 refine aq _ rfl ?_
 refine kZ (p:=r1<0) (fun c3=>?_) (fun c3=>?_)
 ·refine aq [ah,AV.au] rfl<|aq [ah,AV.au] rfl<|aq _ rfl ?_
  exact eF _ (bC _ _) ⟨(abf (iS (qH (iS rfl (iS (by first|rfl|exact akp _ _) FX))) (iS rfl FX))),rfl⟩
 refine aq (sl 2 dU a0.lists) rfl ?_
 refine lg (fun x2:iR=>(AV.rp (dU x2))) (fun x2 hx2=>BU hx2) (fun x2 hx2=>?_)
 refine aq _ rfl<|aq _ rfl<|aq _ (LP _ _ rfl)<|aq _ rfl ?_
 exact eF _ (bC _ _) ⟨(abf (iS (qH (iS rfl (iS (tW (fun _=>rfl) _) FX))) (iS rfl FX))),rfl⟩
noncomputable def GV (a0:gf):Option Int:=
 (CJ a0.aQ a0.bH).bind fun r1=>
 (tq (([r1,(if(decide (30<(a0.lists.length:Int)))=true then 2 else 0)]:(List Int)).length≤aW) ((([r1,(if(decide (30<(a0.lists.length:Int)))=true then 2 else 0)]:(List Int)).find? fun n=>decide (¬n=0)).getD 0)).bind fun r2=>
 if ¬(r2=0)then
  some r2
 else
 kX a0.lists (fun(uC:Nat) e9 (s3:Unit)=>(show Option (Lr Unit Unit Int)from
   if(!(aR e9.number 1 999))=true then
    some (.ret 1)
   else
   (if decide (0<(uC:Int))=true then uH a0.lists (IntKind.i64.wrap ((uC:Int) -1))else some default).bind fun bW=>
   if((decide (0<(uC:Int)))&&(decide (e9.number≤bW.number)))=true then
    some (.ret 7)
   else
   (EU a0.aQ a0.bH e9.bE).bind fun gG=>
   if ¬(gG=0)then
    some (.ret gG)
   else
   some (.go ()))) (fun s3=>some ()) () (fun b4=>
  if 40<(a0.bF.length:Int)then
   some 2
  else
  kX a0.bF (fun(i23:Nat) vF (gJ:Unit)=>(show Option (Lr Unit Unit Int)from
    if(!(aR vF.number 1 40))=true then
     some (.ret 1)
    else
    (if decide (0<(i23:Int))=true then uH a0.bF (IntKind.i64.wrap ((i23:Int) -1))else some default).bind fun x24=>
    if((decide (0<(i23:Int)))&&(decide (vF.number≤x24.number)))=true then
     some (.ret 7)
    else
    (E8 a0 vF.list).bind fun jA=>
    if(!jA.2)=true then
     some (.ret 8)
    else
    if(!(aR vF.priority 0 100))=true then
     some (.ret 1)
    else
    some (.go ()))) (fun gJ=>some ()) () (fun D3=>
   some 0) (fun D3=>
   some D3)) (fun b4=>
  some b4)
theorem UA {a0:gf} {σ:Heap} {r:Int} (h:GV a0=some r):Kk [(AV.agg (bA a0))] σ=some ((AV.int .i64 r),σ):=by
 refine yp (f:=Oc) (y0:=(AV.agg (bA a0))) (enc:=fun r:Int=>(AV.int .i64 r)) (T:=GV a0) rfl rfl ?_ r h
 unfold Oc GV
 refine aq _ rfl<|aq _ rfl<|aq (sl 3 dN a0.bH) rfl ?_
 refine lg (fun r1:Int=>(AV.int .i64 r1)) (fun r1 kQ=>(quiet_of (Ur kQ))) (fun r1 kQ=>?_)
 refine aq (sl 2 dU a0.lists) rfl<|aq _ (fL _ _ _)<|aq _ rfl<|aq _ (quiet_of (uT (decide (30<(a0.lists.length:Int))) 2 σ))<|aq (sl 1 rS ([r1,(if(decide (30<(a0.lists.length:Int)))=true then 2 else 0)]:(List Int))) rfl ?_
 refine lg (fun r2:Int=>(AV.int .i64 r2)) (fun r2 tg=>(quiet_of ((wC (e:=fun r:Int=>((AV.int .i64 r),σ)) (fun hs=>C4 ([r1,(if(decide (30<(a0.lists.length:Int)))=true then 2 else 0)]:(List Int)) hs σ)) tg))) (fun r2 tg=>?_)
 refine aq _ (fW _ _ _) ?_
 refine kZ (p:=¬(r2=0)) (fun vD=>?_) (fun vD=>?_)
 ·exact eF _ (bC _ _) ⟨rfl,rfl⟩
 refine aq (sl 2 dU a0.lists) rfl<|aq _ (fL _ _ _) ?_
 refine qv (B:=Unit) (R:=Int) (fun(uC:Nat) (s3:Unit) v w5=>v=[(AV.lbx (bA a0)),ah,(AV.int .i64 (uC:Int))]∧σ=w5) (fun(b4:Unit) (q:LS)=>∃u2 JJ,q=((AX.exit 0),([(AV.lbx (bA a0)),u2,JJ]:List AV),σ)) (fun(b4:Int) (q:LS)=>∃u1 JJ,q=(AX.ret,([u1,(AV.int .i64 b4),JJ]:List AV),σ)) ?_ ?_ ⟨rfl,rfl⟩ ?_ ?_
 ·intro Sn uC e9 s3 v w5 Ee hI
  obtain⟨rfl,rfl⟩:=hI
  refine aq _ (jr Ee)<|qA<|aq _ (iQ Ee)<|aq _ rfl<|aq _ rfl<|aq _ (LP _ _ rfl)<|aq _ rfl<|aq _ (jT e9.number 1 999 σ)<|aq _ rfl ?_
  refine ji (c:=(!(aR e9.number 1 999))) (fun jG=>?_) (fun jG=>?_)
  ·exact cg (iy (by simp) ⟨_,_,rfl⟩)
  refine aq _ rfl<|dW (AV.int .i64 e9.number) (fun hg=>rfl)<|aq _ rfl<|dW (sl 2 dU a0.lists) (fun hg=>rfl)<|dW (AV.int .i64 (uC:Int)) (fun hg=>rfl)<|dW (AV.int .i64 (IntKind.i64.wrap ((uC:Int) -1))) (fun hg=>by(try rw[hg]);exact rfl) ?_
  refine yC (ω:=iR) (fun bW=>(AV.rp (dU bW))) (fun hg bW aba=>by(try rw[hg]);exact BU aba) (fun bW aba=>?_)
  refine dW (AV.rp (dU bW)) (fun hg=>by(try rw[hg]);exact rfl)<|dW (AV.int .i64 bW.number) (fun hg=>by(try rw[hg]);exact rfl)<|dW (AV.bool (decide (e9.number≤bW.number))) (fun hg=>by(try rw[hg]);exact rfl)<|aq _ (rM _ _) ?_
  refine ji (c:=((decide (0<(uC:Int)))&&(decide (e9.number≤bW.number)))) (fun jP=>?_) (fun jP=>?_)
  ·exact cg (iy (by simp) ⟨_,_,rfl⟩)
  refine aq _ rfl<|aq _ rfl<|aq _ rfl<|aq (sl 3 dN a0.bH) rfl<|aq (sl 11 aZ e9.bE) rfl ?_
  refine lg (fun gG:Int=>((AV.int .i64 gG),σ)) (fun gG aa3=>adj aa3) (fun gG aa3=>?_)
  refine aq _ (fW _ _ _) ?_
  refine kZ (p:=¬(gG=0)) (fun gH=>?_) (fun gH=>?_)
  ·exact cg (iy (by simp) ⟨_,_,rfl⟩)
  refine aq _ (fU Ee Sn) ?_
  exact cg (qw ⟨rfl,rfl⟩)
 ·intro hl s3 v w5 hI
  obtain⟨rfl,rfl⟩:=hI
  refine aq _ (jq _)<|qz ?_
  exact cg ⟨by simp,⟨_,_,rfl⟩⟩
 ·intro hl b4 q hq
  obtain⟨u2,JJ,rfl⟩:=hq
  refine jW rfl<|aq _ rfl<|aq (sl 3 cz a0.bF) rfl<|aq _ (fL _ _ _)<|aq _ rfl ?_
  refine kZ (p:=40<(a0.bF.length:Int)) (fun um=>?_) (fun um=>?_)
  ·exact eF _ (bC _ _) ⟨rfl,rfl⟩
  refine aq _ rfl<|aq (sl 3 cz a0.bF) rfl<|aq _ (fL _ _ _) ?_
  refine qv (B:=Unit) (R:=Int) (fun(i23:Nat) (gJ:Unit) v Uf=>∃u2,v=[(AV.lbx (bA a0)),u2,(AV.int .i64 (i23:Int))]∧σ=Uf) (fun(D3:Unit) (q:LS)=>∃u1 u2 JP,q=((AX.exit 2),([u1,u2,JP]:List AV),σ)) (fun(D3:Int) (q:LS)=>∃u1 JP,q=(AX.ret,([u1,(AV.int .i64 D3),JP]:List AV),σ)) ?_ ?_ ⟨_,rfl,rfl⟩ ?_ ?_
  ·intro hle22 i23 vF gJ v Uf Sf hI
   obtain⟨u2,rfl,rfl⟩:=hI
   refine aq _ (jr Sf)<|qA<|aq _ (iQ Sf)<|aq _ rfl<|aq _ rfl<|aq _ (Vk _ _ rfl)<|aq _ rfl<|aq _ (jT vF.number 1 40 σ)<|aq _ rfl ?_
   refine ji (c:=(!(aR vF.number 1 40))) (fun qN=>?_) (fun qN=>?_)
   ·exact cg (iy (by simp) ⟨_,_,rfl⟩)
   refine aq _ rfl<|dW (AV.int .i64 vF.number) (fun hg=>rfl)<|aq _ rfl<|dW (sl 3 cz a0.bF) (fun hg=>rfl)<|dW (AV.int .i64 (i23:Int)) (fun hg=>rfl)<|dW (AV.int .i64 (IntKind.i64.wrap ((i23:Int) -1))) (fun hg=>by(try rw[hg]);exact rfl) ?_
   refine yC (ω:=lJ) (fun x24=>(AV.rp (cz x24))) (fun hg x24 abd=>by(try rw[hg]);exact BU abd) (fun x24 abd=>?_)
   refine dW (AV.rp (cz x24)) (fun hg=>by(try rw[hg]);exact rfl)<|dW (AV.int .i64 x24.number) (fun hg=>by(try rw[hg]);exact rfl)<|dW (AV.bool (decide (vF.number≤x24.number))) (fun hg=>by(try rw[hg]);exact rfl)<|aq _ (rM _ _) ?_
   refine ji (c:=((decide (0<(i23:Int)))&&(decide (vF.number≤x24.number)))) (fun mH=>?_) (fun mH=>?_)
   ·exact cg (iy (by simp) ⟨_,_,rfl⟩)
   refine aq _ rfl<|aq _ rfl ?_
   refine lg (fun jA:(iR×Bool)=>((AV.aG [(AV.agg (dU jA.1)),(AV.bool jA.2)]),σ)) (fun jA aa6=>Vx aa6) (fun jA aa6=>?_)
   refine aq _ rfl<|aq _ rfl<|aq _ rfl<|aq _ (LP _ _ rfl)<|aq _ rfl ?_
   refine ji (c:=(!jA.2)) (fun lq=>?_) (fun lq=>?_)
   ·exact cg (iy (by simp) ⟨_,_,rfl⟩)
   refine aq _ rfl<|aq _ (jT vF.priority 0 100 σ)<|aq _ rfl ?_
   refine ji (c:=(!(aR vF.priority 0 100))) (fun fM=>?_) (fun fM=>?_)
   ·exact cg (iy (by simp) ⟨_,_,rfl⟩)
   refine aq _ (fU Sf hle22) ?_
   exact cg (qw ⟨_,rfl,rfl⟩)
  ·intro hl gJ v Uf hI
   obtain⟨u2,rfl,rfl⟩:=hI
   refine aq _ (jq _)<|qz ?_
   exact cg ⟨by simp,⟨_,_,_,rfl⟩⟩
  ·intro hl D3 q hq
   obtain⟨u1,u2,JP,rfl⟩:=hq
   refine jW rfl ?_
   exact eF _ (bC _ _) ⟨rfl,rfl⟩
  ·intro hl D3 q hq
   obtain⟨u1,JP,rfl⟩:=hq
   refine vg rfl<|jW rfl ?_
   exact eF _ (bC _ _) ⟨rfl,rfl⟩
 ·intro hl b4 q hq
  obtain⟨u1,JJ,rfl⟩:=hq
  refine vg rfl<|jW rfl ?_
  exact eF _ (bC _ _) ⟨rfl,rfl⟩
end
section
section
variable {κ ν : Type} [DecidableEq κ]
theorem Wt (k a:κ) (v:ν):∀(l:List (κ×ν)),cH k (dB a v l)=if k=a then some v else cH k l
 |[]=>by simp [dB,cH]
 |(b,w)::l=>by
  rw[dB]
  by_cases h:a=b
  ·subst h
   rw[if_pos rfl,cH,cH]
   split<;>rfl
  ·rw[if_neg h,cH,cH,Wt k a v l]
   by_cases h2:k=b
   ·subst h2;rw[if_pos rfl,if_pos rfl,if_neg (fun e=>h e.symm)]
   ·rw[if_neg h2,if_neg h2]
theorem P9 (k:κ):∀(l:List κ) (s:List (κ×Bool)),(cH k (l.foldl (fun s x=>dB x true s) s)).getD false=(decide (k∈l)||(cH k s).getD false)
 |[],s=>by simp
 |x::l,s=>by
  rw[List.foldl_cons,P9 k l,Wt]
  by_cases h:k=x
  ·simp [h]
  ·simp [h]
end
theorem afv {l:List Int} {n:Int} (h:l.Pairwise (·<·)) (k:DN l n=false):(l++[n]).Pairwise (·<·):=by
 rw[List.pairwise_append]
 refine⟨h,by simp,fun a ha b hb=>?_⟩
 simp at hb
 subst hb
 unfold DN at k
 cases hl:l.getLast? with
 |none=>rw[List.getLast?_eq_none_iff]at hl;subst hl;simp at ha
 |some m=>
  rw[hl]at k
  simp at k
  obtain⟨ys,rfl⟩:=List.getLast?_eq_some_iff.1 hl
  rw[List.pairwise_append]at h
  rcases List.mem_append.1 ha with ha|ha
  ·have:=h.2.2 a ha m (by simp);omega
  ·simp at ha;omega
theorem Vp {gI:List cV}:∀(rest pre:List gY),F1 gI pre rest=0→(pre.map (·.number)).Pairwise (·<·)→((pre++rest).map (·.number)).Pairwise (·<·)
 |[],pre,_,h=>by simpa using h
 |u::rest,pre,hc,h=>by
  rw[F1]at hc
  split at hc
  ·cases hc
  split at hc
  ·cases hc
  rename_i ho
  split at hc
  ·cases hc
  split at hc
  ·cases hc
  split at hc
  ·cases hc
  have:=Vp rest (pre++[u]) hc (by rw[List.map_append];exact afv h (by simpa using ho))
  simpa using this
theorem afm {r:gr} (h:jZ r=0):(r.units.map (·.number)).Pairwise (·<·):=by
 unfold jZ at h
 split at h
 ·split at h
  ·cases h
  ·simpa using Vp r.units [] h (by simp)
 ·rename_i h2;exact absurd h h2
theorem agl (p:cV) (nm:ByteArray):(Rb p nm).2=true↔∃x∈p.params,x.name=nm:=by
 unfold Rb
 cases h:p.params.find? fun x=>decide (x.name=nm)with
 |none=>
  simp only[Option.elim_none,Bool.false_eq_true,false_iff]
  rintro⟨x,hx,e⟩
  have:=List.find?_eq_none.1 h x hx
  simp [e]at this
 |some x=>
  simp only[Option.elim_some,true_iff]
  exact⟨x,List.mem_of_find?_eq_some h,by simpa using List.find?_some h⟩
theorem ahX {l:List gY} (h:(l.map (·.number)).Pairwise (·<·)) {u v:gY} (hu:u∈l) (hv:v∈l) (e:u.number=v.number):u=v:=by
 induction l with
 |nil=>simp at hu
 |cons x l ih=>
  rw[List.map_cons,List.pairwise_cons]at h
  rcases List.mem_cons.1 hu with Jm|Jm<;>rcases List.mem_cons.1 hv with Jn|Jn
  ·rw[Jm,Jn]
  ·have:=h.1 v.number (List.mem_map.2 ⟨v,Jn,rfl⟩);rw[←Jm]at this;omega
  ·have:=h.1 u.number (List.mem_map.2 ⟨u,Jm,rfl⟩);rw[←Jn]at this;omega
  ·exact ih h.2 Jm Jn
def Cj (r:gr) (k:aB):Bool:=(YZ r k).2
theorem XS {r:gr} (h:jZ r=0) (k:aB):Cj r k=decide (k∈mV r):=by
 rw[Bool.eq_iff_iff,decide_eq_true_iff]
 unfold Cj YZ mV
 rw[List.mem_flatMap]
 cases hf:r.units.find? fun u=>decide (u.number=k.unit)with
 |none=>
  simp only[Option.elim_none,Bool.false_eq_true,false_iff]
  rintro⟨u,hu,hk⟩
  obtain⟨x,_,rfl⟩:=List.mem_map.1 hk
  have:=List.find?_eq_none.1 hf u hu
  simp at this
 |some u=>
  have hu:=List.mem_of_find?_eq_some hf
  have hn:u.number=k.unit:=by simpa using List.find?_some hf
  simp only[Option.elim_some,agl]
  constructor
  ·rintro⟨x,hx,e⟩
   exact⟨u,hu,List.mem_map.2 ⟨x,hx,by rw[hn,e]⟩⟩
  ·rintro⟨v,hv,hk⟩
   obtain⟨x,hx,rfl⟩:=List.mem_map.1 hk
   obtain rfl:=ahX (afm h) hu hv hn
   exact⟨x,hx,rfl⟩
theorem Qh {r:gr} (h:jZ r=0):(mV r).length≤16000:=by
 have h1:=O0 h r.units
 have h2:=Wd h
 show(r.units.flatMap (rG r.aY)).length≤_
 omega
theorem aiE {α:Type} {p:Prop} [Decidable p] (a b:α):(if p then some a else some b)=some (if p then a else b):=by split<;>rfl
theorem PJ {α β:Type} {p:Prop} [Decidable p] (a b:α) (f:α→Option β):(if p then some a else some b).bind f=f (if p then a else b):=by split<;>rfl
theorem before_eq (a b:aB):EY a b=some (fu a b):=by
 unfold EY fu
 by_cases h:a.unit=b.unit
 ·simp [h,LR,Qz]
 ·by_cases h2:a.unit<b.unit<;>simp [h,h2]
theorem compare_eq (a b:aB):EX a b=some (vq a b):=by
 unfold EX vq
 by_cases h:a.unit=b.unit
 ·simp [h]
 ·by_cases h2:a.unit<b.unit<;>simp [h,h2]
def MG (has:aB→Bool) (l:List lK) (i:Nat) (x:lK):Int:=
 if(!has x.key)=true then 8
 else if(!(aR x.level 0 65535))=true then 1
 else if(decide (0<(i:Int))&&!fu (pv l i).key x.key)=true then 7 else 0
def Md (has:aB→Bool) (l:List jU) (i:Nat) (p:jU):Int:=
 if(!(aR p.number 1 999))=true then 1
 else if(decide (0<(i:Int))&&decide (p.number≤(pv l i).number))=true then 7
 else if(!(Dc p.title))=true then 3
 else if 2000<(p.jL.length:Int)then 2
 else iE (MG has p.jL) p.jL 0
def rF (r:gr) (l:List jU):Int:=
 if ¬(jZ r=0)then jZ r else if 200<(l.length:Int)then 2 else iE (Md (Cj r) l) l 0
theorem aem (c:Bool) (a b:aB):(c&&!(if c=true then fu a b else(default:Bool)))=(c&&!fu a b):=by cases c<;>rfl
theorem ahi (c:Bool) (a b:aB):(c&&decide (0≤(if c=true then vq a b else(default:Int))))=(c&&!fu a b):=by
 cases c
 ·rfl
 ·simp only[if_true,Bool.true_and];exact ajD a b
theorem ae0 (s:ByteArray):(decide (¬(s=(⟨#[]⟩:ByteArray)))&&!(if decide (¬(s=(⟨#[]⟩:ByteArray)))=true then HY s else(default:Bool)))=!Dc s:=by
 unfold Dc
 by_cases h:s=⟨#[]⟩<;>simp [h]
theorem UR (r:gr) (l:List jU) (hr:BX r) (hl:eW zn l):CJ r l=some (rF r l):=by
 unfold CJ rF
 simp only[uX hr,Option.bind_some]
 rw[uX (by show 2≤aW;unfold aW;omega)]
 simp only[Rl,Option.bind_some]
 by_cases h0:jZ r=0
 case neg=>simp [h0]
 by_cases h1:200<(l.length:Int)
 ·simp [h0,h1]
 have hk:E7 r=some ((mV r).foldl (fun s x=>dB x true s) []):=by
  unfold E7
  have:=Qh h0
  simp only[uX hr,Option.bind_some,h0,if_true]
  rw[Lf (fun s x=>dB x true s) (fun _ _=>True) (by unfold aW;omega) trivial (fun _ _ _ _ _=>trivial) (fun _ _ _ _ _=>rfl)]
  rfl
 simp only[h0,h1,not_true_eq_false,if_false,decide_false,Bool.false_eq_true,hk,Option.bind_some]
 have has:∀k,(cH k ((mV r).foldl (fun s x=>dB x true s) [])).getD false=Cj r k:=by
  intro k;rw[P9,XS h0];simp [cH]
 rw[Br (f:=Md (Cj r) l) hl.1 ?_]
 ·split
  ·rename_i h;rw[h]
  ·rfl
 intro i p hp
 have TH:=hl.2 p (List.mem_of_getElem? hp)
 obtain⟨_,ht,hs⟩:=TH
 simp only[FG hp hl.1,Option.bind_some,uX ht,has]
 rw[Br (f:=MG (Cj r) p.jL) hs.1 ?_]
 ·unfold Md
  repeat first|exact XF _|exact go_ret|refine FE (by decide) ?_
 intro j x hx
 simp only[FG hx hs.1,Option.bind_some,before_eq,PJ,aem]
 unfold MG
 repeat first|exact go_ret|refine FE (by decide) ?_
def wo (l:List jU) (k:aB) (v:lW):Int×Int:=
 if(decide (¬(v.level=0))&&decide (¬(v.gj=0)))=true then(0,3)
 else if(!(aR v.level 0 65535))=true then(0,1)
 else if v.gj=0 then(v.level,0)
 else match l.find? fun p=>decide (p.number=v.gj)with
  |none=>(0,8)
  |some p=>match p.jL.find? fun s=>decide (s.key=k)with|none=>(0,8)|some s=>(s.level,0)
theorem afS {α γ R:Type} {p:α→Bool} {l:List α} {body:Nat→α→Unit→Option (Lr Unit Unit R)} {r:α→Option R} {fin:Unit→Option Unit} {s:Unit} {K1:Unit→Option γ} {K2:R→Option γ} (hl:l.length≤aW) (hb:∀i x,l[i]? =some x→body i x ()=if p x=true then some (match r x with|some q=>.ret q|none=>.brk ())else some (.go ())) (hf:fin ()=some ():=by rfl):kX l body fin s K1 K2=match l.find? p with|some x=>(match r x with|some q=>K2 q|none=>K1 ())|none=>K1 ():=by
 rw[HG hl]
 have key:∀(rest pre:List α),l=pre++rest→mz body fin rest pre.length ()=some (match rest.find? p with|some x=>(match r x with|some q=>.inr q|none=>.inl ())|none=>.inl ()):=by
  intro rest
  induction rest with
  |nil=>intro pre _;simp [mz,hf]
  |cons x rest ih=>
   intro pre hp
   rw[mz,hb pre.length x (by rw[hp];simp),List.find?_cons]
   cases h:p x
   ·simp only[Bool.false_eq_true,if_false,Option.bind_some]
    have:=ih (pre++[x]) (by simpa using hp)
    simpa using this
   ·simp only[if_true,Option.bind_some]
    cases r x<;>rfl
 have k:=key l [] rfl
 rw[List.length_nil]at k
 rw[show s=()from rfl,k,Option.bind_some]
 cases l.find? p with
 |none=>rfl
 |some x=>
  simp only
  cases r x<;>rfl
theorem Yt (l:List jU) (hl:eW zn l) (k:aB) (v:lW):E3 l k v=some (wo l k v):=by
 unfold E3 wo
 split
 ·rfl
 split
 ·rfl
 split
 ·rfl
 rw[afS (p:=fun p=>decide (p.number=v.gj)) (r:=fun p=>(p.jL.find? fun s=>decide (s.key=k)).map (·.level)) hl.1 ?_]
 ·cases hf:l.find? fun p=>decide (p.number=v.gj)with
  |none=>rfl
  |some p=>
   simp only
   cases p.jL.find? fun s=>decide (s.key=k)<;>rfl
 intro i p hp
 have TH:=hl.2 p (List.mem_of_getElem? hp)
 by_cases hn:p.number=v.gj
 ·simp only[hn,not_true_eq_false,if_false,decide_true,if_true]
  rw[WH (p:=fun s=>decide (s.key=k)) (r:=fun s=>s.level) TH.2.2.1 (by intro i x _;simp only[decide_eq_true_eq,aiE])]
  cases p.jL.find? fun s=>decide (s.key=k)<;>rfl
 ·simp [hn]
def Ia (l:List fE) (i:Nat) (m:fE):Int:=
 if(!(aR m.key.unit 1 9999))=true then 1
 else if(!(tL m.key.param))=true then 5
 else if((m.release&&(decide (¬(m.value=(⟨0,0⟩:lW)))))||((decide (¬(m.value.level=0)))&&(decide (¬(m.value.gj=0)))))=true then 3
 else if((!(aR m.value.level 0 65535))||(!(aR m.value.gj 0 999)))=true then 1
 else if((!m.yK)&&((decide (¬(m.delay=0)))||(decide (¬(m.time=0)))))=true then 3
 else if((!(aR m.delay 0 36000000))||(!(aR m.time 0 36000000)))=true then 1
 else if(decide (0<(i:Int))&&!fu (pv l i).key m.key)=true then 7 else 0
def Di (l:List fE):Int:=iE (Ia l) l 0
theorem aek (l:List fE) (hl:eW Mq l):ES l=some (Di l):=by
 unfold ES Di
 rw[Br (f:=Ia l) hl.1 ?_]
 ·split
  ·rename_i h;rw[h]
  ·rfl
 intro i m hm
 have hmm:=hl.2 m (List.mem_of_getElem? hm)
 simp only[FG hm hl.1,Option.bind_some,uX hmm.1.2,compare_eq,PJ,ahi]
 unfold Ia
 repeat first|exact go_ret|refine FE (by decide) ?_
def wP (l:List bf) (i:Nat) (c:bf):Int:=
 if(!(aR c.number 1 9999999))=true then 1
 else if(decide (0<(i:Int))&&decide (c.number≤(pv l i).number))=true then 7
 else if(!(Dc c.title))=true then 3
 else if(((((!(aR c.delay 0 36000000))||(!(aR c.up 0 36000000)))||(!(aR c.down 0 36000000)))||(!(aR c.other 0 36000000)))||(!(aR c.follow (-1) 36000000)))=true then 1
 else if ¬(oN c.fq=0)then oN c.fq
 else if 2000<(c.dm.length:Int)then 2
 else Di c.dm
def Rv (l:List bf):Int:=l.foldl (fun s c=>IntKind.i64.wrap (s+(c.dm.length:Int))) 0
def rP (l:List bf):Int:=
 if 300<(l.length:Int)then 2 else if ¬(iE (wP l) l 0=0)then iE (wP l) l 0 else if 10000<Rv l then 2 else 0
theorem ahd {α γ S B:Type} {f:Nat→α→Int} {g:S→α→S} {l:List α} {body:Nat→α→S→Option (Lr S B Int)} {fin:S→Option B} {s:S} {K1:B→Option γ} {K2:Int→Option γ} (hl:l.length≤aW) (hb:∀i x s,l[i]? =some x→body i x s=some (if f i x=0 then .go (g s x)else .ret (f i x))):kX l body fin s K1 K2=if iE f l 0=0 then(fin (l.foldl g s)).bind K1 else K2 (iE f l 0):=by
 rw[HG hl]
 have key:∀(rest pre:List α) (s:S),l=pre++rest→mz body fin rest pre.length s=if iE f rest pre.length=0 then(fin (rest.foldl g s)).map .inl else some (.inr (iE f rest pre.length)):=by
  intro rest
  induction rest with
  |nil=>intro pre s _;simp [mz,iE]
  |cons x rest ih=>
   intro pre s hp
   rw[mz,hb pre.length x s (by rw[hp];simp),Option.bind_some,iE]
   by_cases h:f pre.length x=0
   ·simp only[h,if_true]
    have:=ih (pre++[x]) (g s x) (by simpa using hp)
    simpa using this
   ·simp only[h,if_false]
 have k:=key l [] s rfl
 rw[List.length_nil]at k
 rw[k]
 split
 ·cases fin (l.foldl g s)<;>rfl
 ·rfl
theorem aiF {S B:Type} {p:Prop} [Decidable p] {k f:Int} {t:S} {Y:Option (Lr S B Int)} (hk:k≠0) (h:Y=some (if f=0 then .go t else .ret f)):(if p then some (.ret k)else Y)=some (if(if p then k else f)=0 then .go t else .ret (if p then k else f)):=by
 by_cases hp:p
 ·simp [hp,hk]
 ·simp [hp,h]
theorem ahl {S B:Type} {k f:Int} {t:S} {Y:Option (Lr S B Int)} (h:Y=some (if f=0 then .go t else .ret f)):(if ¬(k=0)then some (.ret k)else Y)=some (if(if ¬(k=0)then k else f)=0 then .go t else .ret (if ¬(k=0)then k else f)):=by
 by_cases hp:k=0
 ·simp [hp,h]
 ·simp [hp]
theorem PW {S B:Type} {k:Int} {t:S}:(if ¬(k=0)then some (.ret k)else some (.go t):Option (Lr S B Int))=some (if k=0 then .go t else .ret k):=by
 by_cases hp:k=0<;>simp [hp]
theorem Zw (l:List bf) (hl:eW BW l):Fc l=some (rP l):=by
 unfold Fc rP
 split
 ·rfl
 rw[ahd (f:=wP l) (g:=fun s c=>IntKind.i64.wrap (s+(c.dm.length:Int))) hl.1 ?_]
 ·show(if iE (wP l) l 0=0 then some (if decide (10000<Rv l)=true then(2:Int)else 0)else some (iE (wP l) l 0))=_
  by_cases h:iE (wP l) l 0=0
  ·by_cases h2:10000<Rv l<;>simp [h,h2]
  ·simp [h]
 intro i c s hc
 obtain⟨_,ht,_,_,_,_,_,_,hm⟩:=hl.2 c (List.mem_of_getElem? hc)
 simp only[FG hc hl.1,Option.bind_some,uX ht,aek _ hm,PJ,ae0]
 unfold wP
 repeat first|exact PW|refine aiF (by decide) ?_|refine ahl ?_
def MY (r:gr) (bH:List jU) (m:fE):Int:=
 if(!Cj r m.key)=true then 8 else(wo bH m.key m.value).2
def RE (r:gr) (bH:List jU) (l:List bf):Int:=iE (fun _ c=>iE (fun _ m=>MY r bH m) c.dm 0) l 0
def MC (r:gr) (bH:List jU) (l:List bf):Int:=
 if ¬(rF r bH=0)then rF r bH else if ¬(rP l=0)then rP l else RE r bH l
theorem OQ {r:gr} {l:List jU} (h:rF r l=0):jZ r=0:=by
 unfold rF at h
 by_cases h0:jZ r=0
 ·exact h0
 ·rw[if_pos h0]at h;exact h
theorem VC {c:bf} (h:BW c):eW Mq c.dm:=by
 obtain⟨_,_,_,_,_,_,_,_,hm⟩:=h;exact hm
theorem aeN (r:gr) (bH:List jU) (l:List bf) (hr:BX r) (hp:eW zn bH) (hl:eW BW l):EU r bH l=some (MC r bH l):=by
 unfold EU MC
 simp only[UR r bH hr hp,Zw l hl,Option.bind_some]
 rw[uX (by show 2≤aW;unfold aW;omega)]
 simp only[Rl,Option.bind_some]
 by_cases h0:rF r bH=0
 case neg=>simp [h0]
 by_cases h1:rP l=0
 case neg=>simp [h0,h1]
 have Sw:=OQ h0
 have AY:=Qh Sw
 simp only[h0,h1,not_true_eq_false,if_false,uX hr,Option.bind_some,Sw,if_true]
 rw[Lf (fun s x=>dB x true s) (fun _ _=>True) (by unfold aW;omega) trivial (fun _ _ _ _ _=>trivial) (fun _ _ _ _ _=>rfl)]
 simp only[Option.bind_some]
 have has:∀k,(cH k ((mV r).foldl (fun s x=>dB x true s) [])).getD false=Cj r k:=by
  intro k;rw[P9,XS Sw];simp [cH]
 rw[Br (f:=fun _ c=>iE (fun _ m=>MY r bH m) c.dm 0) hl.1 ?_]
 ·show(if RE r bH l=0 then some (0:Int)else some (RE r bH l))=_
  split
  ·rename_i h;rw[h]
  ·rfl
 intro i c hc
 rw[Br (f:=fun _ m=>MY r bH m) (VC (hl.2 c (List.mem_of_getElem? hc))).1 ?_]
 ·exact XF _
 intro j m hm
 simp only[has,Yt bH hp,Option.bind_some]
 unfold MY
 repeat first|exact PW|refine FE (by decide) ?_
def sN (l:List iR) (n:Int):iR×Bool:=match l.find? fun x=>decide (x.number=n)with|some x=>(x,true)|none=>(⟨0,[]⟩,false)
theorem ZH (s:gf) (hl:s.lists.length≤aW) (n:Int):E8 s n=some (sN s.lists n):=by
 unfold E8 sN
 rw[uX hl,Option.bind_some]
 rcases Bo (fun x:iR=>decide (x.number=n)) s.lists with⟨h1,_,h3⟩|⟨k,x,h1,h2,h3,h4,_⟩
 ·rw[h1,h3];rfl
 ·rw[h3,h4,if_neg (by omega),QV (x:=x) (by omega) (by simpa using h1)];rfl
def Dg (s:gf) (i:Nat) (x:iR):Int:=
 if(!(aR x.number 1 999))=true then 1
 else if(decide (0<(i:Int))&&decide (x.number≤(pv s.lists i).number))=true then 7
 else MC s.aQ s.bH x.bE
def ME (s:gf) (i:Nat) (p:lJ):Int:=
 if(!(aR p.number 1 40))=true then 1
 else if(decide (0<(i:Int))&&decide (p.number≤(pv s.bF i).number))=true then 7
 else if(!(sN s.lists p.list).2)=true then 8
 else if(!(aR p.priority 0 100))=true then 1 else 0
def zK (s:gf):Int:=
 if ¬(rF s.aQ s.bH=0)then rF s.aQ s.bH
 else if 30<(s.lists.length:Int)then 2
 else if ¬(iE (Dg s) s.lists 0=0)then iE (Dg s) s.lists 0
 else if 40<(s.bF.length:Int)then 2
 else iE (ME s) s.bF 0
theorem U8 (s:gf) (hs:yw s):GV s=some (zK s):=by
 obtain⟨hr,hp,hl,hb⟩:=hs
 unfold GV zK
 simp only[UR _ _ hr hp,Option.bind_some]
 rw[uX (by show 2≤aW;unfold aW;omega)]
 simp only[Rl,Option.bind_some]
 by_cases h0:rF s.aQ s.bH=0
 case neg=>simp [h0]
 by_cases h1:30<(s.lists.length:Int)
 ·simp [h0,h1]
 simp only[h0,h1,not_true_eq_false,if_false,decide_false,Bool.false_eq_true]
 rw[Br (f:=Dg s) hl.1 ?_]
 ·by_cases h2:iE (Dg s) s.lists 0=0
  case neg=>simp [h2]
  simp only[h2,if_true,not_true_eq_false,if_false]
  split
  ·rfl
  rw[Br (f:=ME s) hb.1 ?_]
  ·split
   ·rename_i h;rw[h]
   ·rfl
  intro i p GB
  simp only[FG GB hb.1,Option.bind_some,ZH s hl.1]
  unfold ME
  repeat first|exact go_ret|refine FE (by decide) ?_
 intro i x hx
 simp only[FG hx hl.1,Option.bind_some,aeN _ _ _ hr hp (hl.2 x (List.mem_of_getElem? hx)).2]
 unfold Dg
 repeat first|exact PW|refine FE (by decide) ?_
end
section
set_option maxRecDepth 100000
noncomputable def Ot (a0:bf) (a1:Int):Option Int:=
 some (IntKind.i64.wrap (a0.number-a1))
theorem adk {a0:bf} {a1:Int} {σ:Heap} {r:Int} (h:Ot a0 a1=some r):CN [(AV.agg (aZ a0)),(AV.int .i64 a1)] σ=some ((AV.int .i64 r),σ):=by
 refine uR (f:=On) (y0:=(AV.agg (aZ a0))) (y1:=(AV.int .i64 a1)) (enc:=fun r:Int=>(AV.int .i64 r)) (T:=Ot a0 a1) (iS (qH rfl) rfl) rfl ?_ r h
 unfold On Ot
 refine aq _ rfl<|aq _ rfl<|aq _ rfl ?_
 exact eF _ (bC _ _) ⟨rfl,rfl⟩
noncomputable def Hl (a0:(List bf)):Option (List (aB×bh)):=
 kX a0 (fun(uC:Nat) e9 (s3:(List (aB×bh)))=>(show Option (Lr (List (aB×bh)) (List (aB×bh)) Unit)from
   kX e9.dm (fun(TR:Nat) kF (tD:(List (aB×bh)))=>(show Option (Lr (List (aB×bh)) (List (aB×bh)) Unit)from
     (show Option (List (aB×bh))from
       if kF.release=true then
        some (pJ kF.key tD)
       else
       some (dB kF.key (⟨(⟨kF.key.unit,kF.key.param⟩:aB),(⟨kF.value.level,kF.value.gj⟩:lW),e9.number⟩:bh) tD)).bind fun Nl=>
     some (.go Nl))) (fun tD=>some tD) s3 (fun D1=>
    some (.go D1)) (fun D1=>
    none))) (fun s3=>some s3) ([]:List (aB×bh)) (fun b4=>
  some b4) (fun b4=>
  none)
theorem ae1 {a0:(List bf)} {σ:Heap} {r:(List (aB×bh))} (h:Hl a0=some r):Hg [(sl 11 aZ a0)] σ=some ((uv (fun x=>(AV.agg (aN x))) (fun x=>(AV.agg (cM x))) r),σ):=by
 refine yp (f:=Pb) (y0:=(sl 11 aZ a0)) (enc:=fun r:(List (aB×bh))=>(uv (fun x=>(AV.agg (aN x))) (fun x=>(AV.agg (cM x))) r)) (T:=Hl a0) (iS (tW (fun _=>rfl) _) rfl) rfl ?_ r h
 unfold Pb Hl
 have hp1:Hp σ σ []:=Q5 σ
 have hp2:Hp σ (σ++[aJ.map []]) [((AV.om σ.length),(Ct.m (List.map (fun p=>((fun x=>(AV.agg (aN x))) p.1,(fun x=>(AV.agg (cM x))) p.2)) ([]:List (aB×bh)))))]:=Rp hp1
 refine aq _ (fL _ _ _) ?_
 refine qv (B:=(List (aB×bh))) (R:=Unit) (fun(uC:Nat) (s3:(List (aB×bh))) v w5=>v=[(AV.int .i64 (uC:Int))]∧Hp σ w5 [((AV.om σ.length),(Ct.m (List.map (fun p=>((fun x=>(AV.agg (aN x))) p.1,(fun x=>(AV.agg (cM x))) p.2)) s3)))]) (fun(b4:(List (aB×bh))) (q:LS)=>∃u11 w6,q=((AX.exit 0),([u11]:List AV),w6)∧Hp σ w6 [((AV.om σ.length),(Ct.m (List.map (fun p=>((fun x=>(AV.agg (aN x))) p.1,(fun x=>(AV.agg (cM x))) p.2)) b4)))]) (fun(b4:Unit) (q:LS)=>False) ?_ ?_ ⟨rfl,hp2⟩ ?_ ?_
 ·intro Sn uC e9 s3 v w5 Ee hI
  obtain⟨rfl,TF⟩:=hI
  refine aq _ (jr Ee)<|qA<|aq _ (iQ Ee)<|aq _ rfl<|aq _ rfl<|aq _ (HM _ _ rfl)<|aq (sl 8 fG e9.dm) rfl<|aq _ (fL _ _ _) ?_
  refine qv (B:=(List (aB×bh))) (R:=Unit) (fun(TR:Nat) (tD:(List (aB×bh))) v Uc=>v=[(AV.lbx (aZ e9)),(AV.int .i64 (TR:Int))]∧Hp σ Uc [((AV.om σ.length),(Ct.m (List.map (fun p=>((fun x=>(AV.agg (aN x))) p.1,(fun x=>(AV.agg (cM x))) p.2)) tD)))]) (fun(D1:(List (aB×bh))) (q:LS)=>∃u5 u18 Ud,q=((AX.exit 2),([u5,u18]:List AV),Ud)∧Hp σ Ud [((AV.om σ.length),(Ct.m (List.map (fun p=>((fun x=>(AV.agg (aN x))) p.1,(fun x=>(AV.agg (cM x))) p.2)) D1)))]) (fun(D1:Unit) (q:LS)=>False) ?_ ?_ ⟨rfl,TF⟩ ?_ ?_
  ·intro amj TR kF tD v Uc Sd hI
   obtain⟨rfl,MS⟩:=hI
   refine aq _ (jr Sd)<|qA<|aq _ (iQ Sd)<|aq _ rfl<|aq _ rfl<|aq _ (LQ _ _ rfl)<|aq _ rfl ?_
   refine MX (ω:=(List (aB×bh))) (fun Nl a=>∃Uh,a=(([(AV.lbx (aZ e9))]:List AV),Uh)∧Hp σ Uh [((AV.om σ.length),(Ct.m (List.map (fun p=>((fun x=>(AV.agg (aN x))) p.1,(fun x=>(AV.agg (cM x))) p.2)) Nl)))]) (
     by
      refine ji (c:=kF.release) (fun gP=>?_) (fun gP=>?_)
      ·refine aq _ rfl ?_
       obtain⟨w19,e21,aa1⟩:=aj5 (ek:=(.s [0,2])) (eK:=(fun x=>(AV.agg (aN x)))) (eV:=(fun x=>(AV.agg (cM x)))) MS 0 rfl qo kF.key rfl
       change Hp σ w19 [((AV.om σ.length),(Ct.m (List.map (fun p=>((fun x=>(AV.agg (aN x))) p.1,(fun x=>(AV.agg (cM x))) p.2)) (pJ kF.key tD))))]at aa1
       refine aq w19 e21 ?_
       exact cg ⟨_,rfl,aa1⟩
      refine aq _ rfl<|aq _ rfl<|aq _ rfl<|aq _ rfl<|aq _ rfl<|aq (AV.agg (cM (⟨(⟨kF.key.unit,kF.key.param⟩:aB),(⟨kF.value.level,kF.value.gj⟩:lW),e9.number⟩:bh))) rfl ?_
      obtain⟨w22,IY,F7⟩:=QG (ek:=(.s [0,2])) (eK:=(fun x=>(AV.agg (aN x)))) (eV:=(fun x=>(AV.agg (cM x)))) MS 0 rfl qo kF.key (⟨(⟨kF.key.unit,kF.key.param⟩:aB),(⟨kF.value.level,kF.value.gj⟩:lW),e9.number⟩:bh) rfl
      change Hp σ w22 [((AV.om σ.length),(Ct.m (List.map (fun p=>((fun x=>(AV.agg (aN x))) p.1,(fun x=>(AV.agg (cM x))) p.2)) (dB kF.key (⟨(⟨kF.key.unit,kF.key.param⟩:aB),(⟨kF.value.level,kF.value.gj⟩:lW),e9.number⟩:bh) tD))))]at F7
      refine aq w22 IY ?_
      exact cg ⟨_,rfl,F7⟩
     ) (fun Nl a ha=>?_)
   obtain⟨Uh,rfl,an6⟩:=ha
   refine aq _ (fU Sd amj) ?_
   exact cg (qw ⟨rfl,an6⟩)
  ·intro hl tD v Uc hI
   obtain⟨rfl,MS⟩:=hI
   refine aq _ (jq _)<|qz ?_
   exact cg ⟨by simp,⟨_,_,_,rfl,MS⟩⟩
  ·intro hl D1 q hq
   obtain⟨u5,u18,Ud,rfl,MT⟩:=hq
   refine jW rfl<|aq _ (fU Ee Sn) ?_
   exact cg (qw ⟨rfl,MT⟩)
  ·intro hl D1 q hq
   exact False.elim hq
 ·intro hl s3 v w5 hI
  obtain⟨rfl,TF⟩:=hI
  refine aq _ (jq _)<|qz ?_
  exact cg ⟨by simp,⟨_,_,rfl,TF⟩⟩
 ·intro hl b4 q hq
  obtain⟨u11,w6,rfl,vK⟩:=hq
  refine jW rfl ?_
  exact eF _ (Mo vK (Zy vK (k:=0) rfl (by intro p hp;obtain⟨x,_,rfl⟩:=List.mem_map.1 hp;exact⟨(wu (zw _)),(wu (WQ _))⟩))) ⟨rfl,rfl⟩
 ·intro hl b4 q hq
  exact False.elim hq
end
theorem YH {i j:Nat} (h:i+j<9223372036854775808):A.shr (.int .u64 ((i+j:Nat):Int)) (.int .u64 1)=some (.int .u64 (((i+j) / 2:Nat):Int)):=by
 simp only[A.shr]
 rw[if_neg (by decide)]
 congr 2
 rw[show(2:Int) ^ (min (Int.toNat 1) IntKind.u64.bits)=2 from rfl,Int.fdiv_eq_ediv_of_nonneg _ (by decide)]
 omega
theorem Zp {n:Nat} (h:n<9223372036854775808):A.conv .u64 (.int .i64 (n:Int))=some (.int .u64 (n:Int)):=by
 simp only[A.conv]
 congr 2
 unfold IntKind.wrap
 simp [IntKind.bits,IntKind.signed]
 omega
theorem Zo {n:Nat} (h:n<9223372036854775808):A.conv .i64 (.int .u64 (n:Int))=some (.int .i64 (n:Int)):=by
 simp only[A.conv]
 rw[wrap64 (by unfold aP;omega)]
theorem SN {a b:Nat} (h:a+b<9223372036854775808):A.add (.int .i64 (a:Int)) (.int .i64 (b:Int))=some (.int .i64 ((a+b:Nat):Int)):=by
 rw[kV,wrap64 (by unfold aP;omega)];simp
theorem MJ {a:Nat} (h:a+1<9223372036854775808):A.add (.int .i64 (a:Int)) (.int .i64 1)=some (.int .i64 ((a+1:Nat):Int)):=SN (b:=1) h
theorem Gk (a b:Nat):A.lss (.int .i64 (a:Int)) (.int .i64 (b:Int))=some (.bool (decide (a<b))):=by
 rw[kN]
 have:((a:Int)<(b:Int))=(a<b):=propext ⟨fun h=>by omega,fun h=>by omega⟩
 simp only[this]
theorem aaF (a:Int):A.lss (.int .i64 a) (.int .i64 0)=some (.bool (decide (a<0))):=by rw[kN]
theorem Tr {α:Type} {X Y:α}:(bif (AX.exit 0==AX.exit 0)then X else Y)=X:=rfl
theorem ajv {f:List AV→Heap→Option (AX×List AV×Heap)} {σ:Heap} (pv:Nat→Nat→List AV) {v0:List AV} {n p:Nat} (hp:p≤n) (h0:v0=pv 0 n)
  (hs:∀i j,i<j→j≤n→f (pv i j) σ=some (.normal,if(i+j) / 2<p then pv ((i+j) / 2+1) j else pv i ((i+j) / 2),σ))
  (he:∀i,i≤n→f (pv i i) σ=some (.exit 0,pv i i,σ)):A.loop f v0 σ=some (.exit 0,pv p p,σ):=by
 subst h0
 have key:∀k i j,j-i≤k→i≤p→p≤j→j≤n→∃m,A.iter f m (pv i j) σ=some (.exit 0,pv p p,σ):=by
  intro k
  induction k with
  |zero=>
   intro i j hk h1 h2 h3
   have:i=p:=by omega
   have:j=p:=by omega
   subst i;subst j
   exact uO (he p h3) (by simp)
  |succ k ih=>
   intro i j hk h1 h2 h3
   by_cases hij:i<j
   ·have hstep:=hs i j hij h3
    by_cases hh:(i+j) / 2<p
    ·rw[if_pos hh]at hstep
     exact CZ hstep (ih _ _ (by omega) (by omega) h2 h3)
    ·rw[if_neg hh]at hstep
     exact CZ hstep (ih _ _ (by omega) h1 (by omega) (by omega))
   ·have:i=p:=by omega
    have:j=p:=by omega
    subst i;subst j
    exact uO (he p h3) (by simp)
 obtain⟨m,hm⟩:=key n 0 n (by omega) (by omega) hp (Nat.le_refl _)
 exact CT hm
theorem bsC {dyn:Nat→List AV→Heap→Option (AV×Heap)} {l:List bf} {fn:Nat} {k:Int} {cv:bf→Int} {p:Nat} {σ:Heap} (hl:l.length<4611686018427387904) (hp:p≤l.length)
  (hd:∀x∈l,dyn fn [.agg (aZ x),.int .i64 k] σ=some (.int .i64 (cv x),σ)) (hc:∀h x,l[h]? =some x→(cv x<0↔h<p)):
  EF dyn [sl 11 aZ l,.int .i64 k,.fn fn []] σ=some (.aG [.int .i64 (p:Int),.bool ((l[p]?).any fun x=>decide (cv x=0))],σ):=by
 refine wrap_eq rfl ?_ rfl
 show EG dyn (sl 11 aZ l) (.int .i64 k) (.fn fn []) σ=_
 unfold EG
 rw[fL,Option.bind_some]
 rw[ajv (v0:=[.int .i64 0,.int .i64 (l.length:Int)]) (fun i j=>[.int .i64 (i:Int),.int .i64 (j:Int)]) hp rfl ?_ ?_,Option.bind_some]
 ·simp only[Tr,List.getD_cons_succ,List.getD_cons_zero]
  rw[Gk,Option.bind_some]
  by_cases hpl:p<l.length
  ·have hx:l[p]? =some l[p]:=List.getElem?_eq_getElem hpl
   have nV:=hd _ (List.mem_of_getElem? hx)
   have jI:=lM 11 aZ l hx
   have hq:=quiet_of (by show A.jF dyn (.fn fn []) [.agg (aZ l[p]),.int .i64 k] σ=_;simp only[A.jF,List.append_nil];exact nV)
   simp only[decide_eq_true hpl,A.guard,beq_self_eq_true,cond_true,Option.bind_some,List.getD_cons_succ,List.getD_cons_zero,jI,A.deref,HK,A.lb,A.aj,A.ay,A.pick,hx,Option.any_some]
   show((A.quiet (A.jF dyn (.fn fn []) [.agg (aZ l[p]),.int .i64 k] σ) σ).bind _)=_
   rw[hq,Option.bind_some,iN]
   exact bC _ _
  ·have hx:l[p]? =none:=List.getElem?_eq_none (by omega)
   simp only[decide_eq_false hpl,A.guard,Option.bind_some,A.pick,hx,Option.any_none]
   exact bC _ _
 ·intro i j hij hj
  have hlt:(i+j) / 2<l.length:=by omega
  have hx:l[(i+j) / 2]? =some l[(i+j) / 2]:=List.getElem?_eq_getElem hlt
  have nV:=hd _ (List.mem_of_getElem? hx)
  have jI:=lM 11 aZ l hx
  have hq:A.jF dyn (.fn fn []) [.agg (aZ l[(i+j) / 2]),.int .i64 k] σ=some (.int .i64 (cv l[(i+j) / 2]),σ):=by simp only[A.jF,List.append_nil];exact nV
  simp only[List.getD_cons_succ,List.getD_cons_zero]
  rw[Gk,Option.bind_some,decide_eq_true hij]
  simp only[A.cond,cond_true]
  rw[SN (by omega),Option.bind_some,Zp (by omega),Option.bind_some,YH (by omega),Option.bind_some,Zo (by omega),Option.bind_some,jI,Option.bind_some]
  simp only[A.deref,Option.bind_some,HK,A.lb]
  rw[hq,Option.bind_some,aaF,Option.bind_some]
  by_cases hh:(i+j) / 2<p
  ·have:=(hc _ _ hx).2 hh
   rw[decide_eq_true this,if_pos hh]
   simp only[cond_true,MJ (show(i+j) / 2+1<9223372036854775808 by omega),Option.bind_some]
   rfl
  ·have:¬(cv l[(i+j) / 2]<0):=fun e=>hh ((hc _ _ hx).1 e)
   rw[decide_eq_false this,if_neg hh]
   rfl
 ·intro i hi
  simp only[List.getD_cons_succ,List.getD_cons_zero]
  rw[Gk,Option.bind_some,decide_eq_false (Nat.lt_irrefl i)]
  rfl
def SJ (l:List fE):Prop:=l.Pairwise fun a b=>fu a.key b.key=true
structure Good (l : List bf) : Prop where
 len:l.length≤300
 num:∀c∈l,1≤c.number∧c.number≤9999999
 JG:l.Pairwise fun a b=>a.number<b.number
 mv:∀c∈l,c.dm.length≤2000∧SJ c.dm
 pts:∀c∈l,c.fq.points.length≤20
theorem Pk {α:Type} [Inhabited α] {r:α→α→Prop} (tr:∀a b c,r a b→r b c→r a c):∀(l:List α),(∀i x,l[i+1]? =some x→r (l[i]?.getD default) x)→l.Pairwise r
 |[],_=>List.Pairwise.nil
 |[a],_=>by simp
 |a::b::l,h=>by
  have ih:=Pk tr (b::l) (fun i x hx=>h (i+1) x hx)
  have hab:r a b:=h 0 b rfl
  refine List.pairwise_cons.2 ⟨fun x hx=>?_,ih⟩
  rcases List.mem_cons.1 hx with rfl|hx
  ·exact hab
  ·exact tr _ _ _ hab ((List.pairwise_cons.1 ih).1 x hx)
section
theorem Y3 {α:Type} [Inhabited α] (l:List α) (i:Nat):pv l (i+1)=l[i]?.getD default:=by
 simp [pv,List.getD_eq_getElem?_getD]
theorem afV {l:List fE} (h:Di l=0):SJ l:=by
 unfold Di at h
 refine Pk (r:=fun a b:fE=>fu a.key b.key=true) (fun a b c=>Fg) l fun i x hx=>?_
 have:=(zk l 0).1 h (i+1) x hx
 rw[Nat.zero_add]at this
 unfold Ia at this
 rw[←Y3]
 by_cases hq:fu (pv l (i+1)).key x.key=true
 ·exact hq
 ·exfalso
  have e:(decide (0<((i+1:Nat):Int))&&!fu (pv l (i+1)).key x.key)=true:=by
   rw[Bool.and_eq_true];exact⟨decide_eq_true (by omega),by simpa using hq⟩
  rw[e]at this
  repeat (first|(split at this;· cases this)|(simp at this;done)|(rename_i q;exact q rfl))
theorem QF {l:List bf} (h:rP l=0):Good l:=by
 unfold rP at h
 by_cases h1:300<(l.length:Int)
 ·simp [h1]at h
 rw[if_neg h1]at h
 by_cases h2:iE (wP l) l 0=0
 case neg=>rw[if_pos h2]at h;exact absurd h h2
 have hc:∀i x,l[i]? =some x→(1≤x.number∧x.number≤9999999)∧(0<i→(pv l i).number<x.number)∧x.dm.length≤2000∧Di x.dm=0∧x.fq.points.length≤20:=by
  intro i x hx
  have:=(zk l 0).1 h2 i x hx
  rw[Nat.zero_add]at this
  unfold wP at this
  split at this
  ·cases this
  rename_i a1
  split at this
  ·cases this
  rename_i a2
  split at this
  ·cases this
  split at this
  ·cases this
  split at this
  ·rename_i a5;exact absurd this a5
  rename_i a5
  split at this
  ·cases this
  rename_i a6
  have hpt:x.fq.points.length≤20:=by
   have a5:oN x.fq=0:=by simpa using a5
   unfold oN at a5
   split at a5
   ·cases a5
   split at a5
   ·split at a5
    ·cases a5
    split at a5
    ·cases a5
    omega
   ·split at a5
    ·cases a5
    omega
  refine⟨by simpa [aR]using a1,fun hi=>?_,by omega,this,hpt⟩
  have hi':decide (0<(i:Int))=true:=decide_eq_true (by omega)
  rw[hi',Bool.true_and,decide_eq_true_eq]at a2
  omega
 refine⟨by omega,fun c xE=>?_,?_,fun c xE=>?_,fun c xE=>?_⟩
 ·obtain⟨i,hi⟩:=List.mem_iff_getElem?.1 xE
  exact(hc i c hi).1
 ·refine Pk (r:=fun a b:bf=>a.number<b.number) (fun a b c=>Int.lt_trans) l fun i x hx=>?_
  rw[←Y3]
  exact(hc (i+1) x hx).2.1 (by omega)
 ·obtain⟨i,hi⟩:=List.mem_iff_getElem?.1 xE
  exact⟨(hc i c hi).2.2.1,afV (hc i c hi).2.2.2.1⟩
 ·obtain⟨i,hi⟩:=List.mem_iff_getElem?.1 xE
  exact(hc i c hi).2.2.2.2
def lH (l:List bf) (n:Int):Nat:=(l.takeWhile fun c=>decide (c.number<n)).length
def wS (l:List bf) (n:Int):Bool:=l.any fun c=>decide (c.number=n)
theorem Y1 (l:List bf) (n:Int):lH l n≤l.length:=(List.takeWhile_prefix _).length_le
theorem QO {l:List bf} {n:Int} (h:l.Pairwise fun a b=>a.number<b.number):∀{i:Nat} {x:bf},l[i]? =some x→(x.number<n↔i<lH l n):=by
 induction l with
 |nil=>intro i x hx;simp at hx
 |cons a l ih=>
  intro i x hx
  have hs:=List.pairwise_cons.1 h
  unfold lH
  rw[List.takeWhile_cons]
  by_cases ha:a.number<n
  ·rw[decide_eq_true ha]
   simp only[if_true,List.length_cons]
   cases i with
   |zero=>simp at hx;subst hx;simp [ha]
   |succ i=>
    simp only[List.getElem?_cons_succ]at hx
    rw[ih hs.2 hx]
    unfold lH
    omega
  ·rw[decide_eq_false ha]
   simp only[Bool.false_eq_true,if_false,List.length_nil,Nat.not_lt_zero,iff_false]
   cases i with
   |zero=>simp at hx;subst hx;exact ha
   |succ i=>
    simp only[List.getElem?_cons_succ]at hx
    have:=hs.1 x (List.mem_of_getElem? hx)
    omega
theorem akz {l:List bf} {n:Int} (h:l.Pairwise fun a b=>a.number<b.number) {i:Nat} {x:bf} (hx:l[i]? =some x) (hn:x.number=n):lH l n=i:=by
 have h1:¬i<lH l n:=fun q=>by have:=(QO h hx).2 q;omega
 have h2:¬lH l n<i:=fun q=>by
  have hp:lH l n<l.length:=Nat.lt_trans q (List.getElem?_eq_some_iff.1 hx).1
  have hy:l[lH l n]? =some l[lH l n]:=List.getElem?_eq_getElem hp
  have h3:¬l[lH l n].number<n:=fun q'=>Nat.lt_irrefl _ ((QO h hy).1 q')
  have h4:=List.pairwise_iff_getElem.1 h (lH l n) i hp (List.getElem?_eq_some_iff.1 hx).1 q
  rw[(List.getElem?_eq_some_iff.1 hx).2,hn]at h4
  exact h3 h4
 omega
theorem X5 {l:List bf} {n:Int} (h:l.Pairwise fun a b=>a.number<b.number):((l[lH l n]?).any fun x=>decide (x.number=n))=wS l n:=by
 rw[Bool.eq_iff_iff]
 constructor
 ·intro e
  cases hx:l[lH l n]? with
  |none=>rw[hx]at e;cases e
  |some x=>rw[hx]at e;exact List.any_eq_true.2 ⟨x,List.mem_of_getElem? hx,e⟩
 ·intro e
  obtain⟨x,hm,hk⟩:=List.any_eq_true.1 e
  have hk:=of_decide_eq_true hk
  obtain⟨i,hi⟩:=List.mem_iff_getElem?.1 hm
  rw[akz h hi hk,hi];simp [hk]
theorem ajw {f:List AV→Heap→Option (AX×List AV×Heap)} {σ:Heap} (pv:Nat→Nat→List AV) {v0:List AV} {n:Nat} (h0:v0=pv 0 n) (q:Nat→Bool)
  (hs:∀i j,i<j→j≤n→f (pv i j) σ=some (.normal,if q ((i+j) / 2)=true then pv ((i+j) / 2+1) j else pv i ((i+j) / 2),σ))
  (he:∀i,i≤n→f (pv i i) σ=some (.exit 0,pv i i,σ)):∃p,p≤n∧A.loop f v0 σ=some (.exit 0,pv p p,σ):=by
 subst h0
 have key:∀k i j,j-i≤k→i≤j→j≤n→∃p,p≤n∧∃m,A.iter f m (pv i j) σ=some (.exit 0,pv p p,σ):=by
  intro k
  induction k with
  |zero=>
   intro i j hk h1 h3
   have:i=j:=by omega
   subst i
   exact⟨j,h3,uO (he j h3) (by simp)⟩
  |succ k ih=>
   intro i j hk h1 h3
   by_cases hij:i<j
   ·have hstep:=hs i j hij h3
    by_cases hh:q ((i+j) / 2)=true
    ·rw[if_pos hh]at hstep
     obtain⟨p,hp,hm⟩:=ih _ _ (by omega) (show(i+j) / 2+1≤j by omega) h3
     exact⟨p,hp,CZ hstep hm⟩
    ·rw[if_neg hh]at hstep
     obtain⟨p,hp,hm⟩:=ih i ((i+j) / 2) (by omega) (by omega) (by omega)
     exact⟨p,hp,CZ hstep hm⟩
   ·have:i=j:=by omega
    subst i
    exact⟨j,h3,uO (he j h3) (by simp)⟩
 obtain⟨p,hp,m,hm⟩:=key n 0 n (by omega) (by omega) (Nat.le_refl _)
 exact⟨p,hp,CT hm⟩
theorem aju {β:Type} {f:List AV→Heap→Option (AX×List AV×Heap)} {σ:Heap} {K:AX×List AV×Heap→Option β} {r:Nat→β} (pv:Nat→Nat→List AV) {v0:List AV} {n:Nat} (h0:v0=pv 0 n) (q:Nat→Bool)
  (hs:∀i j,i<j→j≤n→f (pv i j) σ=some (.normal,if q ((i+j) / 2)=true then pv ((i+j) / 2+1) j else pv i ((i+j) / 2),σ))
  (he:∀i,i≤n→f (pv i i) σ=some (.exit 0,pv i i,σ)) (hK:∀p,p≤n→K (.exit 0,pv p p,σ)=some (r p)):∃p,p≤n∧(A.loop f v0 σ).bind K=some (r p):=by
 obtain⟨p,hp,h⟩:=ajw pv h0 q hs he
 exact⟨p,hp,by rw[h,Option.bind_some,hK p hp]⟩
theorem ak8 {dyn:Nat→List AV→Heap→Option (AV×Heap)} {l:List bf} {fn:Nat} {k:Int} {cv:bf→Int} {σ:Heap} (hl:l.length<4611686018427387904)
  (hd:∀x∈l,dyn fn [.agg (aZ x),.int .i64 k] σ=some (.int .i64 (cv x),σ)) (hc:∀x∈l,cv x≠0):
  ∃p:Nat,p≤l.length∧EF dyn [sl 11 aZ l,.int .i64 k,.fn fn []] σ=some (.aG [.int .i64 (p:Int),.bool false],σ):=by
 suffices h:∃p:Nat,p≤l.length∧EG dyn (sl 11 aZ l) (.int .i64 k) (.fn fn []) σ=some (.aG [.int .i64 (p:Int),.bool false],σ) by
  obtain⟨p,hp,h⟩:=h
  exact⟨p,hp,wrap_eq rfl h rfl⟩
 unfold EG
 rw[fL,Option.bind_some]
 refine aju (v0:=[.int .i64 0,.int .i64 (l.length:Int)]) (r:=fun p=>((AV.aG [.int .i64 (p:Int),.bool false],σ):AV×Heap)) (fun i j=>[.int .i64 (i:Int),.int .i64 (j:Int)]) rfl (fun h=>((l[h]?).any fun x=>decide (cv x<0))) (fun i j hij hj=>?_) (fun i hi=>?_) (fun p hp=>?_)
 ·have hlt:(i+j) / 2<l.length:=by omega
  have hx:l[(i+j) / 2]? =some l[(i+j) / 2]:=List.getElem?_eq_getElem hlt
  have nV:=hd _ (List.mem_of_getElem? hx)
  have jI:=lM 11 aZ l hx
  have hq:A.jF dyn (.fn fn []) [.agg (aZ l[(i+j) / 2]),.int .i64 k] σ=some (.int .i64 (cv l[(i+j) / 2]),σ):=by simp only[A.jF,List.append_nil];exact nV
  simp only[List.getD_cons_succ,List.getD_cons_zero]
  rw[Gk,Option.bind_some,decide_eq_true hij]
  simp only[A.cond,cond_true]
  rw[SN (by omega),Option.bind_some,Zp (by omega),Option.bind_some,YH (by omega),Option.bind_some,Zo (by omega),Option.bind_some,jI,Option.bind_some]
  simp only[A.deref,Option.bind_some,HK,A.lb]
  rw[hq,Option.bind_some,aaF,Option.bind_some]
  simp only[hx,Option.any_some]
  by_cases hh:cv l[(i+j) / 2]<0
  ·rw[decide_eq_true hh]
   simp only[cond_true,if_true,MJ (show(i+j) / 2+1<9223372036854775808 by omega),Option.bind_some]
   rfl
  ·rw[decide_eq_false hh]
   rfl
 ·simp only[List.getD_cons_succ,List.getD_cons_zero]
  rw[Gk,Option.bind_some,decide_eq_false (Nat.lt_irrefl i)]
  rfl
 ·simp only[Tr,List.getD_cons_succ,List.getD_cons_zero]
  rw[Gk,Option.bind_some]
  by_cases hpl:p<l.length
  ·have hx:l[p]? =some l[p]:=List.getElem?_eq_getElem hpl
   have nV:=hd _ (List.mem_of_getElem? hx)
   have hne:=hc _ (List.mem_of_getElem? hx)
   have jI:=lM 11 aZ l hx
   have hq:=quiet_of (by show A.jF dyn (.fn fn []) [.agg (aZ l[p]),.int .i64 k] σ=_;simp only[A.jF,List.append_nil];exact nV)
   simp only[decide_eq_true hpl,A.guard,beq_self_eq_true,cond_true,Option.bind_some,List.getD_cons_succ,List.getD_cons_zero,jI,A.deref,HK,A.lb,A.aj,A.ay,A.pick]
   show((A.quiet (A.jF dyn (.fn fn []) [.agg (aZ l[p]),.int .i64 k] σ) σ).bind _)=_
   rw[hq,Option.bind_some,iN,decide_eq_false hne]
   exact bC _ _
  ·simp only[decide_eq_false hpl,A.guard,Option.bind_some,A.pick]
   exact bC _ _
structure Z7 (l : List bf) : Prop where
 len:l.length≤300
 num:∀c∈l,1≤c.number∧c.number≤9999999
 JG:l.Pairwise fun a b=>a.number<b.number
theorem Good.n {l:List bf} (h:Good l):Z7 l:=⟨h.len,h.num,h.JG⟩
theorem akx {l:List bf} (hg:Z7 l) {n:Int} (hn:aP n) (σ:Heap):∃p:Nat,E5 [sl 11 aZ l,.int .i64 n] σ=some (.aG [.int .i64 (p:Int),.bool (wS l n)],σ)∧p≤l.length∧((1≤n∨wS l n=true)→p=lH l n):=by
 have hlen:l.length<4611686018427387904:=by have:=hg.len;omega
 have hd:∀x∈l,A.tab (fun _ _=>none) [(177,CN)] 177 [.agg (aZ x),.int .i64 n] σ=some (.int .i64 (IntKind.i64.wrap (x.number-n)),σ):=fun x _=>adk (r:=IntKind.i64.wrap (x.number-n)) rfl
 have wr:∀{p:Nat} {b:Bool},EF (A.tab (fun _ _=>none) [(177,CN)]) [sl 11 aZ l,.int .i64 n,.fn 177 []] σ=some (.aG [.int .i64 (p:Int),.bool b],σ)→
   E5 [sl 11 aZ l,.int .i64 n] σ=some (.aG [.int .i64 (p:Int),.bool b],σ):=by
  intro p b h
  refine wrap_eq rfl ?_ rfl
  rw[show A.bV [Sh.e 11 [.k,.k,.k,.k,.k,.k,.k,.s 2,.k,.k,.s 8]] [sl 11 aZ l,.int .i64 n]=[sl 11 aZ l,.int .i64 n]from iS (tW (fun _=>rfl) _) rfl]
  show KO (sl 11 aZ l) (.int .i64 n) σ=_
  unfold KO
  rw[h,Option.bind_some]
  exact bC _ _
 by_cases apP:-4611686018427387904≤n
 ·refine⟨lH l n,wr ?_,Y1 _ _,fun _=>rfl⟩
  have hw:∀x∈l,IntKind.i64.wrap (x.number-n)=x.number-n:=fun x hx=>by
   have:=hg.num x hx
   unfold aP at hn
   exact wrap64 (by unfold aP;omega)
  rw[bsC (cv:=fun x=>IntKind.i64.wrap (x.number-n)) (p:=lH l n) hlen (Y1 _ _) hd ?_]
  ·rw[←X5 hg.JG]
   congr 4
   cases hx:l[lH l n]? with
   |none=>rfl
   |some x=>
    simp only[Option.any_some]
    rw[hw x (List.mem_of_getElem? hx),show decide (x.number-n=0)=decide (x.number=n)from decide_eq_decide.2 (by omega)]
  ·intro h x hx
   rw[hw x (List.mem_of_getElem? hx),←QO hg.JG hx]
   omega
 ·have hno:wS l n=false:=by
   rw[Bool.eq_false_iff]
   intro e
   obtain⟨x,hx,hk⟩:=List.any_eq_true.1 e
   have:=hg.num x hx
   have:=of_decide_eq_true hk
   omega
  obtain⟨p,hp,h⟩:=ak8 hlen hd (fun x hx e=>by
   have apR:=hg.num x hx
   unfold aP at hn
   have h2:IntKind.i64.wrap (x.number-n)=x.number-n∨IntKind.i64.wrap (x.number-n)=x.number-n-18446744073709551616:=by
    by_cases hh:x.number-n<9223372036854775808
    ·exact .inl (wrap64 (by unfold aP;omega))
    ·right
     unfold IntKind.wrap
     simp [IntKind.bits,IntKind.signed]
     omega
   rcases h2 with h2|h2<;>rw[h2]at e<;>omega)
  exact⟨p,by rw[hno];exact wr h,hp,fun q=>by
   rcases q with q|q
   ·omega
   ·rw[hno]at q;cases q⟩
theorem aky {l:List bf} (hg:Good l) {n:Int} (hn:aP n) (σ:Heap):∃p:Nat,E5 [sl 11 aZ l,.int .i64 n] σ=some (.aG [.int .i64 (p:Int),.bool (wS l n)],σ)∧p≤l.length∧((1≤n∨wS l n=true)→p=lH l n):=akx hg.n hn σ
section
variable {α R γ S B : Type}
end
end
section
open HP
def Lt (σ:Heap) (sh:Sh) (v t:AV):Prop:=(∃v',A.bw σ 0 8 v=some v'∧A.own v'=false∧A.nn sh v'=A.nn sh t)∧A.own t=false∧(A.own v=false→A.nn sh v=A.nn sh t)
def M3 (σ:Heap):List Sh→List AV→List AV→Prop
 |_,[],[]=>True
 |[],a::cO,t::ts=>Lt σ .k a t∧M3 σ [] cO ts
 |s::ss,a::cO,t::ts=>Lt σ s a t∧M3 σ ss cO ts
 |_,_,_=>False
theorem iM (v:AV):A.nn .k v=v:=by simp [A.nn]
theorem TV {σ:Heap}:∀{ss:List Sh} {cO ts:List AV},M3 σ ss cO ts→(∃Ca,A.eO σ 0 8 cO=some Ca∧Ca.any A.own=false∧A.bV ss Ca=A.bV ss ts)∧ts.any A.own=false∧(cO.any A.own=false→A.bV ss cO=A.bV ss ts)
 |ss,[],[],_=>⟨⟨[],by simp [A.eO],rfl,rfl⟩,rfl,fun _=>rfl⟩
 |[],a::cO,t::ts,h=>by
  obtain⟨⟨⟨v',h1,h2,h3⟩,h4,h5⟩,h6⟩:=h
  obtain⟨⟨Ca,k1,k2,k3⟩,k4,k5⟩:=TV h6
  rw[iM,iM]at h3
  simp only[A.bV]at k3 k5
  refine⟨⟨v'::Ca,by simp [A.eO,h1,k1],by simp [h2,k2],by simp [A.bV,h3,k3]⟩,by simp [h4,k4],fun h=>?_⟩
  simp only[List.any_cons,Bool.or_eq_false_iff]at h
  have:=h5 h.1
  rw[iM,iM]at this
  simp [A.bV,this,k5 h.2]
 |s::ss,a::cO,t::ts,h=>by
  obtain⟨⟨⟨v',h1,h2,h3⟩,h4,h5⟩,h6⟩:=h
  obtain⟨⟨Ca,k1,k2,k3⟩,k4,k5⟩:=TV h6
  refine⟨⟨v'::Ca,by simp [A.eO,h1,k1],by simp [h2,k2],by simp [A.bV,h3,k3]⟩,by simp [h4,k4],fun h=>?_⟩
  simp only[List.any_cons,Bool.or_eq_false_iff]at h
  simp [A.bV,h5 h.1,k5 h.2]
 |_,[],_::_,h=>by cases h
 |[],_::_,[],h=>by cases h
 |_::_,_::_,[],h=>by cases h
theorem Ar {eT:List Sh} {fH:Sh} {r:List AV→Heap→Option (AV×Heap)} {cO ts:List AV} {σ:Heap} {v:AV} (h:M3 σ eT cO ts) (e:∀σ,A.wrap true eT fH r ts σ=some (v,σ)) (hs:A.DR v=true):A.wrap true eT fH r cO σ=some (v,σ):=by
 obtain⟨⟨Ca,k1,k2,k3⟩,k4,k5⟩:=TV h
 cases ho:cO.any A.own
 ·rw[QX (k5 ho) ho k4];exact e σ
 ·exact Yq ho k1 k2 (by rw[QX k3 k2 k4];exact e []) hs
theorem MD {σ:Heap} {sh:Sh} {v:AV} (h:Fz v) (ho:A.own v=false):Lt σ sh v v:=⟨⟨v,h σ 0 8,ho,rfl⟩,ho,fun _=>rfl⟩
theorem Q7 {σ:Heap} (n:Int):Lt σ .k (.int .i64 n) (.int .i64 n):=MD (dO _ _) rfl
section
variable {α : Type} {c : α → List AV} {sz : Nat} {B : aJ → Prop} {aC σ : Heap} {R : HP} {v : AV} {l : List α}
theorem uP (H:Hs B aC σ (Sl (fl c) sz v l*R)):(l=[]∧(v=.au∨v=.ez)∧Hs B aC σ R)∨∃id g,v=.os id g sz 0 l.length∧Hs B aC σ (blk id (.arr g sz (l.map c))*R):=by
 rcases zq H with h|⟨id,g,seg,rfl,hl,H⟩
 ·exact .inl h
 ·have K:=Ml.1 (hs_eq (show _=els (fl c) seg l*(blk id (.arr g sz seg)*R) by ac_rfl) H)
  obtain⟨rfl,K⟩:=K
  exact .inr ⟨id,g,rfl,K⟩
theorem Mt {id g:Nat} {n:Nat} (H:Hs B aC σ (blk id (.arr g sz (l.map c))*R)) (hn:n=l.length:=by rfl):Hs B aC σ (Sl (fl c) sz (.os id g sz 0 n) l*R):=
 MI (id:=id) (g:=g) (seg:=l.map c) (hs_eq (show els (fl c) (l.map c) l*(blk id (.arr g sz (l.map c))*R)=_ by ac_rfl) (Ml.2 ⟨rfl,H⟩)) hn
theorem HU (hc:∀x,iU (c x)) {id g:Nat} (h:σ[id]? =some (.arr g sz (l.map c))) {n:Nat} (hn:¬id<n) (d:Nat):A.bw σ n (d+1) (.os id g sz 0 l.length)=some (sl sz c l):=by
 simp only[A.bw,if_neg hn,h]
 rw[if_pos (by simp),List.drop_zero,List.take_of_length_le (by simp),Fl,R6 hc]
 rfl
theorem HX (H:Hs B aC σ (Sl (fl c) sz v l*R)) (hc:∀x,iU (c x)) {n:Nat} (hn:n≤aC.length) (d:Nat):∃v',A.bw σ n (d+1) v=some v'∧A.SD v'=false∧A.nn (.s sz) v'=sl sz c l:=by
 rcases uP H with⟨rfl,rfl|rfl,_⟩|⟨id,g,rfl,K⟩
 ·exact⟨.au,by simp [A.bw],rfl,rfl⟩
 ·exact⟨.ez,by simp [A.bw],rfl,rfl⟩
 ·obtain⟨h1,h2⟩:=iz K
  exact⟨_,HU hc h2 (by omega) d,rfl,rfl⟩
theorem Q6 {P:HP} (H:Hs B aC σ P):Hs bK aC σ P:=⟨by obtain⟨bs,h,_⟩:=H.pre;exact⟨bs,h,fun _ _=>trivial⟩,H.own⟩
end
section
variable {α : Type} {E : List AV → α → HP} {sz : Nat} {aC σ : Heap} {R : HP} {v : AV} {l : List α}
end
def al1 (x:bf) (vp vm:AV):List AV:=[.int .i64 x.number,.str x.title,.int .i64 x.delay,.int .i64 x.up,.int .i64 x.down,.int .i64 x.other,.int .i64 x.fq.kind,vp,.bool x.block,.int .i64 x.follow,vm]
def FY:List Sh:=[.k,.k,.k,.k,.k,.k,.k,.s 2,.k,.k,.s 8]
section
variable {B : aJ → Prop} {aC σ : Heap} {R : HP} {M : AV → List fE → HP} {e : List AV} {x : bf}
variable {v : AV} {l : List bf}
theorem aew (l:List bf):A.nn (.e 11 FY) (sl 11 aZ l)=sl 11 aZ l:=tW (fun _=>rfl) l
end
end
section
open HP
theorem FN {β:Type} {f:List AV→Heap→Option LS} {K:LS→Option β} {v0:List AV} {σ:Heap} {P:β→Prop} {Q:LS→Prop} (h:∃q,A.loop f v0 σ=some q∧Q q) (k:∀q,Q q→∃b,K q=some b∧P b):∃b,(A.loop f v0 σ).bind K=some b∧P b:=by
 obtain⟨q,h1,h2⟩:=h
 obtain⟨b,h3,h4⟩:=k q h2
 exact⟨b,by rw[h1];exact h3,h4⟩
section
variable {α : Type} {c : α → List AV} {sz : Nat} {B : aJ → Prop} {aC σ : Heap} {R : HP} {v : AV} {l : List α}
theorem alM (H:Hs B aC σ (Sl (fl c) sz v l*R)) {i:Nat} {x:α} (hx:l[i]? =some x):∃p,A.aT sz v (.int .i64 (i:Int))=some p∧A.deref p σ=some (c x):=by
 have hi:=(List.getElem?_eq_some_iff.1 hx).1
 rcases uP H with⟨rfl,_,_⟩|⟨id,g,rfl,K⟩
 ·simp at hx
 ·obtain⟨h1,h2⟩:=iz K
  have hi':((i:Int)<(l.length:Int)):=by omega
  exact⟨.oe id g i 0,by simp [A.aT,A.idx,hi'],by simp [A.deref,h2,hx]⟩
theorem Qx {most:Nat} {m r:List AV→Heap→Option (AV×Heap)} {r0:AV→Heap→Option (AV×Heap)} (hm:m=A.qq (A.wrap true [(.s sz)] .k (A.cK r0))) (hr:∀a σ,r0 a σ=(A.pU a .au).bind fun x1=>A.cond x1 (some (.au,σ)) ((A.append sz most .ez a σ).bind fun r2=>some (r2.1,r2.2)))
  (hl:l.length≤most) (hB:∀g g' seg,(seg=[]∨B (.arr g sz seg))→B (.arr g' sz (seg++l.map c))) (H:Hs B aC σ R):∃v σ',m [sl sz c l] σ=some (v,σ')∧A.cell v=some v∧Hs B aC σ' (Sl (fl c) sz v l*R):=by
 subst hm
 cases l with
 |nil=>exact⟨.ez,σ,rfl,rfl,qY H (.inr rfl)⟩
 |cons x l=>
  obtain⟨v',σ',e1,H2⟩:=HW (B:=B) (E:=fl c) (sz:=sz) (v:=.ez) (l:=[]) (ys:=(x::l).map c) (xs:=x::l) (most:=most) (qY (Ml.2 ⟨rfl,H⟩) (.inr rfl)) (by simpa using hl) hB
  have hv:A.cell v'=some v':=by
   rcases uP H2 with⟨h,_,_⟩|⟨id,g,rfl,_⟩
   ·cases h
   ·rfl
  refine⟨v',σ',?_,hv,H2⟩
  show A.wrap true [(.s sz)] .k (A.cK r0) [sl sz c (x::l)] σ=_
  refine wrap_eq rfl ?_ rfl
  show r0 (sl sz c (x::l)) σ=_
  rw[hr,show A.pU (sl sz c (x::l)) .au=some (.bool false)from rfl,Option.bind_some,cD,show sl sz c (x::l)=.sl sz ((x::l).map c)from rfl,e1]
  rfl
end
section
variable {aC σ : Heap} {R : HP}
theorem anF {l:List bf} (hl:l.length≤1099511627776) (H:Hs bK aC σ R):∃v σ',CI [sl 11 aZ l] σ=some (v,σ')∧A.cell v=some v∧Hs bK aC σ' (Sl (fl aZ) 11 v l*R):=
 Qx (most:=140737488355328 / 128) (r:=fun _ _=>none) rfl (fun _ _=>rfl) (by simpa using hl) (fun _ _ _ _=>trivial) H
end
end
section
open HP
theorem mm {f:List AV→Heap→Option LS} {Q:LS→Prop} (I:Nat→List AV→Heap→Prop) (hstep:∀n v σ,I n v σ→(∃m v' σ',m<n∧f v σ=some (.normal,v',σ')∧I m v' σ')∨∃q,f v σ=some q∧q.1≠.normal∧Q q) {n:Nat} {v0:List AV} {σ:Heap} (h0:I n v0 σ):∃q,A.loop f v0 σ=some q∧Q q:=by
 have key:∀(k n:Nat) v σ,n≤k→I n v σ→∃q,(∃m,A.iter f m v σ=some q)∧Q q:=by
  intro k
  induction k with
  |zero=>
   intro n v σ hn hI
   rcases hstep n v σ hI with⟨m,_,_,hm,_⟩|⟨q,h1,h2,h3⟩
   ·omega
   ·exact⟨q,uO h1 h2,h3⟩
  |succ k ih=>
   intro n v σ hn hI
   rcases hstep n v σ hI with⟨m,v',σ',hm,h1,h2⟩|⟨q,h1,h2,h3⟩
   ·obtain⟨q,hq,hQ⟩:=ih m v' σ' (by omega) h2
    exact⟨q,CZ h1 hq,hQ⟩
   ·exact⟨q,uO h1 h2,h3⟩
 obtain⟨q,⟨m,hm⟩,hQ⟩:=key n n v0 σ (Nat.le_refl _) h0
 exact⟨q,CT hm,hQ⟩
theorem gT (X d:Option AV):A.guard (.bool true) true X d=X:=by have h:A.guard (.bool true) true X d=X:=rfl;exact h.trans (Eq.refl X)
theorem gF (X d:Option AV):A.guard (.bool false) false X d=X:=by have h:A.guard (.bool false) false X d=X:=rfl;exact h.trans (Eq.refl X)
theorem uw (X d:Option AV):A.guard (.bool false) true X d=d:=by have h:A.guard (.bool false) true X d=d:=rfl;exact h.trans (Eq.refl d)
theorem xC (X d:Option AV):A.guard (.bool true) false X d=d:=by have h:A.guard (.bool true) false X d=d:=rfl;exact h.trans (Eq.refl d)
theorem bS {α β:Type} (a:α) (f:α→Option β):(some a).bind f=f a:=by have h:(some a).bind f=f a:=rfl;exact h.trans (Eq.refl (f a))
theorem nU (cs:List AV) (σ:Heap):A.deref (.rp cs) σ=some cs:=by have h:A.deref (.rp cs) σ=some cs:=rfl;exact h.trans (Eq.refl _)
theorem l9 (n:Nat) {α:Type} {X Y:α}:(bif (AX.exit n==AX.exit n)then X else Y)=X:=by rw[show(AX.exit n==AX.exit n)=true from beq_self_eq_true _];rfl
theorem mg (x y:AV):A.pick (.bool false) x y=some y:=rfl
theorem lD (x y:AV):A.pick (.bool true) x y=some x:=rfl
theorem aoi:A.not (.bool true)=some (.bool false):=rfl
end
section
open HP
section
variable {aC σ : Heap} {R : HP}
theorem Mn {v v':AV} (H:Hs bK aC σ R) (h:A.bw σ aC.length 8 v=some v') (hv:σ=aC→v'=v):A.fin aC v σ=some (v',aC):=by
 obtain⟨⟨bs,rfl,_⟩,_⟩:=H
 by_cases sv:bs=[]
 ·subst sv
  rw[List.append_nil]at h ⊢
  rw[bC,hv (by simp)]
 ·unfold A.fin
  rw[if_neg (by simpa using sv),if_pos (by simp),h];rfl
end
end
section
open HP
def Inv (k:Nat) (l:List bf):Prop:=l.length≤1000∧∀c∈l,SJ c.dm∧c.dm.length≤2000+k
theorem Inv.mono {k k':Nat} {l:List bf} (h:Inv k l) (hk:k≤k'):Inv k' l:=⟨h.1,fun c hc=>⟨(h.2 c hc).1,by have:=(h.2 c hc).2;omega⟩⟩
theorem Inv.erase {k:Nat} {l:List bf} (h:Inv k l) (i:Nat):Inv k (l.eraseIdx i):=
 ⟨by have:=List.length_eraseIdx_le l i;have:=h.1;omega,fun c hc=>h.2 c (List.mem_of_mem_eraseIdx hc)⟩
section
variable {aC σ : Heap} {R : HP}
end
end
section
open HP
theorem aj4 {l:List bf} {n:Int} (hg:Good l) (h:wS l n=true):∃x,l[lH l n]? =some x∧x.number=n:=by
 rw[←X5 hg.JG]at h
 cases hx:l[lH l n]? with
 |none=>rw[hx]at h;cases h
 |some x=>rw[hx]at h;exact⟨x,rfl,by simpa using h⟩
theorem kP (a b:AV):A.ext 0 (.aG [a,b])=some a:=rfl
theorem ext1 (a b:AV):A.ext 1 (.aG [a,b])=some b:=rfl
theorem ako (l:List bf) (cO:List AV):A.bV [Sh.e 11 FY] (sl 11 aZ l::cO)=sl 11 aZ l::cO:=iS (aew l) rfl
theorem aaO (a:Int):A.neq .i (.int .i64 a) (.int .i64 0)=some (.bool (decide (¬(a=0)))):=by rw[fW]
end
section
open HP
section
variable {α : Type} {c : α → List AV} {sz : Nat} {aC σ : Heap} {R : HP}
theorem alp {B:aJ→Prop} (H:Hs B aC σ R) (bs:Heap) (sv:∀b∈bs,B b):Hs B aC (σ++bs) R:=by
 obtain⟨⟨b0,rfl,hb0⟩,h,hr,h2⟩:=H
 exact⟨⟨b0++bs,by simp,fun b hb=>(List.mem_append.1 hb).elim (hb0 b) (sv b)⟩,h,hr,fun i b hb=>⟨(h2 i b hb).1,by rw[List.getElem?_append_left (List.getElem?_eq_some_iff.1 (h2 i b hb).2).1];exact(h2 i b hb).2⟩⟩
end
def mA (l:List bh):Prop:=l.Pairwise fun a b=>fu a.key b.key=true
def oB (l:List bh) (k:aB):Nat:=(l.takeWhile fun m=>fu m.key k).length
def MR (l:List bh) (k:aB):Bool:=l.any fun m=>decide (m.key=k)
theorem akA (l:List bh) (k:aB):oB l k≤l.length:=(List.takeWhile_prefix _).length_le
theorem Mc {l:List bh} {k:aB} (h:mA l):∀{i:Nat} {x:bh},l[i]? =some x→(fu x.key k=true↔i<oB l k):=by
 induction l with
 |nil=>intro i x hx;simp at hx
 |cons a l ih=>
  intro i x hx
  have hs:=List.pairwise_cons.1 h
  unfold oB
  rw[List.takeWhile_cons]
  cases ha:fu a.key k
  ·simp only[Bool.false_eq_true,if_false,List.length_nil,Nat.not_lt_zero,iff_false,Bool.not_eq_true]
   cases i with
   |zero=>simp at hx;subst hx;exact ha
   |succ i=>
    simp only[List.getElem?_cons_succ]at hx
    have:=hs.1 x (List.mem_of_getElem? hx)
    cases hq:fu x.key k
    ·rfl
    ·rw[Fg this hq]at ha;cases ha
  ·simp only[if_true,List.length_cons]
   cases i with
   |zero=>simp at hx;subst hx;simp [ha]
   |succ i=>
    simp only[List.getElem?_cons_succ]at hx
    rw[ih hs.2 hx]
    unfold oB
    omega
theorem Mb {l:List bh} {k:aB} (h:mA l) {i:Nat} {x:bh} (hi:l[i]? =some x) (hk:x.key=k):oB l k=i:=by
 have h1:¬i<oB l k:=fun q=>by
  have:=(Mc h hi).2 q
  rw[hk,Bz]at this;cases this
 have h2:¬oB l k<i:=fun q=>by
  have hp:oB l k<l.length:=Nat.lt_trans q (List.getElem?_eq_some_iff.1 hi).1
  have hy:l[oB l k]? =some l[oB l k]:=List.getElem?_eq_getElem hp
  have h3:¬fu l[oB l k].key k=true:=fun q'=>Nat.lt_irrefl _ ((Mc h hy).1 q')
  have h4:=List.pairwise_iff_getElem.1 h (oB l k) i hp (List.getElem?_eq_some_iff.1 hi).1 q
  rw[(List.getElem?_eq_some_iff.1 hi).2,hk]at h4
  exact h3 h4
 omega
theorem X6 {l:List bh} {k:aB} (h:mA l):((l[oB l k]?).any fun x=>decide (x.key=k))=MR l k:=by
 rw[Bool.eq_iff_iff]
 constructor
 ·intro e
  cases hx:l[oB l k]? with
  |none=>rw[hx]at e;cases e
  |some x=>rw[hx]at e;exact List.any_eq_true.2 ⟨x,List.mem_of_getElem? hx,e⟩
 ·intro e
  obtain⟨x,hm,hk⟩:=List.any_eq_true.1 e
  have hk:=of_decide_eq_true hk
  obtain⟨i,hi⟩:=List.mem_iff_getElem?.1 hm
  rw[Mb h hi hk,hi];simp [hk]
def yJ (n:Int) (st:List bh) (m:fE):List bh:=
 let st1:=if MR st m.key=true then st.eraseIdx (oB st m.key)else st
 if m.release=true then st1 else st1.take (oB st m.key)++[⟨m.key,m.value,n⟩]++st1.drop (oB st m.key)
def HQ (st:List bh) (c:bf):List bh:=c.dm.foldl (yJ c.number) st
def Bu (l:List bf):List bh:=l.foldl HQ []
def lF (st:List bh) (k:aB):Option bh:=st.find? fun e=>decide (e.key=k)
theorem Wq {n:Int} {st:List bh} (h:mA st) (m:fE):mA (yJ n st m)∧(∀k,lF (yJ n st m) k=if k=m.key then(if m.release=true then none else some ⟨m.key,m.value,n⟩)else lF st k)∧(yJ n st m).length≤st.length+1:=by
 obtain⟨p,hp⟩:∃p,p=oB st m.key:=⟨_,rfl⟩
 obtain⟨st1,Ga⟩:∃st1,st1=if MR st m.key=true then st.eraseIdx p else st:=⟨_,rfl⟩
 have apT:p≤st.length:=by rw[hp];exact akA _ _
 have e1:st1.take p=st.take p:=by
  rw[Ga];split
  ·rw[List.eraseIdx_eq_take_drop_succ,List.take_append_of_le_length (by simp;omega),List.take_take,Nat.min_self]
  ·rfl
 have e2:st1.drop p=if MR st m.key=true then st.drop (p+1)else st.drop p:=by
  rw[Ga];split
  ·rw[List.eraseIdx_eq_take_drop_succ,List.drop_append_of_le_length (by simp;omega),List.drop_of_length_le (by simp;omega),List.nil_append]
  ·rfl
 have hlt:∀x∈st.take p,fu x.key m.key=true:=fun x hx=>by
  obtain⟨i,hi⟩:=List.mem_iff_getElem?.1 hx
  rw[List.getElem?_take]at hi
  split at hi
  ·rename_i q;exact(Mc h hi).2 (by omega)
  ·cases hi
 have hgt:∀x∈st1.drop p,fu m.key x.key=true:=fun x hx=>by
  rw[e2]at hx
  have key:∀i,p≤i→st[i]? =some x→x.key≠m.key→fu m.key x.key=true:=by
   intro i hpi hi hne
   cases hq:fu m.key x.key
   ·exfalso
    have h1:fu x.key m.key=false:=by
     cases vL:fu x.key m.key
     ·rfl
     ·have:=(Mc h hi).1 vL;omega
    exact hne (QK h1 hq)
   ·rfl
  split at hx
  ·rename_i hh
   obtain⟨i,hi⟩:=List.mem_iff_getElem?.1 hx
   rw[List.getElem?_drop]at hi
   refine key _ (by omega) hi fun e=>?_
   have:=Mb h hi e
   omega
  ·rename_i hh
   obtain⟨i,hi⟩:=List.mem_iff_getElem?.1 hx
   rw[List.getElem?_drop]at hi
   refine key _ (by omega) hi fun e=>?_
   exact hh (List.any_eq_true.2 ⟨x,List.mem_of_getElem? hi,by simp [e]⟩)
 have hs1:mA st1:=by
  rw[Ga];split
  ·exact h.sublist (List.eraseIdx_sublist _ _)
  ·exact h
 have vJ:st1.length≤st.length:=by
  rw[Ga];split
  ·exact List.length_eraseIdx_le _ _
  ·exact Nat.le_refl _
 have hno:∀k,k=m.key→lF st1 k=none:=by
  rintro k rfl
  unfold lF
  rw[List.find?_eq_none]
  intro x hx hk
  have hk:=of_decide_eq_true hk
  rw[←List.take_append_drop p st1,List.mem_append]at hx
  rcases hx with hx|hx
  ·rw[e1]at hx
   have:=hlt x hx
   rw[hk,Bz]at this;cases this
  ·have:=hgt x hx
   rw[hk,Bz]at this;cases this
 have aaZ:∀k,k≠m.key→lF st1 k=lF st k:=by
  intro k hk
  rw[Ga];split
  ·rename_i hh
   unfold lF
   rw[List.eraseIdx_eq_take_drop_succ]
   have hx:st[p]? ≠none:=fun e=>by
    have:=X6 (k:=m.key) h
    rw[hh,←hp,e]at this;cases this
   obtain⟨x,hx⟩:=Option.ne_none_iff_exists'.1 hx
   have hxk:x.key=m.key:=by
    have:=X6 (k:=m.key) h
    rw[hh,←hp,hx]at this
    simpa using this
   have e:st=st.take p++x::st.drop (p+1):=by
    rw[←(List.getElem?_eq_some_iff.1 hx).2,List.getElem_cons_drop,List.take_append_drop]
   conv=>rhs;rw[e]
   rw[List.find?_append,List.find?_append,List.find?_cons,decide_eq_false (fun q=>hk (by rw[←q,hxk]))]
  ·rfl
 have anW:yJ n st m=if m.release=true then st1 else st1.take p++[⟨m.key,m.value,n⟩]++st1.drop p:=by
  unfold yJ
  rw[←hp,←Ga]
 rw[anW]
 split
 ·rename_i hr
  refine⟨hs1,fun k=>?_,by omega⟩
  by_cases hk:k=m.key
  ·rw[if_pos hk];exact hno k hk
  ·rw[if_neg hk];exact aaZ k hk
 ·rename_i hr
  refine⟨?_,fun k=>?_,by simp;omega⟩
  ·unfold mA
   rw[List.append_assoc,List.pairwise_append]
   refine⟨hs1.sublist (List.take_sublist _ _),?_,fun x hx y hy=>?_⟩
   ·rw[List.singleton_append,List.pairwise_cons]
    exact⟨fun y hy=>hgt y hy,hs1.sublist (List.drop_sublist _ _)⟩
   ·rw[e1]at hx
    rcases List.mem_append.1 hy with hy|hy
    ·simp at hy;subst hy;exact hlt x hx
    ·exact Fg (hlt x hx) (hgt y hy)
  ·by_cases hk:k=m.key
   ·rw[if_pos hk]
    subst hk
    unfold lF
    rw[List.append_assoc,List.find?_append]
    have:(st1.take p).find? (fun e=>decide (e.key=m.key))=none:=by
     rw[List.find?_eq_none]
     intro x hx q
     rw[e1]at hx
     have:=hlt x hx
     rw[of_decide_eq_true q,Bz]at this;cases this
    rw[this]
    simp
   ·rw[if_neg hk,←aaZ k hk]
    unfold lF
    rw[List.append_assoc,List.find?_append,List.singleton_append,List.find?_cons,decide_eq_false (fun q=>hk q.symm)]
    conv=>rhs;rw[←List.take_append_drop p st1,List.find?_append]
end
section
open HP
section
variable {B : aJ → Prop} {aC σ : Heap} {R : HP}
theorem afR {n:Int} (ms:List fE):∀{st:List bh},mA st→mA (ms.foldl (yJ n) st)∧(ms.foldl (yJ n) st).length≤st.length+ms.length:=by
 induction ms with
 |nil=>intro st h;exact⟨h,Nat.le_refl _⟩
 |cons m ms ih=>
  intro st h
  obtain⟨h1,_,h3⟩:=Wq (n:=n) h m
  obtain⟨h4,h5⟩:=ih h1
  exact⟨h4,by simp only[List.foldl_cons,List.length_cons];omega⟩
theorem afF {l:List bf} (hl:∀c∈l,c.dm.length≤2000000):∀(k:Nat) (st:List bh),mA st→st.length≤k*2000000→mA (l.foldl HQ st)∧(l.foldl HQ st).length≤(k+l.length)*2000000:=by
 induction l with
 |nil=>intro k st h1 h2;exact⟨h1,h2⟩
 |cons c l ih=>
  intro k st h1 h2
  obtain⟨h3,h4⟩:=afR (n:=c.number) c.dm h1
  have hc:=hl c (by simp)
  obtain⟨h5,h6⟩:=ih (fun x hx=>hl x (by simp [hx])) (k+1) (HQ st c) h3 (by show(c.dm.foldl _ st).length≤_;omega)
  refine⟨h5,?_⟩
  rw[List.length_cons,show k+(l.length+1)=k+1+l.length from by omega]
  exact h6
end
def oV (n:Int) (s:List (aB×bh)) (m:fE):List (aB×bh):=if m.release=true then pJ m.key s else dB m.key ⟨m.key,m.value,n⟩ s
def Dl (l:List bf):List (aB×bh):=l.foldl (fun s c=>c.dm.foldl (oV c.number) s) []
def pH (s:List (aB×bh)):Prop:=(s.map (·.1)).Nodup
theorem Xt {ν:Type} (k k':aB) (v:ν):∀s:List (aB×ν),cH k (dB k' v s)=if k=k' then some v else cH k s
 |[]=>by by_cases h:k=k'<;>simp [dB,cH,h]
 |(a,b)::s=>by
  rw[dB]
  by_cases h1:k'=a
  ·subst h1
   simp only[if_true,cH]
   by_cases h:k=k'<;>simp [h]
  ·rw[if_neg h1,cH,cH,Xt k k' v s]
   by_cases h2:k=a
   ·have:k≠k':=fun e=>h1 (by rw[←e,h2])
    simp [h2,this]
    intro e;exact absurd (e.symm) h1
   ·simp [h2]
theorem QL {ν:Type} {k:aB}:∀{s:List (aB×ν)} {x:aB×ν},x∈pJ k s→x∈s
 |[],x,h=>h
 |(a,b)::s,x,h=>by
  rw[pJ]at h
  split at h
  ·exact List.mem_cons_of_mem _ h
  ·rcases List.mem_cons.1 h with rfl|h
   ·exact List.mem_cons_self
   ·exact List.mem_cons_of_mem _ (QL h)
theorem Ws {ν:Type} {k:aB}:∀{s:List (aB×ν)},(∀p∈s,p.1≠k)→cH k s=none
 |[],_=>rfl
 |(a,b)::s,h=>by
  rw[cH,if_neg (fun e=>h (a,b) (by simp) e.symm)]
  exact Ws (fun p hp=>h p (by simp [hp]))
theorem Xr (k k':aB):∀{s:List (aB×bh)},pH s→cH k (pJ k' s)=if k=k' then none else cH k s
 |[],_=>by simp [pJ,cH]
 |(a,b)::s,h=>by
  unfold pH at h
  rw[List.map_cons,List.nodup_cons]at h
  rw[pJ]
  by_cases h1:k'=a
  ·subst h1
   rw[if_pos rfl]
   by_cases h2:k=k'
   ·subst h2
    rw[if_pos rfl]
    exact Ws fun p hp e=>h.1 (List.mem_map.2 ⟨p,hp,e⟩)
   ·rw[if_neg h2,cH,if_neg h2]
  ·rw[if_neg h1,cH,cH,Xr k k' (s:=s) h.2]
   by_cases h2:k=a
   ·have:k≠k':=fun e=>h1 (by rw[←e,h2])
    rw[if_pos h2,if_pos h2,if_neg this]
   ·rw[if_neg h2,if_neg h2]
theorem YP {k:aB} {v:bh}:∀{s:List (aB×bh)},pH s→pH (dB k v s)∧∀x∈(dB k v s).map (·.1),x∈s.map (·.1)∨x=k
 |[],_=>⟨by simp [pH,dB],by simp [dB]⟩
 |(a,b)::s,h=>by
  unfold pH at h
  rw[List.map_cons,List.nodup_cons]at h
  rw[dB]
  split
  ·rename_i e
   subst e
   exact⟨by unfold pH;rw[List.map_cons,List.nodup_cons];exact h,fun x hx=>.inl hx⟩
  ·rename_i e
   obtain⟨h1,h2⟩:=YP (k:=k) (v:=v) h.2
   refine⟨?_,fun x hx=>?_⟩
   ·unfold pH
    rw[List.map_cons,List.nodup_cons]
    refine⟨fun hm=>?_,h1⟩
    rcases h2 _ hm with h3|h3
    ·exact h.1 h3
    ·exact e h3.symm
   ·rw[List.map_cons]at hx ⊢
    rcases List.mem_cons.1 hx with rfl|hx
    ·exact .inl List.mem_cons_self
    ·rcases h2 x hx with h3|h3
     ·exact .inl (List.mem_cons_of_mem _ h3)
     ·exact .inr h3
theorem YO {k:aB}:∀{s:List (aB×bh)},pH s→pH (pJ k s)
 |[],h=>h
 |(a,b)::s,h=>by
  unfold pH at h
  rw[List.map_cons,List.nodup_cons]at h
  rw[pJ]
  split
  ·exact h.2
  ·unfold pH
   rw[List.map_cons,List.nodup_cons]
   refine⟨fun hm=>?_,YO h.2⟩
   obtain⟨p,hp,e⟩:=List.mem_map.1 hm
   exact h.1 (List.mem_map.2 ⟨p,QL hp,e⟩)
def zO (s:List (aB×bh)) (st:List bh):Prop:=pH s∧mA st∧∀k,cH k s=lF st k
theorem ahO {n:Int} {s:List (aB×bh)} {st:List bh} (h:zO s st) (m:fE):zO (oV n s m) (yJ n st m):=by
 obtain⟨h1,h2,h3⟩:=h
 obtain⟨k1,k2,_⟩:=Wq (n:=n) h2 m
 unfold oV
 refine⟨?_,k1,fun k=>?_⟩
 ·split
  ·exact YO h1
  ·exact(YP h1).1
 ·rw[k2 k]
  split
  ·rw[Xr k m.key h1,h3 k]
  ·rw[Xt,h3 k]
theorem Xd {n:Int}:∀(ms:List fE) {s:List (aB×bh)} {st:List bh},zO s st→zO (ms.foldl (oV n) s) (ms.foldl (yJ n) st)
 |[],_,_,h=>h
 |m::ms,_,_,h=>Xd ms (ahO h m)
theorem Yh:∀(l:List bf) {s:List (aB×bh)} {st:List bh},zO s st→zO (l.foldl (fun s c=>c.dm.foldl (oV c.number) s) s) (l.foldl HQ st)
 |[],_,_,h=>h
 |c::l,_,_,h=>Yh l (Xd c.dm h)
theorem agA (l:List bf):zO (Dl l) (Bu l):=Yh l ⟨List.Pairwise.nil,List.Pairwise.nil,fun k=>rfl⟩
theorem akQ {l:List bf} (hl:l.length≤aW) (hm:∀c∈l,c.dm.length≤aW):Hl l=some (Dl l):=by
 unfold Hl Dl
 rw[Lf (g:=fun s c=>c.dm.foldl (oV c.number) s) (P:=fun _ _=>True) hl trivial (fun _ _ _ _ _=>trivial) ?_]
 ·rfl
 intro i c s hc _
 rw[Lf (g:=fun s m=>oV c.number s m) (P:=fun _ _=>True) (hm c (List.mem_of_getElem? hc)) trivial (fun _ _ _ _ _=>trivial) ?_]
 ·rfl
 intro j m s hm _
 unfold oV
 by_cases hr:m.release=true<;>simp [hr]
end
section
open HP
def als (n:Int):bf:=⟨n,⟨#[]⟩,0,0,0,0,⟨1,[]⟩,false,-1,[]⟩
def newRow (n:Int):List AV:=al1 (als n) .au .au
section
variable {aC σ : Heap} {R : HP}
end
end
section
open HP
section
variable {aC σ : Heap} {R : HP}
theorem ajQ {α:Type} {c:α→List AV} {sz:Nat} {B:aJ→Prop} {v:AV} {l:List α} (hc:∀x,iU (c x)) (H:Hs B aC σ (Sl (fl c) sz v l*R)):∃v',A.fin aC v σ=some (v',aC)∧A.nn (.s sz) v'=sl sz c l:=by
 obtain⟨v',h1,h2,h3⟩:=HX H hc (Nat.le_refl _) 7
 refine⟨v',Mn (Q6 H) h1 (fun e=>?_),h3⟩
 rcases uP H with⟨rfl,rfl|rfl,_⟩|⟨id,g,rfl,K⟩
 ·simp [A.bw]at h1;rw[h1]
 ·simp [A.bw]at h1;rw[h1]
 ·obtain⟨k1,k2⟩:=iz K
  have:=(List.getElem?_eq_some_iff.1 k2).1
  subst e;omega
end
end
section
open HP
theorem ama {f:Nat} {l:List AV} (h:iU l):Fz (.fn f l):=fun σ n d=>by cases d<;>simp [A.bw,h σ n]
theorem amc {l:List AV} (h:iU l):Fz (.rp l):=fun σ n d=>by cases d<;>simp [A.bw,h σ n]
def fmS (st:List (aB×bh)):AV:=uv (fun x=>(AV.agg (aN x))) (fun x=>(AV.agg (cM x))) st
section
variable {aC σ : Heap} {R : HP}
end
end
section
open HP
theorem aiN {R:Type} {f:List AV→Heap→(AX×List AV×Heap→Option R)→Option R} {v:List AV} {σ:Heap} {K:AX×List AV×Heap→Option R} {r:R} (h:∃n,∀m,n≤m→A.wB f m v σ K=some r):A.zS f v σ K=some r:=by
 have hx:∃r,∃n,∀m,n≤m→A.wB f m v σ K=some r:=⟨r,h⟩
 unfold A.zS
 rw[dif_pos hx]
 obtain⟨n,hn⟩:=h
 obtain⟨n',hn'⟩:=Classical.choose_spec hx
 have a:=hn (n+n') (by omega)
 have b:=hn' (n+n') (by omega)
 rw[a]at b;exact b.symm
theorem bounds {P:Nat→Nat→Prop}:∀(n:Nat),(∀j,j<n→∃N,∀m,N≤m→P j m)→∃N,∀j,j<n→∀m,N≤m→P j m
 |0,_=>⟨0,fun j h=>by omega⟩
 |n+1,h=>by
  obtain⟨N,hN⟩:=bounds n (fun j hj=>h j (by omega))
  obtain⟨M,hM⟩:=h n (by omega)
  refine⟨N+M,fun j hj m hm=>?_⟩
  by_cases e:j=n
  ·subst e;exact hM m (by omega)
  ·exact hN j (by omega) m (by omega)
theorem map_erase {α β:Type} (f:α→β) (l:List α) (j:Nat):(l.map f).eraseIdx j=(l.eraseIdx j).map f:=by
 rw[List.eraseIdx_eq_take_drop_succ,List.eraseIdx_eq_take_drop_succ,List.map_append,List.map_take,List.map_drop]
theorem akv {α:Type} {l:List α} {j:Nat} (hj:j<l.length):(l[j]::l.eraseIdx j).Perm l:=by
 have e:l=l.take j++l[j]::l.drop (j+1):=by rw[List.getElem_cons_drop,List.take_append_drop]
 rw[List.eraseIdx_eq_take_drop_succ]
 conv=>rhs;rw[e]
 exact List.perm_middle.symm
theorem PE {α R:Type} {ex:Nat} {enc:α→AV×AV} {it:Nat} {f:List AV→Heap→(AX×List AV×Heap→Option R)→Option R} {K:AX×List AV×Heap→Option R} {r:R} {es:List α}
  (body:List AV→Heap→(AX×List AV×Heap→Option R)→Option R) (ev:List AV→List AV)
  (hf:∀v s k,f v s k=A.sP (.op it 0) s fun x s'=>(A.ext 0 x).bind fun c=>A.cond c (body v s' k) (k (.exit ex,ev v,s')))
  (I:List α→List α→List AV→Heap→Prop) (jX:∀d l v s,I d l v s→∃c,s[it]? =some (.it c (l.map enc)))
  (hstep:∀d l v s j p,(d++l).Perm es→I d l v s→l[j]? =some p→∃v' s',(∀k,body v (s.set it (.it [enc p] ((l.eraseIdx j).map enc))) k=k (.normal,v',s'))∧I (d++[p]) (l.eraseIdx j) v' s')
  (hend:∀d v s,d.Perm es→I d [] v s→K (.exit ex,ev v,s)=some r) {v0:List AV} {s0:Heap} (h0:I [] es v0 s0):A.zS f v0 s0 K=some r:=by
 have key:∀(n:Nat) (d l:List α) v s,l.length=n→(d++l).Perm es→I d l v s→∃N,∀m,N≤m→A.wB f m v s K=some r:=by
  intro n
  induction n with
  |zero=>
   intro d l v s hl hp hI
   have:l=[]:=List.eq_nil_of_length_eq_zero hl
   subst this
   refine⟨1,fun m hm=>?_⟩
   obtain⟨m',rfl⟩:∃m',m=m'+1:=⟨m-1,by omega⟩
   obtain⟨c,hc⟩:=jX _ _ _ _ hI
   rw[A.wB,hf]
   simp only[A.sP,hc,List.map_nil]
   exact hend d v s (by simpa using hp) hI
  |succ n ih=>
   intro d l v s hl hp hI
   obtain⟨c,hc⟩:=jX _ _ _ _ hI
   have hb:∀j,j<l.length→∃N,∀m,N≤m→∀p,l[j]? =some p→body v (s.set it (.it [enc p] ((l.eraseIdx j).map enc))) (fun q=>match q.1 with|.normal=>A.wB f m q.2.1 q.2.2 K|_=>K q)=some r:=by
    intro j hj
    have hx:l[j]? =some l[j]:=List.getElem?_eq_getElem hj
    obtain⟨v',s',h1,h2⟩:=hstep d l v s j _ hp hI hx
    have hp2:((d++[l[j]])++l.eraseIdx j).Perm es:=by
     rw[List.append_assoc,List.singleton_append]
     exact((akv hj).append_left d).trans hp
    obtain⟨N,hN⟩:=ih _ _ _ _ (by rw[List.length_eraseIdx,if_pos hj];omega) hp2 h2
    refine⟨N,fun m hm p GB=>?_⟩
    rw[hx]at GB;injection GB with GB;subst GB
    rw[h1]
    exact hN m hm
   obtain⟨N,hN⟩:=bounds l.length hb
   refine⟨N+1,fun m hm=>?_⟩
   obtain⟨m',rfl⟩:∃m',m=m'+1:=⟨m-1,by omega⟩
   rw[A.wB,hf]
   cases l with
   |nil=>simp at hl
   |cons e l=>
    simp only[A.sP,hc,List.map_cons]
    refine ak6 0 (by simp) fun j hj=>?_
    have hj':j<(e::l).length:=by simpa using hj
    have hx:(e::l)[j]? =some (e::l)[j]:=List.getElem?_eq_getElem hj'
    have hx2:(enc e::l.map enc)[j]? =some (enc (e::l)[j]):=by
     rw[←List.map_cons,List.getElem?_map,hx];rfl
    have:=hN j hj' m' (by omega) _ hx
    simp only[hx2]
    rw[←List.map_cons,map_erase]
    exact this
 exact aiN (key _ [] es v0 s0 rfl (List.Perm.refl _) h0)
def wR (p:aB×bh):AV×AV:=(.agg (aN p.1),.agg (cM p.2))
section
variable {aC σ : Heap} {R : HP}
end
end
section
open HP
theorem Ym {ν:Type} (k:aB) (v:ν):∀s:List (aB×ν),(dB k v s).length≤s.length+1
 |[]=>by simp [dB]
 |(a,b)::s=>by
  rw[dB]
  split
  ·simp
  ·have:=Ym k v s;simp;omega
theorem Yl {ν:Type} (k:aB):∀s:List (aB×ν),(pJ k s).length≤s.length
 |[]=>by simp [pJ]
 |(a,b)::s=>by
  rw[pJ]
  split
  ·simp
  ·have:=Yl k s;simp;omega
theorem ahT (n:Int) (s:List (aB×bh)) (m:fE):(oV n s m).length≤s.length+1:=by
 unfold oV
 split
 ·have:=Yl m.key s;omega
 ·exact Ym _ _ _
theorem Wr (n:Int):∀(ms:List fE) (s:List (aB×bh)),(ms.foldl (oV n) s).length≤s.length+ms.length
 |[],s=>Nat.le_refl _
 |m::ms,s=>by
  rw[List.foldl_cons]
  have:=Wr n ms (oV n s m)
  have:=ahT n s m
  simp;omega
theorem ahS {l:List bf} (hm:∀c∈l,c.dm.length≤2000):(Dl l).length≤l.length*2000:=by
 unfold Dl
 have key:∀(l:List bf) (s:List (aB×bh)),(∀c∈l,c.dm.length≤2000)→(l.foldl (fun s c=>c.dm.foldl (oV c.number) s) s).length≤s.length+l.length*2000:=by
  intro l
  induction l with
  |nil=>intro s _;simp
  |cons c l ih=>
   intro s h
   rw[List.foldl_cons]
   have h1:=ih (c.dm.foldl (oV c.number) s) (fun x hx=>h x (by simp [hx]))
   have h2:=Wr c.number c.dm s
   have h3:=h c (by simp)
   simp only[List.length_cons,Nat.add_mul]
   omega
 have:=key l [] hm
 simpa using this
section
variable {aC σ : Heap} {R : HP}
end
end
section
open HP
section
variable {aC σ : Heap} {R : HP}
theorem aiu {α:Type} {c:α→List AV} {sz:Nat} {B:aJ→Prop} {v:AV} {l:List α} {e:Int} (hc:∀x,iU (c x)) (H:Hs B aC σ (Sl (fl c) sz v l*R)):∃v',A.fin aC (.aG [v,.int .i64 e]) σ=some (.aG [v',.int .i64 e],aC)∧A.nn (.s sz) v'=sl sz c l:=by
 obtain⟨v',h1,h2,h3⟩:=HX H hc (Nat.le_refl _) 7
 refine⟨v',Mn (Q6 H) (by simp [A.bw,A.eO,h1]) (fun e=>?_),h3⟩
 rcases uP H with⟨rfl,rfl|rfl,_⟩|⟨id,g,rfl,K⟩
 ·simp [A.bw]at h1;rw[h1]
 ·simp [A.bw]at h1;rw[h1]
 ·obtain⟨k1,k2⟩:=iz K
  have:=(List.getElem?_eq_some_iff.1 k2).1
  subst e;omega
theorem L8 {α:Type} {c:α→List AV} {sz:Nat} {v:AV} {l:List α} {e:Int} (h:A.nn (.s sz) v=sl sz c l):A.nn (.t [(.s sz),.k]) (.aG [v,.int .i64 e])=.aG [sl sz c l,.int .i64 e]:=by
 simp only[A.nn,A.bV]at h ⊢
 rw[h]
def zu (l:List bf) (n:Int):List bh×Int:=
 if ¬(rP l=0)then([],rP l)else if wS l n=false then([],8)else(Bu (l.take (lH l n+1)),0)
theorem adU {l:List bf} (hlen:l.length≤300) (hm:∀c∈l,c.dm.length≤2000):mA (Bu l)∧(Bu l).length≤600000000:=by
 obtain⟨b1,b2⟩:=afF (l:=l) (fun c hc=>by have:=hm c hc;omega) 0 [] List.Pairwise.nil (Nat.zero_le _)
 exact⟨b1,by unfold Bu;omega⟩
end
end
section
open HP Go.Sort
theorem ZS {α:Type} {r:α→α→Prop} (Nj:∀x,¬r x x) (tr:∀x y z,r x y→r y z→r x z):∀{a b:List α},a.Pairwise r→b.Pairwise r→(∀x,x∈a↔x∈b)→a=b
 |[],[],_,_,_=>rfl
 |[],y::b,_,_,h=>by have:=(h y).2 (by simp);simp at this
 |x::a,[],_,_,h=>by have:=(h x).1 (by simp);simp at this
 |x::a,y::b,ha,hb,h=>by
  have ha':=List.pairwise_cons.1 ha
  have hb':=List.pairwise_cons.1 hb
  have hxy:x=y:=by
   rcases List.mem_cons.1 ((h x).1 (by simp))with e|m1
   ·exact e
   rcases List.mem_cons.1 ((h y).2 (by simp))with e|m2
   ·exact e.symm
   exact(Nj y (tr _ _ _ (hb'.1 x m1) (ha'.1 y m2))).elim
  subst hxy
  congr 1
  refine ZS Nj tr ha'.2 hb'.2 fun z=>⟨fun hz=>?_,fun hz=>?_⟩
  ·rcases List.mem_cons.1 ((h z).1 (by simp [hz]))with e|m
   ·exact(Nj x (e▸ha'.1 z hz)).elim
   ·exact m
  ·rcases List.mem_cons.1 ((h z).2 (by simp [hz]))with e|m
   ·exact(Nj x (e▸hb'.1 z hz)).elim
   ·exact m
theorem Ll {α:Type} [Inhabited α] {cf:α→α→Int} (hS:SWO (fun x y=>decide (cf x y<0))) (l:List α):(tX cf l).Perm l∧(tX cf l).Pairwise fun x y=>¬cf y x<0:=by
 obtain⟨⟨h1,_,h3⟩,h2⟩:=pdq_sorts (fun x y=>decide (cf x y<0)) hS l.toArray 0 l.length (Lib.bitLen l.length) true true (Nat.zero_le _) (by simp) (Or.inl rfl)
 unfold tX
 generalize pdq (fun x y=>decide (cf x y<0)) l.toArray 0 l.length (Lib.bitLen l.length) true true=d' at h1 h2 h3
 have hs:d'.size=l.length:=by simpa using h1
 refine⟨?_,?_⟩
 ·have e1:d'.extract 0 l.length=d':=by rw[←hs];simp
  have e2:l.toArray.extract 0 l.length=l.toArray:=by simp
  rw[e1,e2]at h3
  exact h3
 ·rw[List.pairwise_iff_getElem]
  intro i j hi hj hij
  simp only[Array.length_toList]at hi hj
  have:=h2 i j (Nat.zero_le _) hij (by omega)
  simp only[getElem!_pos d' i hi,getElem!_pos d' j hj]at this
  simpa using this
theorem aiW {α:Type} [Inhabited α] (f:α→aB) {l:List α} (hn:∀x∈l,∀y∈l,f x=f y→x=y) (hd:l.Nodup):(tX (fun a b=>qt (f a) (f b)) l).Pairwise fun a b=>fu (f a) (f b)=true:=by
 obtain⟨h1,h2⟩:=Ll (FH f) l
 have hnd:(tX (fun a b=>qt (f a) (f b)) l).Pairwise (fun x y=>x≠y):=(h1.nodup_iff).2 hd
 refine List.Pairwise.imp_of_mem (R:=fun x y=>(¬qt (f y) (f x)<0)∧x≠y) ?_ (h2.and hnd)
 rintro x y hx hy ⟨q1,q2⟩
 cases e:fu (f x) (f y)
 ·exfalso
  have e2:fu (f y) (f x)=false:=by
   cases e2:fu (f y) (f x)
   ·rfl
   ·exact absurd ((Bp _ _).2 e2) q1
  exact q2 (hn x (h1.mem_iff.1 hx) y (h1.mem_iff.1 hy) (QK e e2))
 ·rfl
theorem VZ {l:List bh} (h:mA l) {k:aB} {x:bh}:lF l k=some x↔x∈l∧x.key=k:=by
 constructor
 ·intro e
  exact⟨List.mem_of_find?_eq_some e,of_decide_eq_true (List.find?_some (p:=fun m:bh=>decide (m.key=k)) e)⟩
 ·rintro⟨hm,hk⟩
  cases e:lF l k with
  |none=>
   have:=List.find?_eq_none.1 e x hm
   simp [hk]at this
  |some y=>
   have hy:=List.mem_of_find?_eq_some e
   have hyk:y.key=k:=of_decide_eq_true (List.find?_some (p:=fun m:bh=>decide (m.key=k)) e)
   obtain⟨i,hi⟩:=List.mem_iff_getElem?.1 hm
   obtain⟨j,hj⟩:=List.mem_iff_getElem?.1 hy
   have e1:=Mb h hi hk
   have e2:=Mb h hj hyk
   rw[←e1,e2,hj]at hi
   exact hi
theorem P8 {k:aB} {v:bh}:∀{s:List (aB×bh)},pH s→(cH k s=some v↔(k,v)∈s)
 |[],_=>by simp [cH]
 |(a,b)::s,h=>by
  unfold pH at h
  rw[List.map_cons,List.nodup_cons]at h
  rw[cH]
  by_cases e:k=a
  ·subst e
   rw[if_pos rfl]
   constructor
   ·intro q;injection q with q;simp [q]
   ·intro q
    rcases List.mem_cons.1 q with q|q
    ·injection q with _ q;rw[q]
    ·exact(h.1 (List.mem_map.2 ⟨_,q,rfl⟩)).elim
  ·rw[if_neg e,P8 h.2]
   constructor
   ·intro q;exact List.mem_cons_of_mem _ q
   ·intro q
    rcases List.mem_cons.1 q with q|q
    ·injection q with q _;exact(e q).elim
    ·exact q
def Cp (s:List (aB×bh)):Prop:=∀p∈s,p.2.key=p.1
theorem X1 {ν:Type} {k:aB} {v:ν}:∀{s:List (aB×ν)} {x:aB×ν},x∈dB k v s→x∈s∨x=(k,v)
 |[],x,h=>by simp [dB]at h;exact .inr h
 |(a,b)::s,x,h=>by
  rw[dB]at h
  split at h
  ·rcases List.mem_cons.1 h with rfl|h
   ·exact .inr rfl
   ·exact .inl (List.mem_cons_of_mem _ h)
  ·rcases List.mem_cons.1 h with rfl|h
   ·exact .inl List.mem_cons_self
   ·rcases X1 h with h|h
    ·exact .inl (List.mem_cons_of_mem _ h)
    ·exact .inr h
theorem af5 (l:List bf):Cp (Dl l):=by
 have inner:∀(n:Int) (ms:List fE) (s:List (aB×bh)),Cp s→Cp (ms.foldl (oV n) s):=by
  intro n ms
  induction ms with
  |nil=>intro s h;exact h
  |cons m ms ih=>
   intro s hs
   refine ih _ (fun p hp=>?_)
   unfold oV at hp
   split at hp
   ·exact hs p (QL hp)
   ·rcases X1 hp with hp|hp
    ·exact hs p hp
    ·rw[hp]
 have key:∀(l:List bf) (s:List (aB×bh)),Cp s→Cp (l.foldl (fun s c=>c.dm.foldl (oV c.number) s) s):=by
  intro l
  induction l with
  |nil=>intro s h;exact h
  |cons c l ih=>intro s hs;exact ih _ (inner c.number c.dm s hs)
 exact key l [] (by intro p hp;cases hp)
theorem aeM {s d:List (aB×bh)} {st:List bh} (hS:zO s st) (hk:Cp s) (hp:d.Perm s) [Inhabited bh]:tX (fun a b:bh=>qt a.key b.key) (d.map (·.2))=st:=by
 obtain⟨h1,h2,h3⟩:=hS
 have Jc:pH d:=by
  unfold pH at h1 ⊢
  exact((hp.map (·.1)).nodup_iff).2 h1
 have hkd:Cp d:=fun p hp'=>hk p (hp.mem_iff.1 hp')
 have he:d.map (·.1)=(d.map (·.2)).map (·.key):=by
  rw[List.map_map]
  exact(List.map_congr_left fun p hp'=>(hkd p hp').symm)
 have hnk:((d.map (·.2)).map (·.key)).Nodup:=by rw[←he];exact Jc
 have hinj:∀x∈d.map (·.2),∀y∈d.map (·.2),x.key=y.key→x=y:=by
  intro x hx y hy e
  obtain⟨i,hi⟩:=List.mem_iff_getElem?.1 hx
  obtain⟨j,hj⟩:=List.mem_iff_getElem?.1 hy
  have hi':=(List.getElem?_eq_some_iff.1 hi).1
  have hij:i=j:=by
   refine(List.getElem?_inj (l:=(d.map (·.2)).map (·.key)) (by simpa using hi') hnk).1 ?_
   have q1:((d.map (·.2)).map (·.key))[i]? =some x.key:=by rw[List.getElem?_map,hi];rfl
   have q2:((d.map (·.2)).map (·.key))[j]? =some y.key:=by rw[List.getElem?_map,hj];rfl
   rw[q1,q2,e]
  subst hij
  rw[hi]at hj;injection hj
 have hs:=aiW (f:=fun e:bh=>e.key) hinj ((List.pairwise_map.1 hnk).imp fun h e=>h (congrArg _ e))
 refine ZS (r:=fun a b:bh=>fu a.key b.key=true) (fun x q=>by rw[Bz]at q;cases q) (fun x y z=>Fg) hs h2 fun x=>?_
 have hmem:=(Ll (FH fun e:bh=>e.key) (d.map (·.2))).1.mem_iff (a:=x)
 rw[hmem,(hp.map (·.2)).mem_iff]
 constructor
 ·intro hx
  obtain⟨p,hp1,hp2⟩:=List.mem_map.1 hx
  have hpk:=hk p hp1
  have:cH p.1 s=some p.2:=(P8 h1).2 hp1
  rw[h3]at this
  rw[←hp2]
  exact((VZ h2).1 this).1
 ·intro hx
  have:lF st x.key=some x:=(VZ h2).2 ⟨hx,rfl⟩
  rw[←h3]at this
  exact List.mem_map.2 ⟨_,(P8 h1).1 this,rfl⟩
section
variable {aC σ : Heap} {R : HP}
theorem ajd {α:Type} [Inhabited α] {c:α→List AV} {sz:Nat} {cf:α→α→Int} (hinj:∀x y,c x=c y→x=y) {v:AV} {l:List α} (hl:l≠[]) (hlen:l.length<4611686018427387904) (hS:SWO (fun x y=>decide (cf x y<0))) (H:Hs bK aC σ (Sl (fl c) sz v l*R)):
  ∃σ',A.Ib sz c cf v σ=some (.aG [],σ')∧Hs bK aC σ' (Sl (fl c) sz v (tX cf l)*R):=by
 rcases uP H with⟨h,_,_⟩|⟨id,g,rfl,K⟩
 ·exact absurd h hl
 obtain⟨_,h2⟩:=iz K
 have hp:0<l.length:=List.length_pos_iff.2 hl
 have hc:(g=g∧sz=sz∧sz=sz∧0+l.length≤(l.map c).length∧0<l.length∧l.length<4611686018427387904)∧∃l':List α,((l.map c).drop 0).take l.length=l'.map c:=
  ⟨⟨rfl,rfl,rfl,by simp,hp,hlen⟩,l,by rw[List.drop_zero,List.take_of_length_le (by simp)]⟩
 have hch:Classical.choose hc.2=l:=by
  have h9:=Classical.choose_spec hc.2
  have e9:((l.map c).drop 0).take l.length=l.map c:=by rw[List.drop_zero,List.take_of_length_le (by simp)]
  exact((List.map_inj_right hinj).1 (e9.symm.trans h9)).symm
 refine⟨σ.set id (.arr g sz ((tX cf l).map c)),?_,?_⟩
 ·unfold A.Ib
  simp only[h2]
  rw[dif_pos hc,hch,List.take_zero,List.nil_append,List.drop_of_length_le (by simp),List.append_nil]
 ·have hle:(tX cf l).length=l.length:=(Ll hS l).1.length_eq
  exact Mt (zF (b':=.arr g sz ((tX cf l).map c)) K trivial) hle.symm
theorem ahL (e:bh):(((A.cells 5 (.agg (cM e))).bind fun fZ=>(A.splice 0 fZ [ah,br,ah,ah,ah]).bind fun eu=>some eu).bind fun cs=>some (AV.sl 5 (chunks 5 1 cs)))=some (.sl 5 [cM e]):=rfl
theorem amK {B:aJ→Prop} {v:AV} {l:List bh} (k:bh) (hl:l.length<1000000) (hB:∀g g' seg,(seg=[]∨B (.arr g 5 seg))→B (.arr g' 5 (seg++[cM k]))) (H:Hs B aC σ (Sl (fl cM) 5 v l*R)):
  ∃v' σ',A.append 5 (140737488355328 / 48) v (.sl 5 [cM k]) σ=some (v',σ')∧Hs B aC σ' (Sl (fl cM) 5 v' (l++[k])*R):=
 HW (ys:=[cM k]) (xs:=[k]) (hs_eq (show pr (cM k=cM k)*(Sl (fl cM) 5 v l*R)=_ by
  rw[show els (fl cM) [cM k] [k]=pr (cM k=cM k)*emp from rfl,tG,ym];ac_rfl) (mW.2 ⟨rfl,H⟩)) (by simp;omega) hB
theorem ajp {l:List bf} (hl:eW BW l) {n:Int} (hn:aP n) (σ:Heap):KH [sl 11 aZ l,.int .i64 n] σ=some (.aG [sl 5 cM (zu l n).1,.int .i64 (zu l n).2],σ):=by
 have run:KN (sl 11 aZ l) (.int .i64 n) σ=some (.aG [sl 5 cM (zu l n).1,.int .i64 (zu l n).2],σ):=by
  unfold KN zu
  rw[VX (Zw l hl),Option.bind_some,aaO,Option.bind_some]
  by_cases hf:rP l=0
  case neg=>
   rw[decide_eq_true hf,cW,if_pos hf,bC,Option.map_some]
   exact congrArg (fun z=>some (z,σ)) (L8 rfl)
  have hg:=QF hf
  have hlen:=hg.len
  rw[decide_eq_false (by simp [hf]),cD,if_neg (by simp [hf])]
  obtain⟨p,e1,e2,e3⟩:=aky hg hn σ
  rw[e1,Option.bind_some,kP,Option.bind_some,ext1,Option.bind_some,show A.not (.bool (wS l n))=some (.bool (!wS l n))from rfl,Option.bind_some]
  cases hh:wS l n
  ·rw[show(!false)=true from rfl,cW,if_pos rfl,bC,Option.map_some]
   exact congrArg (fun z=>some (z,σ)) (L8 rfl)
  rw[show(!true)=false from rfl,cD,if_neg (by decide)]
  have e4:=e3 (.inr hh)
  subst e4
  obtain⟨x,hx,hxn⟩:=aj4 hg hh
  generalize lH l n=a at hx ⊢
  have Gw:=(List.getElem?_eq_some_iff.1 hx).1
  obtain⟨st,hst⟩:∃st,st=Dl (l.take (a+1)):=⟨_,rfl⟩
  have hS:zO st (Bu (l.take (a+1))):=hst▸agA _
  have hk:Cp st:=hst▸af5 _
  have qS:st.length≤600000:=by
   have h1:=ahS (l:=l.take (a+1)) (fun c hc=>(hg.mv c (List.mem_of_mem_take hc)).1)
   have h2:(l.take (a+1)).length≤300:=by simp;omega
   rw[hst]
   exact Nat.le_trans h1 (Nat.mul_le_mul_right 2000 h2)
  have hcs:Hg [sl 11 aZ (l.take (a+1))] σ=some (fmS st,σ):=by
   rw[hst]
   exact ae1 (akQ (by simp;unfold aW;omega) (fun c hc=>by have:=(hg.mv c (List.mem_of_mem_take hc)).1;unfold aW;omega))
  rw[MJ (by omega),Option.bind_some,show A.Dk 11 (sl 11 aZ l) none (some (.int .i64 ((a+1:Nat):Int))) σ=some (sl 11 aZ (l.take (a+1)))from afu 11 aZ l (by omega),Option.bind_some,hcs,Option.bind_some]
  rw[show A.BJ (fmS st)=some (st.map wR)from rfl,Option.bind_some]
  simp only
  refine PE (α:=aB×bh) (enc:=wR) (it:=σ.length) (es:=st) _ _ (fun _ _ _=>rfl) (fun d lf w s=>∃h c,w=[h]∧(d=[]→h=.au)∧Hs bK σ s (blk σ.length (.it c (lf.map wR))*(Sl (fl cM) 5 h (d.map (·.2))*emp))) ?_ ?_ ?_ ?_
  ·rintro d lf w s ⟨h,c,rfl,_,K⟩
   exact⟨c,(iz K).2⟩
  ·rintro d lf w s j p hp ⟨h,c,rfl,_,K⟩ hj
   have K':=zF (b':=.it [wR p] ((lf.eraseIdx j).map wR)) K trivial
   obtain⟨_,hgt⟩:=iz K'
   generalize s.set σ.length (aJ.it [wR p] ((lf.eraseIdx j).map wR))=gJ at K' hgt ⊢
   have mL:d.length≤st.length:=by have:=hp.length_eq;simp at this;omega
   obtain⟨h',s',g1,K2⟩:=amK p.2 (by simp;omega) (fun _ _ _ _=>trivial) (hs_eq (show _=Sl (fl cM) 5 h (d.map (·.2))*(blk σ.length (.it [wR p] ((lf.eraseIdx j).map wR))*emp) by ac_rfl) K')
   have Iz:A.uW (.op σ.length 0) gJ=some (.aG [.agg (aN p.1),.agg (cM p.2)]):=by simp only[A.uW,hgt];rfl
   refine⟨[h'],s',fun k=>?_,h',_,rfl,fun q=>by simp at q,hs_eq (by rw[List.map_append];show Sl (fl cM) 5 h' (d.map (·.2)++[p.2])*_=_;ac_rfl) K2⟩
   rw[Iz,Option.bind_some,ext1,Option.bind_some,show A.cells 5 (.agg (cM p.2))=some (cM p.2)from rfl,Option.bind_some,ahR p.2 _ rfl,Option.bind_some,show A.ay 0 5 (cM p.2)=some (.agg (cM p.2))from rfl,Option.bind_some,ahL,Option.bind_some]
   simp only[List.getD_cons_zero]
   rw[g1,Option.bind_some]
  ·rintro d w s hp ⟨h,c,rfl,an3,K⟩
   have K2:=wm K
   simp only[Tr,List.getD_cons_zero]
   letI:Inhabited bh:=⟨⟨⟨0,⟨#[]⟩⟩,⟨0,0⟩,0⟩⟩
   have hsort:∃s',GM [h,.fn 297 []] s=some (.aG [],s')∧Hs bK σ s' (Sl (fl cM) 5 h (Bu (l.take (a+1)))*emp):=by
    have hres:=aeM hS hk hp
    by_cases hd:d=[]
    ·subst hd
     rw[an3 rfl]at K2 ⊢
     refine⟨s,rfl,?_⟩
     rw[List.map_nil]at hres K2
     have:Bu (l.take (a+1))=[]:=by
      rw[←hres]
      exact List.eq_nil_of_length_eq_zero (by rw[(Ll (FH fun e:bh=>e.key) []).1.length_eq];rfl)
     rw[this];exact K2
    ·have mL:d.length≤st.length:=by have:=hp.length_eq;omega
     obtain⟨s',g1,K3⟩:=ajd (cf:=fun a b:bh=>qt a.key b.key) VO (by simpa using hd) (by simp;omega) (FH fun e:bh=>e.key) K2
     rw[hres]at K3
     exact⟨s',g1,K3⟩
   obtain⟨s',g1,K3⟩:=hsort
   rw[g1,Option.bind_some]
   obtain⟨v',j1,j2⟩:=aiu (e:=0) WQ K3
   rw[j1,Option.map_some]
   exact congrArg (fun z=>some (z,σ)) (L8 j2)
  ·have K2:=FM (b:=aJ.it [] (st.map wR)) (HV (B:=bK) σ) trivial
   refine⟨.au,[],rfl,fun _=>rfl,?_⟩
   rw[List.map_nil]
   exact hs_eq (show _=blk σ.length (aJ.it [] (st.map wR))*(Sl (fl cM) 5 .au []*emp) by ac_rfl) (qY (v:=.au) (E:=fl cM) (sz:=5) K2 (.inl rfl))
 refine wrap_eq rfl ?_ (L8 (v:=sl 5 cM (zu l n).1) rfl)
 rw[show A.bV [Sh.e 11 [.k,.k,.k,.k,.k,.k,.k,.s 2,.k,.k,.s 8]] [sl 11 aZ l,.int .i64 n]=[sl 11 aZ l,.int .i64 n]from ako l _]
 exact run
end
end
def nq {κ ν:Type} (eK:κ→AV) (eV:ν→AV):Option (List (κ×ν))→AV
 |none=>.nm
 |some l=>uv eK eV l
theorem ajY {κ ν:Type} {eK:κ→AV} {eV:ν→AV} (hk:∀k,Fz (eK k)) (hv:∀v,Fz (eV v)) (l:List (κ×ν)):Fz (uv eK eV l):=by
 intro σ n d
 have:A.pq σ n d (l.map fun p=>(eK p.1,eV p.2))=some (l.map fun p=>(eK p.1,eV p.2)):=by
  induction l with
  |nil=>simp [A.pq]
  |cons x l ih=>simp [A.pq,hk x.1 σ n d,hv x.2 σ n d,ih]
 cases d<;>simp [A.bw,uv,this]
theorem amb:Fz .nm:=fun _ _ d=>by cases d<;>simp [A.bw]
theorem alh {κ ν:Type} {eK:κ→AV} {eV:ν→AV} (hk:∀k,Fz (eK k)) (hv:∀v,Fz (eV v)) (o:Option (List (κ×ν))):Fz (nq eK eV o):=by
 cases o with
 |none=>exact amb
 |some l=>exact ajY hk hv l
structure zA where
 shown:Int
 since:Int
 kU:Bool
def uU (x:zA):List AV:=[.int .i64 x.shown,.int .i64 x.since,.bool x.kU]
theorem VD (x:zA):A.aj 0 (uU x)=some (.int .i64 x.shown):=rfl
theorem afa (x:zA):A.aj 1 (uU x)=some (.int .i64 x.since):=rfl
theorem afb (x:zA):A.aj 2 (uU x)=some (.bool x.kU):=rfl
theorem PO (x:zA):A.cells 3 (.agg (uU x))=some (uU x):=rfl
structure cr where
 jN:gE
 lX:Int
 ending:Bool
def fk (x:cr):List AV:=[.int .i64 x.jN.dw,.int .i64 x.jN.to,.int .i64 x.jN.start,.int .i64 x.jN.delay,.int .i64 x.jN.time,.int .i64 x.jN.fq.kind,sl 2 gX x.jN.fq.points,.int .i64 x.lX,.bool x.ending]
theorem agZ (x:cr):(fk x).length=9:=rfl
theorem agh (x:cr):A.aj 1 (fk x)=some (.int .i64 x.jN.to):=rfl
theorem agi (x:cr):A.aj 2 (fk x)=some (.int .i64 x.jN.start):=rfl
theorem agj (x:cr):A.aj 3 (fk x)=some (.int .i64 x.jN.delay):=rfl
theorem agk (x:cr):A.aj 4 (fk x)=some (.int .i64 x.jN.time):=rfl
theorem Hr (x:cr):A.aj 7 (fk x)=some (.int .i64 x.lX):=rfl
theorem KW (x:cr):A.aj 8 (fk x)=some (.bool x.ending):=rfl
theorem ad0 (x:cr):A.ay 0 7 (fk x)=some (.agg (fF x.jN)):=rfl
theorem uQ (x:cr):A.ay 0 9 (fk x)=some (.agg (fk x)):=rfl
theorem yl (x:cr):A.cells 9 (.agg (fk x))=some (fk x):=rfl
theorem Bs (x:cr) (l:List AV) (h:l.length=9):A.splice 0 (fk x) l=some (fk x):=by
 simp [A.splice,agZ,h]
theorem XR (x:cr):iU (fk x):=(bR (dO _ _) (bR (dO _ _) (bR (dO _ _) (bR (dO _ _) (bR (dO _ _) (bR (dO _ _) (bR (oS PV _) (bR (dO _ _) (bR (Bw _) oK)))))))))
structure bg where
 clock:zA
 number:Int
 priority:Int
 bE:(List bf)
 bT:Int
 jg:Int
 follow:Int
 runs:(Option (List (aB×cr)))
def aK (x:bg):List AV:=[.int .i64 x.clock.shown,.int .i64 x.clock.since,.bool x.clock.kU,.int .i64 x.number,.int .i64 x.priority,sl 11 aZ x.bE,.int .i64 x.bT,.int .i64 x.jg,.int .i64 x.follow,nq (fun x=>AV.agg (aN x)) (fun x=>AV.agg (fk x)) x.runs]
theorem ae9 (x:bg):A.aj 3 (aK x)=some (.int .i64 x.number):=rfl
theorem ahE (x:bg):A.ay 0 10 (aK x)=some (.agg (aK x)):=rfl
theorem ag2 (x:bg):A.cells 10 (.agg (aK x))=some (aK x):=rfl
theorem CY (x:bg):iU (aK x):=(bR (dO _ _) (bR (dO _ _) (bR (Bw _) (bR (dO _ _) (bR (dO _ _) (bR (oS L6 _) (bR (dO _ _) (bR (dO _ _) (bR (dO _ _) (bR (alh (fun x=>wu (zw x)) (fun x=>wu (XR x)) _) oK))))))))))
theorem aeS (x:bg) {σ:Heap}:((A.deref (.rp ((aK x).drop 1)) σ).bind fun c=>A.aj 0 c)=some (.int .i64 x.clock.since):=rfl
theorem aeT (x:bg) {σ:Heap}:((A.deref (.rp ((aK x).drop 2)) σ).bind fun c=>A.aj 0 c)=some (.bool x.clock.kU):=rfl
theorem KD (x:bg) {σ:Heap}:((A.deref (.rp ((aK x).drop 3)) σ).bind fun c=>A.aj 0 c)=some (.int .i64 x.number):=rfl
theorem Hf (x:bg) {σ:Heap}:((A.deref (.rp ((aK x).drop 4)) σ).bind fun c=>A.aj 0 c)=some (.int .i64 x.priority):=rfl
theorem aeU (x:bg) {σ:Heap}:((A.deref (.rp ((aK x).drop 7)) σ).bind fun c=>A.aj 0 c)=some (.int .i64 x.jg):=rfl
theorem Vq (x:bg) {σ:Heap}:((A.deref (.rp ((aK x).drop 8)) σ).bind fun c=>A.aj 0 c)=some (.int .i64 x.follow):=rfl
theorem KE (x:bg) {σ:Heap}:((A.deref (.rp ((aK x).drop 9)) σ).bind fun c=>A.aj 0 c)=some (nq (fun x=>AV.agg (aN x)) (fun x=>AV.agg (fk x)) x.runs):=(by unfold aK;cases x.runs<;>rfl)
structure bX where
 az:(List bg)
 number:Int
 mu:Int
 black:Bool
def rK (x:bX):List AV:=[sl 10 aK x.az,.int .i64 x.number,.int .i64 x.mu,.bool x.black]
theorem Vt (x:bX) {σ:Heap}:((A.deref (.rp ((rK x).drop 0)) σ).bind fun c=>A.aj 0 c)=some (sl 10 aK x.az):=rfl
theorem aeV (x:bX) {σ:Heap}:((A.deref (.rp ((rK x).drop 2)) σ).bind fun c=>A.aj 0 c)=some (.int .i64 x.mu):=rfl
theorem aeW (x:bX) {σ:Heap}:((A.deref (.rp ((rK x).drop 3)) σ).bind fun c=>A.aj 0 c)=some (.bool x.black):=rfl
structure bD where
 state:bX
 setup:gf
 keys:(List aB)
 params:(Option (List (aB×ew)))
 actions:(List dR)
def qy (x:bD):List AV:=[sl 10 aK x.state.az,.int .i64 x.state.number,.int .i64 x.state.mu,.bool x.state.black,sl 3 cm x.setup.aQ.aY,sl 4 bU x.setup.aQ.units,sl 3 dN x.setup.bH,sl 2 dU x.setup.lists,sl 3 cz x.setup.bF,sl 2 aN x.keys,nq (fun x=>AV.agg (aN x)) (fun x=>AV.agg (eR x)) x.params,sl 5 bn x.actions]
theorem Vr (x:bD) {σ:Heap}:((A.deref (.rp ((qy x).drop 10)) σ).bind fun c=>A.aj 0 c)=some (nq (fun x=>AV.agg (aN x)) (fun x=>AV.agg (eR x)) x.params):=(by unfold qy;cases x.params<;>rfl)
theorem Vs (x:bD) {σ:Heap}:((A.deref (.rp ((qy x).drop 11)) σ).bind fun c=>A.aj 0 c)=some (sl 5 bn x.actions):=rfl
section
set_option maxRecDepth 100000
open HP
def wd (n:Nat):List AV:=[.int .u64 ((n / 18446744073709551616:Nat):Int),.int .u64 ((n % 18446744073709551616:Nat):Int)]
theorem MZ {n:Nat} (h:n<18446744073709551616):IntKind.u64.wrap (n:Int)=(n:Int):=by rw[IntKind.wrap_u64];omega
theorem Mf {r:AV→AV→Heap→Option (AV×Heap)} {x y v:AV} {σ:Heap} (h:[x,y].any A.own=false) (e:r x y σ=some (v,σ)):A.wrap true [] .k (A.cQ r) [x,y] σ=some (v,σ):=by
 refine wrap_eq h ?_ (iM _)
 rw[show A.bV [] [x,y]=[x,y] by simp [A.bV]]
 exact e
theorem yQ {n:Nat} (h:n<9223372036854775808) (σ:Heap):oc [.int .i64 (n:Int)] σ=some (.agg (wd n),σ):=by
 refine wrap_eq rfl ?_ (iM _)
 show PC (.int .i64 (n:Int)) σ=_
 unfold PC
 rw[show A.conv .u64 (.int .i64 (n:Int))=some (.int .u64 (IntKind.u64.wrap (n:Int)))from rfl,bS,MZ (by omega)]
 have e:wd n=[.int .u64 0,.int .u64 (n:Int)]:=by
  unfold wd
  rw[Nat.div_eq_of_lt (by omega),Nat.mod_eq_of_lt (by omega)];rfl
 rw[e]
 exact bC _ _
theorem aki {x y:Nat} (hx:x<18446744073709551616) (hy:y<18446744073709551616) (σ:Heap):G8 [.int .u64 (x:Int),.int .u64 (y:Int)] σ=some (.aG [.int .u64 ((x*y / 18446744073709551616:Nat):Int),.int .u64 ((x*y % 18446744073709551616:Nat):Int)],σ):=by
 have h:0≤(x:Int)∧(x:Int)<18446744073709551616∧0≤(y:Int)∧(y:Int)<18446744073709551616:=by omega
 have e:∀(a b:Int),G8 [.int .u64 a,.int .u64 b] σ=if 0≤a∧a<18446744073709551616∧0≤b∧b<18446744073709551616 then some (.aG [.int .u64 ((a.toNat*b.toNat / 18446744073709551616:Nat):Int),.int .u64 ((a.toNat*b.toNat % 18446744073709551616:Nat):Int)],σ)else none:=fun a b=>rfl
 rw[e,if_pos h,Int.toNat_natCast,Int.toNat_natCast]
theorem Yu {x y c:Nat} (hx:x<18446744073709551616) (hy:y<18446744073709551616) (hc:c≤1) (σ:Heap):E0 [.int .u64 (x:Int),.int .u64 (y:Int),.int .u64 (c:Int)] σ=some (.aG [.int .u64 (((x+y+c) % 18446744073709551616:Nat):Int),.int .u64 (((x+y+c) / 18446744073709551616:Nat):Int)],σ):=by
 have h:0≤(x:Int)∧(x:Int)<18446744073709551616∧0≤(y:Int)∧(y:Int)<18446744073709551616∧0≤(c:Int)∧(c:Int)≤1:=by omega
 have e:∀(a b d:Int),E0 [.int .u64 a,.int .u64 b,.int .u64 d] σ=if 0≤a∧a<18446744073709551616∧0≤b∧b<18446744073709551616∧0≤d∧d≤1 then some (.aG [.int .u64 (((a.toNat+b.toNat+d.toNat) % 18446744073709551616:Nat):Int),.int .u64 (((a.toNat+b.toNat+d.toNat) / 18446744073709551616:Nat):Int)],σ)else none:=fun a b d=>rfl
 rw[e,if_pos h,Int.toNat_natCast,Int.toNat_natCast,Int.toNat_natCast]
theorem wq {a n:Nat} (h:a*n<340282366920938463463374607431768211456) (ha:a<340282366920938463463374607431768211456) (hn:n<9223372036854775808) (σ:Heap):p6 [.agg (wd a),.int .i64 (n:Int)] σ=some (.agg (wd (a*n)),σ):=by
 have e0:N5 (.agg (wd a)) (.int .i64 (n:Int)) σ=some (.agg (wd (a*n)),σ)→p6 [.agg (wd a),.int .i64 (n:Int)] σ=some (.agg (wd (a*n)),σ):=fun q=>Mf rfl q
 refine e0 ?_
 unfold N5
 have hlo:a % 18446744073709551616<18446744073709551616:=Nat.mod_lt _ (by decide)
 have e1:a*n=(a / 18446744073709551616*n)*18446744073709551616+a % 18446744073709551616*n:=by
  have q:=Nat.div_add_mod a 18446744073709551616
  generalize a / 18446744073709551616=hi at q
  generalize a % 18446744073709551616=lo at q
  subst q
  rw[Nat.add_mul,Nat.mul_assoc,Nat.mul_comm]
 generalize hp:a / 18446744073709551616*n=p at e1
 generalize hq:a % 18446744073709551616*n=q at e1
 have hhi:p+q / 18446744073709551616<18446744073709551616:=by omega
 have hd:(a*n) / 18446744073709551616=p+q / 18446744073709551616:=by omega
 have hm:(a*n) % 18446744073709551616=q % 18446744073709551616:=by omega
 rw[show A.cells 2 (.agg (wd a))=some (wd a)from rfl,bS,show A.aj 1 (wd a)=some (.int .u64 ((a % 18446744073709551616:Nat):Int))from rfl,bS,show A.conv .u64 (.int .i64 (n:Int))=some (.int .u64 (IntKind.u64.wrap (n:Int)))from rfl,bS,MZ (by omega),aki hlo (by omega),bS,kP,bS,ext1,bS,show A.aj 0 (wd a)=some (.int .u64 ((a / 18446744073709551616:Nat):Int))from rfl,bS,bS]
 rw[show A.mul (.int .u64 ((a / 18446744073709551616:Nat):Int)) (.int .u64 (n:Int))=some (.int .u64 (IntKind.u64.wrap (((a / 18446744073709551616:Nat):Int)*(n:Int))))from rfl,bS,←Int.natCast_mul,hp,hq,MZ (by omega)]
 rw[show A.add (.int .u64 (p:Int)) (.int .u64 ((q / 18446744073709551616:Nat):Int))=some (.int .u64 (IntKind.u64.wrap ((p:Int)+((q / 18446744073709551616:Nat):Int))))from rfl,bS,←Int.natCast_add,MZ hhi]
 have e:wd (a*n)=[.int .u64 ((p+q / 18446744073709551616:Nat):Int),.int .u64 ((q % 18446744073709551616:Nat):Int)]:=by unfold wd;rw[hd,hm]
 rw[e]
 exact bC _ _
theorem alD {a b:Nat} (h:a+b<340282366920938463463374607431768211456) (σ:Heap):Kj [.agg (wd a),.agg (wd b)] σ=some (.agg (wd (a+b)),σ):=by
 have e0:Ob (.agg (wd a)) (.agg (wd b)) σ=some (.agg (wd (a+b)),σ)→Kj [.agg (wd a),.agg (wd b)] σ=some (.agg (wd (a+b)),σ):=fun q=>Mf rfl q
 refine e0 ?_
 unfold Ob
 have ha:a % 18446744073709551616<18446744073709551616:=Nat.mod_lt _ (by decide)
 have hb:b % 18446744073709551616<18446744073709551616:=Nat.mod_lt _ (by decide)
 rw[show A.cells 2 (.agg (wd a))=some (wd a)from rfl,bS,show A.cells 2 (.agg (wd b))=some (wd b)from rfl,bS,show A.aj 1 (wd a)=some (.int .u64 ((a % 18446744073709551616:Nat):Int))from rfl,bS,show A.aj 1 (wd b)=some (.int .u64 ((b % 18446744073709551616:Nat):Int))from rfl,bS]
 have e0:=Yu ha hb (c:=0) (by omega) σ
 rw[show((0:Nat):Int)=0 from rfl]at e0
 rw[e0,bS,kP,bS,ext1,bS,show A.aj 0 (wd a)=some (.int .u64 ((a / 18446744073709551616:Nat):Int))from rfl,bS,show A.aj 0 (wd b)=some (.int .u64 ((b / 18446744073709551616:Nat):Int))from rfl,bS]
 simp only
 rw[Yu (by omega) (by omega) (by omega),bS,kP,bS,ext1,bS]
 have e:wd (a+b)=[.int .u64 (((a / 18446744073709551616+b / 18446744073709551616+(a % 18446744073709551616+b % 18446744073709551616+0) / 18446744073709551616) % 18446744073709551616:Nat):Int),.int .u64 (((a % 18446744073709551616+b % 18446744073709551616+0) % 18446744073709551616:Nat):Int)]:=by
  have d1:(a+b) / 18446744073709551616=(a / 18446744073709551616+b / 18446744073709551616+(a % 18446744073709551616+b % 18446744073709551616+0) / 18446744073709551616) % 18446744073709551616:=by omega
  have d2:(a+b) % 18446744073709551616=(a % 18446744073709551616+b % 18446744073709551616+0) % 18446744073709551616:=by omega
  unfold wd
  rw[d1,d2]
 rw[e]
 exact bC _ _
theorem ZG (a b:Nat) (σ:Heap):EP [.agg (wd a),.agg (wd b)] σ=some (.bool (decide (a<b)),σ):=by
 refine wrap_eq rfl ?_ (iM _)
 show Oa (.agg (wd a)) (.agg (wd b)) σ=_
 unfold Oa
 rw[show A.cells 2 (.agg (wd a))=some (wd a)from rfl,bS,show A.cells 2 (.agg (wd b))=some (wd b)from rfl,bS,show A.aj 0 (wd a)=some (.int .u64 ((a / 18446744073709551616:Nat):Int))from rfl,bS,show A.aj 0 (wd b)=some (.int .u64 ((b / 18446744073709551616:Nat):Int))from rfl,bS,
  show A.lss (.int .u64 ((a / 18446744073709551616:Nat):Int)) (.int .u64 ((b / 18446744073709551616:Nat):Int))=some (.bool (decide (((a / 18446744073709551616:Nat):Int)<((b / 18446744073709551616:Nat):Int))))from rfl,bS]
 by_cases h1:a / 18446744073709551616<b / 18446744073709551616
 ·rw[decide_eq_true (show((a / 18446744073709551616:Nat):Int)<((b / 18446744073709551616:Nat):Int) by omega)]
  rw[decide_eq_true (show a<b by omega)]
  exact bC _ _
 rw[decide_eq_false (show ¬((a / 18446744073709551616:Nat):Int)<((b / 18446744073709551616:Nat):Int) by omega)]
 have hq:A.eql .i (.int .u64 ((a / 18446744073709551616:Nat):Int)) (.int .u64 ((b / 18446744073709551616:Nat):Int))=some (.bool (decide (((a / 18446744073709551616:Nat):Int)=((b / 18446744073709551616:Nat):Int)))):=by
  simp only[A.eql,A.ef,A.mJ,if_true,Option.map_some]
  congr 2
 simp only[gF,bS]
 rw[hq]
 by_cases h2:a / 18446744073709551616=b / 18446744073709551616
 ·rw[decide_eq_true (show((a / 18446744073709551616:Nat):Int)=((b / 18446744073709551616:Nat):Int) by omega)]
  simp only[gT,bS]
  rw[show A.aj 1 (wd a)=some (.int .u64 ((a % 18446744073709551616:Nat):Int))from rfl,bS,show A.aj 1 (wd b)=some (.int .u64 ((b % 18446744073709551616:Nat):Int))from rfl,bS,show A.lss (.int .u64 ((a % 18446744073709551616:Nat):Int)) (.int .u64 ((b % 18446744073709551616:Nat):Int))=some (.bool (decide (((a % 18446744073709551616:Nat):Int)<((b % 18446744073709551616:Nat):Int))))from rfl,bS]
  rw[show decide (((a % 18446744073709551616:Nat):Int)<((b % 18446744073709551616:Nat):Int))=decide (a<b)from decide_eq_decide.2 (by omega)]
  exact bC _ _
 ·rw[decide_eq_false (show ¬((a / 18446744073709551616:Nat):Int)=((b / 18446744073709551616:Nat):Int) by omega)]
  simp only[uw,bS]
  rw[decide_eq_false (show ¬a<b by omega)]
  exact bC _ _
end
section
set_option maxRecDepth 100000
open HP
theorem akZ {r:AV→AV→AV→AV→Heap→Option (AV×Heap)} {x y z t v:AV} {σ:Heap} (h:[x,y,z,t].any A.own=false) (e:r x y z t σ=some (v,σ)):A.wrap true [] .k (A.vC r) [x,y,z,t] σ=some (v,σ):=by
 refine wrap_eq h ?_ (iM _)
 rw[show A.bV [] [x,y,z,t]=[x,y,z,t] by simp [A.bV]]
 exact e
theorem Bq {a b:Nat} (h:a+b<9223372036854775808):A.add (.int .i64 (a:Int)) (.int .i64 (b:Int))=some (.int .i64 ((a+b:Nat):Int)):=by
 rw[kV,←Int.natCast_add,wrap64 (by unfold aP;omega)]
theorem ahx {a b:Nat} (h:a*b<9223372036854775808):A.mul (.int .i64 (a:Int)) (.int .i64 (b:Int))=some (.int .i64 ((a*b:Nat):Int)):=by
 rw[wF,←Int.natCast_mul,wrap64 (by unfold aP;omega)]
theorem PX {a b:Nat} (h:b≤a) (h2:a<9223372036854775808):A.sub (.int .i64 (a:Int)) (.int .i64 (b:Int))=some (.int .i64 ((a-b:Nat):Int)):=by
 rw[oW,wrap64 (by unfold aP;omega)];congr 2;omega
theorem YN {a:Nat} (h:a<9223372036854775808):A.quo (.int .i64 (a:Int)) (.int .i64 2)=some (.int .i64 ((a / 2:Nat):Int)):=by
 rw[aaQ _ _ (by decide),show((a:Int)).tdiv 2=((a / 2:Nat):Int)from by rw[Int.tdiv_eq_ediv_of_nonneg (by omega)];omega,wrap64 (by unfold aP;omega)]
def DT (a b:Int) (n d:Nat):Int:=if a≤b then a+((2*(b-a).toNat*n+d) / (2*d):Nat)else a-((2*(a-b).toNat*n+d-1) / (2*d):Nat)
theorem nA (n:Nat):A.cells 2 (.agg (wd n))=some (wd n):=rfl
theorem mS (n:Nat):A.ay 0 2 (wd n)=some (.agg (wd n)):=rfl
theorem oO (n:Nat):A.splice 0 (wd n) [(AV.int .u64 0),(AV.int .u64 0)]=some (wd n):=rfl
theorem MK (n:Nat):((A.lb (.lbx (wd n))).bind fun c=>A.ay 0 2 c)=some (.agg (wd n)):=rfl
theorem afw (k:Nat):A.mul (.int .i64 2) (.int .i64 (k:Int))=some (.int .i64 (IntKind.i64.wrap (2*(k:Int)))):=rfl
theorem Fj {k:Nat} (h:k<4611686018427387904):A.mul (.int .i64 2) (.int .i64 (k:Int))=some (.int .i64 ((2*k:Nat):Int)):=by
 rw[afw,wrap64 (by unfold aP;omega)];congr 2
theorem akU {d X K m:Nat} (hd:0<d) (hd2:d<100000000000000000000000000) (hm2:m≤65535) (hX:X≤200000*d) (hK:K≤m) (hle:∀k:Nat,k≤K↔d*(2*k)≤X) (σ:Heap):∃q,A.loop ((fun v12 sB=>
    (A.lss (v12.getD 2 AV.undef) (v12.getD 3 AV.undef)).bind fun dg=>
    A.cond dg (
     (A.add (v12.getD 2 AV.undef) (v12.getD 3 AV.undef)).bind fun cG=>
     (A.add cG aH).bind fun cB=>
     (A.quo cB (AV.int .i64 2)).bind fun bM=>
     ((A.lb (v12.getD 1 AV.undef)).bind fun gM=>A.ay 0 2 gM).bind fun cR=>
     ((A.lb (v12.getD 0 AV.undef)).bind fun kC=>A.ay 0 2 kC).bind fun dh=>
     (A.mul (AV.int .i64 2) bM).bind fun eP=>
     (A.quiet (p6 [dh,eP] sB) sB).bind fun x24=>
     (A.quiet (EP [cR,x24] sB) sB).bind fun x25=>
     (A.cond x25 (
      (A.sub bM aH).bind fun dL=>
      some ([(v12.getD 0 AV.undef),(v12.getD 1 AV.undef),(v12.getD 2 AV.undef),dL],sB)) (
      some ([(v12.getD 0 AV.undef),(v12.getD 1 AV.undef),bM,(v12.getD 3 AV.undef)],sB))).bind fun kj=>
     some (AX.normal,[(kj.1.getD 0 AV.undef),(kj.1.getD 1 AV.undef),(kj.1.getD 2 AV.undef),(kj.1.getD 3 AV.undef)],kj.2)) (
     some (AX.exit 0,[(v12.getD 0 AV.undef),(v12.getD 1 AV.undef),(v12.getD 2 AV.undef),(v12.getD 3 AV.undef)],sB)))) [.lbx (wd d),.lbx (wd X),.int .i64 0,.int .i64 (m:Int)] σ=some q∧∃w,q=(.exit 0,[.lbx (wd d),.lbx (wd X),.int .i64 (K:Int),w],σ):=by
 refine mm (fun z v w=>∃lo hi:Nat,v=[.lbx (wd d),.lbx (wd X),.int .i64 (lo:Int),.int .i64 (hi:Int)]∧w=σ∧z=hi-lo∧lo≤K∧K≤hi∧hi≤m) ?_ (n:=m) ⟨0,m,rfl,rfl,by omega,by omega,hK,Nat.le_refl _⟩
 rintro z v w ⟨lo,hi,rfl,rfl,hz,h1,h2,h3⟩
 simp only[List.getD_cons_zero,List.getD_cons_succ]
 rw[kN,bS]
 by_cases hlt:lo<hi
 ·rw[decide_eq_true (by omega),cW,Bq (by omega),bS,show A.add (.int .i64 ((lo+hi:Nat):Int)) (.int .i64 1)=some (.int .i64 ((lo+hi+1:Nat):Int))from Bq (b:=1) (by omega),bS,YN (by omega),bS,MK,bS,MK,bS,Fj (by omega),bS]
  generalize hk:(lo+hi+1) / 2=k
  have hk1:lo<k:=by omega
  have hk2:k≤hi:=by omega
  have hdk:d*(2*k)≤131070*d:=by rw[Nat.mul_comm];exact Nat.mul_le_mul (by omega) (Nat.le_refl _)
  rw[quiet_of (wq (by omega) (by omega) (by omega) w),bS,quiet_of (ZG X (d*(2*k)) w),bS]
  by_cases hc:X<d*(2*k)
  ·rw[decide_eq_true hc,cW,show A.sub (.int .i64 (k:Int)) (.int .i64 1)=some (.int .i64 ((k-1:Nat):Int))from PX (b:=1) (by omega) (by omega),bS,bS]
   have hnk:¬k≤K:=fun q=>by have:=(hle k).1 q;omega
   exact .inl ⟨k-1-lo,_,_,by omega,rfl,lo,k-1,rfl,rfl,rfl,h1,by omega,by omega⟩
  ·rw[decide_eq_false hc,cD,bS]
   have hkK:k≤K:=(hle k).2 (by omega)
   exact .inl ⟨hi-k,_,_,by omega,rfl,k,hi,rfl,rfl,rfl,hkK,h2,h3⟩
 ·rw[decide_eq_false (by omega),cD]
  refine .inr ⟨_,rfl,by simp,.int .i64 (hi:Int),?_⟩
  rw[show lo=K by omega]
theorem ajK {d X K m:Nat} (hd:0<d) (hd2:d<100000000000000000000000000) (hm2:m≤65535) (hX:X≤200000*d) (hK:K≤m) (hle:∀k:Nat,k<K↔d*(2*k+1)<X) (σ:Heap):∃q,A.loop ((fun jc sE=>
    (A.lss (jc.getD 2 AV.undef) (jc.getD 3 AV.undef)).bind fun eY=>
    A.cond eY (
     (A.add (jc.getD 2 AV.undef) (jc.getD 3 AV.undef)).bind fun dc=>
     (A.quo dc (AV.int .i64 2)).bind fun dV=>
     ((A.lb (jc.getD 0 AV.undef)).bind fun lQ=>A.ay 0 2 lQ).bind fun fB=>
     (A.mul (AV.int .i64 2) dV).bind fun eC=>
     (A.add eC aH).bind fun eo=>
     (A.quiet (p6 [fB,eo] sE) sE).bind fun fC=>
     ((A.lb (jc.getD 1 AV.undef)).bind fun iW=>A.ay 0 2 iW).bind fun gq=>
     (A.quiet (EP [fC,gq] sE) sE).bind fun eD=>
     (A.cond eD (
      (A.add dV aH).bind fun gQ=>
      some ([(jc.getD 0 AV.undef),(jc.getD 1 AV.undef),gQ,(jc.getD 3 AV.undef)],sE)) (
      some ([(jc.getD 0 AV.undef),(jc.getD 1 AV.undef),(jc.getD 2 AV.undef),dV],sE))).bind fun cZ=>
     some (AX.normal,[(cZ.1.getD 0 AV.undef),(cZ.1.getD 1 AV.undef),(cZ.1.getD 2 AV.undef),(cZ.1.getD 3 AV.undef)],cZ.2)) (
     some (AX.exit 2,[(jc.getD 0 AV.undef),(jc.getD 1 AV.undef),(jc.getD 2 AV.undef),(jc.getD 3 AV.undef)],sE)))) [.lbx (wd d),.lbx (wd X),.int .i64 0,.int .i64 (m:Int)] σ=some q∧∃w,q=(.exit 2,[.lbx (wd d),.lbx (wd X),.int .i64 (K:Int),w],σ):=by
 refine mm (fun z v w=>∃lo hi:Nat,v=[.lbx (wd d),.lbx (wd X),.int .i64 (lo:Int),.int .i64 (hi:Int)]∧w=σ∧z=hi-lo∧lo≤K∧K≤hi∧hi≤m) ?_ (n:=m) ⟨0,m,rfl,rfl,by omega,by omega,hK,Nat.le_refl _⟩
 rintro z v w ⟨lo,hi,rfl,rfl,hz,h1,h2,h3⟩
 simp only[List.getD_cons_zero,List.getD_cons_succ]
 rw[kN,bS]
 by_cases hlt:lo<hi
 ·rw[decide_eq_true (by omega),cW,Bq (by omega),bS,YN (by omega),bS,MK,bS,Fj (by omega),bS]
  generalize hk:(lo+hi) / 2=k
  have hk1:lo≤k:=by omega
  have hk2:k<hi:=by omega
  have hdk:d*(2*k+1)≤131071*d:=by rw[Nat.mul_comm];exact Nat.mul_le_mul (by omega) (Nat.le_refl _)
  rw[show A.add (.int .i64 ((2*k:Nat):Int)) (.int .i64 1)=some (.int .i64 ((2*k+1:Nat):Int))from Bq (b:=1) (by omega),bS,quiet_of (wq (by omega) (by omega) (by omega) w),bS,MK,bS,quiet_of (ZG (d*(2*k+1)) X w),bS]
  by_cases hc:d*(2*k+1)<X
  ·rw[decide_eq_true hc,cW,show A.add (.int .i64 (k:Int)) (.int .i64 1)=some (.int .i64 ((k+1:Nat):Int))from Bq (b:=1) (by omega),bS,bS]
   have hkK:k<K:=(hle k).2 hc
   exact .inl ⟨hi-(k+1),_,_,by omega,rfl,k+1,hi,rfl,rfl,rfl,by omega,h2,h3⟩
  ·rw[decide_eq_false hc,cD,bS]
   have hnk:¬k<K:=fun q=>hc ((hle k).1 q)
   exact .inl ⟨k-lo,_,_,by omega,rfl,lo,k,rfl,rfl,rfl,h1,by omega,by omega⟩
 ·rw[decide_eq_false (by omega),cD]
  refine .inr ⟨_,rfl,by simp,.int .i64 (hi:Int),?_⟩
  rw[show lo=K by omega]
theorem aji {a b:Int} (ha:0≤a) (ha2:a≤65535) (hb:0≤b) (yV:b≤65535) {n d:Nat} (hd:0<d) (hnd:n≤d) (hd2:d<100000000000000000000000000) (σ:Heap):Ov [.int .i64 a,.int .i64 b,.agg (wd n),.agg (wd d)] σ=some (.int .i64 (DT a b n d),σ):=by
 have run:∃q,Oz (.int .i64 a) (.int .i64 b) (.agg (wd n)) (.agg (wd d)) σ=some q∧q=(.int .i64 (DT a b n d),σ):=by
  unfold Oz DT
  rw[nA,bS,nA,bS,rQ,bS]
  by_cases hab:a≤b
  ·rw[decide_eq_true hab,cW,if_pos hab]
   obtain⟨m,hm⟩:∃m:Nat,b-a=m:=⟨(b-a).toNat,by omega⟩
   have hm2:m≤65535:=by omega
   have b1:2*m*n≤131070*d:=Nat.mul_le_mul (by omega) hnd
   have b2:n*(2*m)=2*m*n:=Nat.mul_comm _ _
   rw[oW,wrap64 (by unfold aP;omega),hm,bS,mS,bS,Fj (by omega),bS,quiet_of (wq (by omega) (by omega) (by omega) σ),bS,mS,bS,quiet_of (alD (by omega) σ),bS,nA,bS,oO,bS]
   rw[Int.toNat_natCast,b2]
   generalize hX:2*m*n+d=X
   have hK:X / (2*d)≤m:=by
    refine Nat.lt_succ_iff.1 ((Nat.div_lt_iff_lt_mul (by omega)).2 ?_)
    have:m*n≤m*d:=Nat.mul_le_mul (Nat.le_refl _) hnd
    have e1:2*m*n=2*(m*n):=Nat.mul_assoc _ _ _
    have e2:(m+1)*(2*d)=2*(m*d)+2*d:=by rw[Nat.add_mul,Nat.mul_left_comm];omega
    show X<(m+1)*(2*d)
    omega
   generalize Tw:X / (2*d)=K at hK
   have hle:∀k:Nat,k≤K↔d*(2*k)≤X:=fun k=>by
    rw[←Tw,Nat.le_div_iff_mul_le (by omega),show k*(2*d)=d*(2*k) by rw[Nat.mul_left_comm,Nat.mul_left_comm d];congr 1;exact Nat.mul_comm _ _]
   refine FN (akU hd hd2 hm2 (by omega) hK hle σ) ?_
   ·rintro q ⟨w,rfl⟩
    simp only[l9,List.getD_cons_zero,List.getD_cons_succ]
    rw[kV,wrap64 (by unfold aP;omega),bS]
    exact⟨_,bC _ _,rfl⟩
  ·rw[decide_eq_false hab,cD,if_neg hab]
   obtain⟨m,hm⟩:∃m:Nat,a-b=m:=⟨(a-b).toNat,by omega⟩
   have hm2:m≤65535:=by omega
   have b1:2*m*n≤131070*d:=Nat.mul_le_mul (by omega) hnd
   have b2:n*(2*m)=2*m*n:=Nat.mul_comm _ _
   rw[oW,wrap64 (by unfold aP;omega),hm,bS,mS,bS,Fj (by omega),bS,wq (by omega) (by omega) (by omega) σ,bS,nA,bS,oO,bS]
   rw[Int.toNat_natCast,b2]
   generalize hX:2*m*n=X
   have hK:(X+d-1) / (2*d)≤m:=by
    refine Nat.lt_succ_iff.1 ((Nat.div_lt_iff_lt_mul (by omega)).2 ?_)
    have:m*n≤m*d:=Nat.mul_le_mul (Nat.le_refl _) hnd
    have e1:2*m*n=2*(m*n):=Nat.mul_assoc _ _ _
    have e2:(m+1)*(2*d)=2*(m*d)+2*d:=by rw[Nat.add_mul,Nat.mul_left_comm];omega
    show X+d-1<(m+1)*(2*d)
    omega
   generalize Tw:(X+d-1) / (2*d)=K at hK
   have hle:∀k:Nat,k<K↔d*(2*k+1)<X:=fun k=>by
    have q:=Nat.le_div_iff_mul_le (k:=2*d) (x:=k+1) (y:=X+d-1) (by omega)
    rw[Tw]at q
    have e:(k+1)*(2*d)=d*(2*k+1)+d:=by rw[Nat.mul_add,Nat.add_mul,Nat.mul_left_comm,Nat.mul_left_comm d];rw[Nat.mul_comm k d];omega
    constructor
    ·intro h;have:=q.1 h;omega
    ·intro h;exact q.2 (by omega)
   refine FN (ajK hd hd2 hm2 (by omega) hK hle σ) ?_
   ·rintro q ⟨w,rfl⟩
    simp only[l9,List.getD_cons_zero,List.getD_cons_succ]
    rw[oW,wrap64 (by unfold aP;omega),bS]
    exact⟨_,bC _ _,rfl⟩
 obtain⟨q,h1,rfl⟩:=run
 exact akZ rfl h1
end
section
set_option maxRecDepth 100000
noncomputable def G9 (a0:Int) (a1:Int):Option Int:=
 (IK a0 a1).bind fun x1=>
 (IL a0 a1).bind fun x2=>
 (show Option Int from
   if x2<0 then
    some (IntKind.i64.wrap (x1-1))
   else
   some x1).bind fun j4=>
 some j4
theorem aen {a0:Int} {a1:Int} {σ:Heap} {r:Int} (h:G9 a0 a1=some r):ON [(AV.int .i64 a0),(AV.int .i64 a1)] σ=some ((AV.int .i64 r),σ):=by
 refine uR (f:=OV) (y0:=(AV.int .i64 a0)) (y1:=(AV.int .i64 a1)) (enc:=fun r:Int=>(AV.int .i64 r)) (T:=G9 a0 a1) rfl rfl ?_ r h
 unfold OV G9
 refine lg (fun x1:Int=>(AV.int .i64 x1)) (fun x1 hx1=>alF hx1) (fun x1 hx1=>?_)
 refine lg (fun x2:Int=>(AV.int .i64 x2)) (fun x2 hx2=>alH hx2) (fun x2 hx2=>?_)
 refine aq _ rfl ?_
 refine MX (ω:=Int) (fun j4 a=>a=(([(AV.int .i64 j4)]:List AV),σ)) (
   by
    refine kZ (p:=x2<0) (fun c3=>?_) (fun c3=>?_)
    ·refine aq _ rfl ?_
     exact cg rfl
    exact cg rfl
   ) (fun j4 a ha=>?_)
 subst ha
 exact eF _ (bC _ _) ⟨rfl,rfl⟩
noncomputable def He (a0:Int) (a1:Int):Option Int:=
 (G9 (IntKind.i64.wrap (IntKind.i64.wrap (2*a0)+a1)) (IntKind.i64.wrap (2*a1))).bind fun r1=>
 some r1
theorem aeo {a0:Int} {a1:Int} {σ:Heap} {r:Int} (h:He a0 a1=some r):OO [(AV.int .i64 a0),(AV.int .i64 a1)] σ=some ((AV.int .i64 r),σ):=by
 refine uR (f:=OW) (y0:=(AV.int .i64 a0)) (y1:=(AV.int .i64 a1)) (enc:=fun r:Int=>(AV.int .i64 r)) (T:=He a0 a1) rfl rfl ?_ r h
 unfold OW He
 refine aq _ rfl<|aq _ rfl<|aq _ rfl ?_
 refine lg (fun r1:Int=>((AV.int .i64 r1),σ)) (fun r1 kQ=>aen kQ) (fun r1 kQ=>?_)
 exact eF _ (bC _ _) ⟨rfl,rfl⟩
noncomputable def Kt (a0:Int):Option Bool:=
 some (aR a0 0 36000000)
theorem G3 {a0:Int} {σ:Heap} {r:Bool} (h:Kt a0=some r):CO [(AV.int .i64 a0)] σ=some ((AV.bool r),σ):=by
 refine yp (f:=Ox) (y0:=(AV.int .i64 a0)) (enc:=fun r:Bool=>(AV.bool r)) (T:=Kt a0) rfl rfl ?_ r h
 unfold Ox Kt
 refine aq _ (jT a0 0 36000000 σ) ?_
 exact eF _ (bC _ _) ⟨rfl,rfl⟩
noncomputable def CP (a0:(List Int)):Option Int:=
 kX a0 (fun(i8:Nat) e7 (s1:Unit)=>(show Option (Lr Unit Unit Int)from
   if(!(aR e7 0 65535))=true then
    some (.ret 1)
   else
   some (.go ()))) (fun s1=>some ()) () (fun b2=>
  some 0) (fun b2=>
  some b2)
theorem US {a0:(List Int)} {σ:Heap} {r:Int} (h:CP a0=some r):Kq [(sl 1 rS a0)] σ=some ((AV.int .i64 r),σ):=by
 refine yp (f:=Oy) (y0:=(sl 1 rS a0)) (enc:=fun r:Int=>(AV.int .i64 r)) (T:=CP a0) rfl rfl ?_ r h
 unfold Oy CP
 refine aq _ (fL _ _ _) ?_
 refine qv (B:=Unit) (R:=Int) (fun(i8:Nat) (s1:Unit) v w3=>v=[ah,(AV.int .i64 (i8:Int))]∧σ=w3) (fun(b2:Unit) (q:LS)=>∃u2 u7,q=((AX.exit 0),([u2,u7]:List AV),σ)) (fun(b2:Int) (q:LS)=>∃u7,q=(AX.ret,([(AV.int .i64 b2),u7]:List AV),σ)) ?_ ?_ ⟨rfl,rfl⟩ ?_ ?_
 ·intro Aq i8 e7 s1 v w3 nW hI
  obtain⟨rfl,rfl⟩:=hI
  refine aq _ (jr nW)<|qA<|aq _ (iQ nW)<|aq _ rfl<|aq _ (ae3 e7 σ)<|aq _ rfl ?_
  refine ji (c:=(!(aR e7 0 65535))) (fun c9=>?_) (fun c9=>?_)
  ·exact cg (iy (by simp) ⟨_,rfl⟩)
  refine aq _ (fU nW Aq) ?_
  exact cg (qw ⟨rfl,rfl⟩)
 ·intro hl s1 v w3 hI
  obtain⟨rfl,rfl⟩:=hI
  refine aq _ (jq _)<|qz ?_
  exact cg ⟨by simp,⟨_,_,rfl⟩⟩
 ·intro hl b2 q hq
  obtain⟨u2,u7,rfl⟩:=hq
  refine jW rfl ?_
  exact eF _ (bC _ _) ⟨rfl,rfl⟩
 ·intro hl b2 q hq
  obtain⟨u7,rfl⟩:=hq
  refine vg rfl<|jW rfl ?_
  exact eF _ (bC _ _) ⟨rfl,rfl⟩
noncomputable def GU (a0:gE):Option Int:=
 (CP ([a0.dw,a0.to]:(List Int))).bind fun r1=>
 if ¬(r1=0)then
  some r1
 else
 if((((!((aR a0.start 0 36000000)))||(!((aR a0.delay 0 36000000))))||(!((aR a0.time 0 36000000))))||(!((aR (IntKind.i64.wrap (IntKind.i64.wrap (a0.start+a0.delay)+a0.time)) 0 36000000))))=true then
  some 1
 else
 some (oN a0.fq)
theorem acW {a0:gE} {σ:Heap} {r:Int} (h:GU a0=some r):N7 [(AV.agg (fF a0))] σ=some ((AV.int .i64 r),σ):=by
 refine yp (f:=N9) (y0:=(AV.agg (fF a0))) (enc:=fun r:Int=>(AV.int .i64 r)) (T:=GU a0) rfl rfl ?_ r h
 unfold N9 GU
 refine aq _ rfl<|aq _ rfl<|aq _ rfl<|aq (sl 1 rS ([a0.dw,a0.to]:(List Int))) rfl ?_
 refine lg (fun r1:Int=>((AV.int .i64 r1),σ)) (fun r1 kQ=>US kQ) (fun r1 kQ=>?_)
 refine aq _ (fW _ _ _) ?_
 refine kZ (p:=¬(r1=0)) (fun c3=>?_) (fun c3=>?_)
 ·exact eF _ (bC _ _) ⟨rfl,rfl⟩
 refine aq _ rfl<|aq _ (G3 (σ:=σ) (r:=(aR a0.start 0 36000000)) rfl)<|aq _ rfl<|eG (AV.int .i64 a0.delay) (fun hg=>rfl)<|eG (AV.bool ((aR a0.delay 0 36000000))) (fun hg=>by(try rw[hg]);exact(quiet_of (G3 (σ:=σ) (r:=(aR a0.delay 0 36000000)) rfl)))<|eG (AV.bool (!((aR a0.delay 0 36000000)))) (fun hg=>by(try rw[hg]);exact rfl)<|aq _ (oU _ _)<|eG (AV.int .i64 a0.time) (fun hg=>rfl)<|eG (AV.bool ((aR a0.time 0 36000000))) (fun hg=>by(try rw[hg]);exact(quiet_of (G3 (σ:=σ) (r:=(aR a0.time 0 36000000)) rfl)))<|eG (AV.bool (!((aR a0.time 0 36000000)))) (fun hg=>by(try rw[hg]);exact rfl)<|aq _ (oU _ _)<|eG (AV.int .i64 a0.start) (fun hg=>rfl)<|eG (AV.int .i64 a0.delay) (fun hg=>rfl)<|eG (AV.int .i64 (IntKind.i64.wrap (a0.start+a0.delay))) (fun hg=>by(try rw[hg]);exact rfl)<|eG (AV.int .i64 a0.time) (fun hg=>rfl)<|eG (AV.int .i64 (IntKind.i64.wrap (IntKind.i64.wrap (a0.start+a0.delay)+a0.time))) (fun hg=>by(try rw[hg]);exact rfl)<|eG (AV.bool ((aR (IntKind.i64.wrap (IntKind.i64.wrap (a0.start+a0.delay)+a0.time)) 0 36000000))) (fun hg=>by(try rw[hg]);exact(quiet_of (G3 (σ:=σ) (r:=(aR (IntKind.i64.wrap (IntKind.i64.wrap (a0.start+a0.delay)+a0.time)) 0 36000000)) rfl)))<|eG (AV.bool (!((aR (IntKind.i64.wrap (IntKind.i64.wrap (a0.start+a0.delay)+a0.time)) 0 36000000)))) (fun hg=>by(try rw[hg]);exact rfl)<|aq _ (oU _ _) ?_
 refine ji (c:=((((!((aR a0.start 0 36000000)))||(!((aR a0.delay 0 36000000))))||(!((aR a0.time 0 36000000))))||(!((aR (IntKind.i64.wrap (IntKind.i64.wrap (a0.start+a0.delay)+a0.time)) 0 36000000))))) (fun c2=>?_) (fun c2=>?_)
 ·exact eF _ (bC _ _) ⟨rfl,rfl⟩
 refine aq _ rfl<|aq _ (U0 a0.fq σ) ?_
 exact eF _ (bC _ _) ⟨rfl,rfl⟩
noncomputable def G7 (a0:Int) (a1:Int):Option (Int×Int):=
 (CP ([a0,a1]:(List Int))).bind fun r1=>
 if ¬(r1=0)then
  some (0,r1)
 else
 (He (IntKind.i64.wrap (a0*a1)) 65535).bind fun r2=>
 some (r2,0)
theorem adX {a0:Int} {a1:Int} {σ:Heap} {r:(Int×Int)} (h:G7 a0 a1=some r):CQ [(AV.int .i64 a0),(AV.int .i64 a1)] σ=some ((AV.aG [(AV.int .i64 r.1),(AV.int .i64 r.2)]),σ):=by
 refine uR (f:=OH) (y0:=(AV.int .i64 a0)) (y1:=(AV.int .i64 a1)) (enc:=fun r:(Int×Int)=>(AV.aG [(AV.int .i64 r.1),(AV.int .i64 r.2)])) (T:=G7 a0 a1) rfl rfl ?_ r h
 unfold OH G7
 refine aq (sl 1 rS ([a0,a1]:(List Int))) rfl ?_
 refine lg (fun r1:Int=>((AV.int .i64 r1),σ)) (fun r1 kQ=>US kQ) (fun r1 kQ=>?_)
 refine aq _ (fW _ _ _) ?_
 refine kZ (p:=¬(r1=0)) (fun c3=>?_) (fun c3=>?_)
 ·exact eF _ (bC _ _) ⟨rfl,rfl⟩
 refine aq _ rfl ?_
 refine lg (fun r2:Int=>((AV.int .i64 r2),σ)) (fun r2 tg=>aeo tg) (fun r2 tg=>?_)
 exact eF _ (bC _ _) ⟨rfl,rfl⟩
end
end Go.Proofs.YtooknfkholjpbaaGreat
