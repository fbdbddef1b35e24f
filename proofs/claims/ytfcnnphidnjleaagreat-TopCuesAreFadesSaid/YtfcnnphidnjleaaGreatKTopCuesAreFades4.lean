/- Parts of the proof of TopCuesAreFades, in order. -/
import Derived.Orders
import Derived.Below
import Derived.WalkKit
import Derived.Laws.StructEq
import Derived.Laws.Append
import Derived.Laws.AppendOwn
import Derived.Test.YtfcnnphidnjleaaGreatRows
import Derived.KernelRfl
import Derived.Lib.Bytealg
import Derived.Sort.Defs
import Derived.Lib.BitFns
import Derived.Test.YtfcnnphidnjleaaGreatShelf
import Derived.Laws.Externs
import Derived.Lib.Overlaps
import Derived.IntWalk
import Derived.Sort.Statements
import Derived.Shelf.SlSortCmp.WholeK
import Derived.Shelf.SlSortCmp.NoneTotal
import Derived.Sort.AssemblyPlain
import Derived.Lib.Strings
import Derived.Test.YtfcnnphidnjleaaGreatKTopCuesAreFades3
namespace Go.Proofs.YtfcnnphidnjleaaGreat
set_option linter.unusedVariables false
set_option linter.unusedSimpArgs false
set_option linter.unusedSectionVars false
section
set_option maxRecDepth 100000
noncomputable def agf:Fx:=⟨Tryz.prog,aG,A.tab (fun _ _=>none) [(63,KN (A.tab (fun _ _=>none) [(127,HL)]))],(A.tab (fun _ _=>none) [(127,HL)]),[2,4],[],19,[]⟩
theorem agc:Sound Tryz.prog aG 31 (A.wrap true Cw (.t [(.a [.k,(.e 11 tK)]),.k]) (A.bQ (LL))):=
 Sound.wrap (Sound.nW (X:=agf) (fn:=Tryz.f31) (bL:=(.s .n (.s .n (.s bu aT)))) .F trivial (dB.of rfl (aC.cons (acJ _ (oO (gL.cons (mL VI (by kernel_rfl) rfl) gL.nil))) aC.nil) (oO (gL.cons (mL VI (by kernel_rfl) rfl) gL.nil))) Tryz.func31 Tryz.call31 (fun a0 a1 σ=>by kernel_rfl)) _ _ _ rfl rfl
theorem Ww:Sound Tryz.prog aG 31 BS:=agc
theorem adL:Sound Tryz.prog aG 28 KZ:=q1 [1,5,8,9] 107 (.s .n (.s (.s .n bu) (.s (.s .n (.b (.l [1,2,29] [.exit 0,.ret] (.s .n (.s dN (.s (.b (.s .n (.s bu (.s bu (.s .n bu))))) .n)))))) (.s bu (.s (.s .n (.b (.l [1,2,70] [.exit 2,.ret] (.s .n (.s dN (.s (.b (.s .n (.s bu (.s bu (.s (.s .n bu) bu))))) .n)))))) aT))))) (aC.cons Vj (aC.cons zW (aC.cons Dp (aC.cons rN (aC.cons aec (aC.cons Ww aC.nil)))))) Tryz.func28 Tryz.call28 (fun a0 σ=>by kernel_rfl) rfl rfl
noncomputable def acO:Fx:=⟨Tryz.prog,aG,A.tab (fun _ _=>none) [],(fun _ _ _=>none),[],[],8,[]⟩
theorem acL:Sound Tryz.prog aG 56 (A.wrap true [(.s 3)] .k (A.dH (Oy))):=
 Sound.wrap (Sound.xK (X:=acO) (fn:=Tryz.f56) (bL:=(.s .n (.s bu aT))) .K trivial (dB.of rfl aC.nil (fun _=>Sound.none)) Tryz.func56 Tryz.call56 (fun a0 σ=>by kernel_rfl)) _ _ _ rfl rfl
theorem acI:Sound Tryz.prog aG 56 Ox:=zV acL Tryz.call56 afz
noncomputable def adg:Fx:=⟨Tryz.prog,aG,A.tab (fun _ _=>none) [],(fun _ _ _=>none),[],[],8,[]⟩
theorem ade:Sound Tryz.prog aG 57 (A.wrap true [(.s 4)] .k (A.dH (OE))):=
 Sound.wrap (Sound.xK (X:=adg) (fn:=Tryz.f57) (bL:=(.s .n (.s bu aT))) .K trivial (dB.of rfl aC.nil (fun _=>Sound.none)) Tryz.func57 Tryz.call57 (fun a0 σ=>by kernel_rfl)) _ _ _ rfl rfl
theorem ada:Sound Tryz.prog aG 57 OB:=zV ade Tryz.call57 akb
noncomputable def ac5:Fx:=⟨Tryz.prog,aG,A.tab (fun _ _=>none) [],(fun _ _ _=>none),[],[],8,[]⟩
theorem ac2:Sound Tryz.prog aG 58 (A.wrap true [(.s 7)] .k (A.dH (U6))):=
 Sound.wrap (Sound.xK (X:=ac5) (fn:=Tryz.f58) (bL:=(.s .n (.s bu aT))) .K trivial (dB.of rfl aC.nil (fun _=>Sound.none)) Tryz.func58 Tryz.call58 (fun a0 σ=>by kernel_rfl)) _ _ _ rfl rfl
theorem ac0:Sound Tryz.prog aG 58 Fj:=zV ac2 Tryz.call58 aiS
noncomputable def acV:Fx:=⟨Tryz.prog,aG,A.tab (fun _ _=>none) [],(fun _ _ _=>none),[],[],8,[]⟩
theorem acT:Sound Tryz.prog aG 59 (A.wrap true [(.s 3)] .k (A.dH (Oz))):=
 Sound.wrap (Sound.xK (X:=acV) (fn:=Tryz.f59) (bL:=(.s .n (.s bu aT))) .K trivial (dB.of rfl aC.nil (fun _=>Sound.none)) Tryz.func59 Tryz.call59 (fun a0 σ=>by kernel_rfl)) _ _ _ rfl rfl
theorem acR:Sound Tryz.prog aG 59 Fg:=zV acT Tryz.call59 agt
noncomputable def adn:Fx:=⟨Tryz.prog,aG,A.tab (fun _ _=>none) [],(fun _ _ _=>none),[],[],8,[]⟩
theorem adl:Sound Tryz.prog aG 60 (A.wrap true [(.s 11)] .k (A.dH (U9))):=
 Sound.wrap (Sound.xK (X:=adn) (fn:=Tryz.f60) (bL:=(.s .n (.s bu aT))) .K trivial (dB.of rfl aC.nil (fun _=>Sound.none)) Tryz.func60 Tryz.call60 (fun a0 σ=>by kernel_rfl)) _ _ _ rfl rfl
theorem adk:Sound Tryz.prog aG 60 Dd:=zV adl Tryz.call60 alH
noncomputable def adf:Fx:=⟨Tryz.prog,aG,A.tab (fun _ _=>none) [],(fun _ _ _=>none),[],[],8,[]⟩
theorem adb:Sound Tryz.prog aG 61 (A.wrap true [(.s 8)] .k (A.dH (OD))):=
 Sound.wrap (Sound.xK (X:=adf) (fn:=Tryz.f61) (bL:=(.s .n (.s bu aT))) .K trivial (dB.of rfl aC.nil (fun _=>Sound.none)) Tryz.func61 Tryz.call61 (fun a0 σ=>by kernel_rfl)) _ _ _ rfl rfl
theorem ac9:Sound Tryz.prog aG 61 Dc:=zV adb Tryz.call61 aka
noncomputable def ac6:Fx:=⟨Tryz.prog,aG,A.tab (fun _ _=>none) [],(fun _ _ _=>none),[],[],8,[]⟩
theorem ac3:Sound Tryz.prog aG 62 (A.wrap true [(.s 2)] .k (A.dH (OA))):=
 Sound.wrap (Sound.xK (X:=ac6) (fn:=Tryz.f62) (bL:=(.s .n (.s bu aT))) .K trivial (dB.of rfl aC.nil (fun _=>Sound.none)) Tryz.func62 Tryz.call62 (fun a0 σ=>by kernel_rfl)) _ _ _ rfl rfl
theorem ac1:Sound Tryz.prog aG 62 Db:=zV ac3 Tryz.call62 aiT
theorem aeW:Sound Tryz.prog aG 29 Ll:=q1 [1,2,3,5,8,10] 129 (.s .n (.s .n (.s .n (.s (.s .n (.b (.l [1,2,3,27] [.exit 0] (.s .n (.s dN (.s (.b (.s .n (.s .n (.s (.s .n (.b (.l [1,2,3,5,38] [.exit 2] (.s .n (.s dN (.s (.b aT) .n)))))) .n)))) .n)))))) (.s (.s .n (.b (.l [1,2,3,66] [.exit 4] (.s .n (.s dN (.s (.b (.s .n aT)) .n)))))) (.s (.s .n (.b (.l [2,3,84] [.exit 6] (.s .n (.s dN (.s (.b (.s .n (.s .n (.s (.s .n (.b (.l [2,3,10,95] [.exit 8] (.s .n (.s dN (.s (.b (.s .n aT)) .n)))))) .n)))) .n)))))) aT)))))) (aC.cons (Sound.jr acI (.s 3) rfl) (aC.cons (Sound.jr ada (.s 4) rfl) (aC.cons ac0 (aC.cons (Sound.jr U7 (.s 3) rfl) (aC.cons (Sound.jr acR (.s 3) rfl) (aC.cons adk (aC.cons (Sound.jr ac9 (.s 8) rfl) (aC.cons (Sound.jr ac1 (.s 2) rfl) aC.nil)))))))) Tryz.func29 Tryz.call29 (fun a0 σ=>by kernel_rfl) rfl rfl
noncomputable def ahq:Fx:=⟨Tryz.prog,aG,A.tab (fun _ _=>none) [(28,KZ),(29,Ll),(30,Fw),(31,BS)],(fun _ _ _=>none),[1,8,10,12,14,15],[27],119,[]⟩
theorem ahp:Sound Tryz.prog aG 11 (A.wrap true Cw .k (A.dH (Ij))):=
 Sound.wrap (Sound.xK (X:=ahq) (fn:=Tryz.f11) (bL:=(.s .n (.s (.s .n bu) (.s .n (.s .n (.s .n (.s .n (.s .n (.s (.s .n (.b (.l [1,46] [.exit 0] (.s .n (.s dN (.s (.b aT) .n)))))) (.s (.s .n (.b (.l [1,59] [.exit 2] (.s .n (.s dN (.s (.b (.s .n (.s .n (.b (.l [1,10,69] [.exit 4] (.s .n (.s dN (.s (.b aT) .n)))))))) .n)))))) (.s (.s .n (.b (.l [1,88] [.exit 6] (.s .n (.s dN (.s (.b (.s .n aT)) .n)))))) aT))))))))))) .K trivial (dB.of rfl (aC.cons adL (aC.cons aeW (aC.cons PD (aC.cons Ww aC.nil)))) (fun _=>Sound.none)) Tryz.func11 Tryz.call11 (fun a0 σ=>by kernel_rfl)) _ _ _ rfl rfl
theorem ag9:Sound Tryz.prog aG 11 Dr:=ahp
theorem adD:Sound Tryz.prog aG 32 KV:=q1 [1] 53 (.s .n (.s bu (.s .n (.s .n (.s bu aT))))) (aC.cons rN aC.nil) Tryz.func32 Tryz.call32 (fun a0 σ=>by kernel_rfl) rfl rfl
theorem VW:Sound Tryz.prog aG 33 HS:=q1 [] 5 (.s .n aT) (aC.cons rN aC.nil) Tryz.func33 Tryz.call33 (fun a0 σ=>by kernel_rfl) rfl rfl
theorem VB:Sound Tryz.prog aG 34 Fp:=q1 [] 22 (.s .n (.s bu aT)) aC.nil Tryz.func34 Tryz.call34 (fun a0 σ=>by kernel_rfl) rfl rfl
noncomputable def acu (dyn:Nat→List AV→Heap→Option (AV×Heap)):Fx:=⟨Tryz.prog,aG,A.tab (fun _ _=>none) [],dyn,[],[],19,[]⟩
theorem acs (dyn:Nat→List AV→Heap→Option (AV×Heap)) (hd:∀f,Sound Tryz.prog aG f (dyn (aG.getD f 0))):Sound Tryz.prog aG 93 (A.wrap true [(.s 3)] .k (A.bQ (KH dyn))):=
 Sound.wrap (Sound.nW (X:=acu dyn) (fn:=Tryz.f93) (bL:=(.s .n (.s (.s .n (.b (.l [4,8] [.exit 0,.ret] (.s .n (.s dN (.s (.b (.s .n bu)) .n)))))) aT))) .F trivial (dB.of rfl aC.nil (hd)) Tryz.func93 Tryz.call93 (fun a0 a1 σ=>by kernel_rfl)) _ _ _ rfl rfl
theorem acr (dyn:Nat→List AV→Heap→Option (AV×Heap)) (hd:∀f,Sound Tryz.prog aG f (dyn (aG.getD f 0))):Sound Tryz.prog aG 93 (KG dyn):=acs dyn hd
noncomputable def acn (dyn:Nat→List AV→Heap→Option (AV×Heap)):Fx:=⟨Tryz.prog,aG,A.tab (fun _ _=>none) [(93,KG dyn)],dyn,[],[],9,[]⟩
theorem acm (dyn:Nat→List AV→Heap→Option (AV×Heap)) (hd:∀f,Sound Tryz.prog aG f (dyn (aG.getD f 0))):Sound Tryz.prog aG 65 (A.wrap true [(.s 3)] .k (A.bQ (KF dyn))):=
 Sound.wrap (Sound.nW (X:=acn dyn) (fn:=Tryz.f65) (bL:=(.s .n aT)) .F trivial (dB.of rfl (aC.cons (acr dyn hd) aC.nil) (hd)) Tryz.func65 Tryz.call65 (fun a0 a1 σ=>by kernel_rfl)) _ _ _ rfl rfl
theorem ack (dyn:Nat→List AV→Heap→Option (AV×Heap)) (hd:∀f,Sound Tryz.prog aG f (dyn (aG.getD f 0))):Sound Tryz.prog aG 65 (KE dyn):=acm dyn hd
theorem Va:Sound Tryz.prog aG 66 Hy:=q2 [2] 9 (.s .n aT) aC.nil Tryz.func66 Tryz.call66 (fun a0 a1 σ=>by kernel_rfl) rfl rfl
noncomputable def adG:Fx:=⟨Tryz.prog,aG,A.tab (fun _ _=>none) [(65,KE (A.tab (fun _ _=>none) [(152,Hy)])),(22,jG),(15,qE)],(A.tab (fun _ _=>none) [(152,Hy)]),[2],[],36,[]⟩
theorem adF:Sound Tryz.prog aG 35 (A.wrap true Cw .k (A.bQ (KX))):=
 Sound.wrap (Sound.nW (X:=adG) (fn:=Tryz.f35) (bL:=(.s .n (.s .n (.s bu (.s .n (.s (.s .n (.b (.s .n (.c [6] .n (.s .n (.c [6] .n .n)))))) aT)))))) .F trivial (dB.of rfl (aC.cons (ack _ (oO (gL.cons (mL Va (by kernel_rfl) rfl) gL.nil))) (aC.cons rN (aC.cons zW aC.nil))) (oO (gL.cons (mL Va (by kernel_rfl) rfl) gL.nil))) Tryz.func35 Tryz.call35 (fun a0 a1 σ=>by kernel_rfl)) _ _ _ rfl rfl
theorem adE:Sound Tryz.prog aG 35 KW:=adF
noncomputable def acZ:Fx:=⟨Tryz.prog,aG,A.tab (fun _ _=>none) [],(fun _ _ _=>none),[],[],8,[]⟩
theorem acY:Sound Tryz.prog aG 42 (A.wrap false [] .k (A.dH (Fi))):=
 Sound.wrap (Sound.xK (X:=acZ) (fn:=Tryz.f42) (bL:=(.s .n (.s bu aT))) .K trivial (dB.of rfl aC.nil (fun _=>Sound.none)) Tryz.func42 Tryz.call42 (fun a0 σ=>by kernel_rfl)) _ _ _ rfl rfl
theorem acX:Sound Tryz.prog aG 42 Fh:=zV acY Tryz.call42 aiV
theorem ad0:Sound Tryz.prog aG 43 BP:=q1 [] 31 (.s .n (.s bu aT)) aC.nil Tryz.func43 Tryz.call43 (fun a0 σ=>by kernel_rfl) rfl rfl
theorem Le:Sound Tryz.prog aG 71 wF:=q2 [2] 16 (.s .n (.s bu aT)) aC.nil Tryz.func71 Tryz.call71 (fun a0 a1 σ=>by kernel_rfl) rfl rfl
noncomputable def aci (dyn:Nat→List AV→Heap→Option (AV×Heap)):Fx:=⟨Tryz.prog,aG,A.tab (fun _ _=>none) [],dyn,[],[],49,[]⟩
theorem ach (dyn:Nat→List AV→Heap→Option (AV×Heap)) (hd:∀f,Sound Tryz.prog aG f (dyn (aG.getD f 0))):Sound Tryz.prog aG 110 (A.wrap true [(.s 11)] .k (A.ko (Ff dyn))):=
 Sound.wrap (Sound.GY (X:=aci dyn) (fn:=Tryz.f110) (bL:=(.s .n (.s .n (.s .n (.s (.b (.l [9,10] [.exit 0] (.s (.s .n dN) (.b (.s .n (.s .n (.c [9,10] .n .n))))))) aT))))) .F trivial (dB.of rfl aC.nil (hd)) Tryz.func110 Tryz.call110 (fun a0 a1 a2 σ=>by kernel_rfl)) _ _ _ rfl rfl
theorem acg (dyn:Nat→List AV→Heap→Option (AV×Heap)) (hd:∀f,Sound Tryz.prog aG f (dyn (aG.getD f 0))):Sound Tryz.prog aG 110 (Fe dyn):=ach dyn hd
theorem VH:Sound Tryz.prog aG 111 Di:=q2 [2] 9 (.s .n aT) aC.nil Tryz.func111 Tryz.call111 (fun a0 a1 σ=>by kernel_rfl) rfl rfl
noncomputable def age:Fx:=⟨Tryz.prog,aG,A.tab (fun _ _=>none) [(110,Fe (A.tab (fun _ _=>none) [(177,Di)]))],(A.tab (fun _ _=>none) [(177,Di)]),[],[],11,[]⟩
theorem agb:Sound Tryz.prog aG 96 (A.wrap true [(.e 11 tK)] .k (A.bQ (LJ))):=
 Sound.wrap (Sound.nW (X:=age) (fn:=Tryz.f96) (bL:=(.s .n aT)) .F trivial (dB.of rfl (aC.cons (acg _ (oO (gL.cons (mL VH (by kernel_rfl) rfl) gL.nil))) aC.nil) (oO (gL.cons (mL VH (by kernel_rfl) rfl) gL.nil))) Tryz.func96 Tryz.call96 (fun a0 a1 σ=>by kernel_rfl)) _ _ _ rfl rfl
theorem af2:Sound Tryz.prog aG 96 FI:=agb
theorem af3:Sound Tryz.prog aG 97 HZ:=q1 [5,7] 40 (.s .n (.s .n (.s (.s .n (.b (.l [11] [.exit 0] (.s .n (.s dN (.s (.b (.s .n (.s .n (.b (.l [5,18] [.exit 2] (.s .n (.s dN (.s (.b (.s .n (.s .n (.c [5] .n .n)))) .n)))))))) .n)))))) aT))) aC.nil Tryz.func97 Tryz.call97 (fun a0 σ=>by kernel_rfl) rfl rfl
theorem aed:Sound Tryz.prog aG 99 VD:=q2 [2,3] 10 (.s .n aT) (aC.cons VU aC.nil) Tryz.func99 Tryz.call99 (fun a0 a1 σ=>by kernel_rfl) rfl rfl
noncomputable def agd:Fx:=⟨Tryz.prog,aG,A.tab (fun _ _=>none) [(92,Ig),(96,FI),(97,HZ),(98,Hx)],(A.tab (fun _ _=>none) [(297,VD)]),[11],[],42,[]⟩
theorem aga:Sound Tryz.prog aG 78 (A.wrap true [(.e 11 tK)] (.t [(.s 5),.k]) (A.bQ (LI))):=
 Sound.wrap (Sound.nW (X:=agd) (fn:=Tryz.f78) (bL:=(.s .n (.s (.s .n bu) (.s .n (.s bu (.s .n (.s (.s .n (.b (.lc [9] [.exit 0] (.s .n (.s dN (.b aT)))))) (.s .n aT)))))))) (.N (A.nn (.t [(.s 5),.k]))) (fun _ _ _ h=>DJ _ _ _ rfl h) (dB.of rfl (aC.cons Xc (aC.cons af2 (aC.cons af3 (aC.cons ab9 aC.nil)))) (oO (gL.cons (mL aed (by kernel_rfl) rfl) gL.nil))) Tryz.func78 Tryz.call78 (fun a0 a1 σ=>by kernel_rfl)) _ _ _ rfl rfl
theorem af1:Sound Tryz.prog aG 78 Lw:=aga
theorem aeC:Sound Tryz.prog aG 101 Pt:=q1 [1] 14 (.s .n aT) aC.nil Tryz.func101 Tryz.call101 (fun a0 σ=>by kernel_rfl) rfl rfl
theorem OV:Sound Tryz.prog aG 80 qA:=q3 [4,6,8] 32 (.s .n (.s .n aT)) (aC.cons aeC aC.nil) Tryz.func80 Tryz.call80 (fun a0 a1 a2 σ=>by kernel_rfl) rfl rfl
theorem aee:Sound Tryz.prog aG 73 Pg:=q1 [] 5 (.s .n aT) (aC.cons rN aC.nil) Tryz.func73 Tryz.call73 (fun a0 σ=>by kernel_rfl) rfl rfl
theorem VN:Sound Tryz.prog aG 37 Lg:=q1 [] 15 (.s .n (.s (.s .n (.b (.l [2,7] [.exit 0,.ret] (.s .n (.s dN (.s (.b (.s .n bu)) .n)))))) aT)) (aC.cons aee aC.nil) Tryz.func37 Tryz.call37 (fun a0 σ=>by kernel_rfl) rfl rfl
theorem VM:Sound Tryz.prog aG 16 Dj:=q1 [] 5 (.s .n aT) (aC.cons rN aC.nil) Tryz.func16 Tryz.call16 (fun a0 σ=>by kernel_rfl) rfl rfl
theorem adI:Sound Tryz.prog aG 14 O1:=q1 [1] 44 (.s .n (.s (.s .n bu) (.s bu aT))) (aC.cons VN (aC.cons VM (aC.cons Vn aC.nil))) Tryz.func14 Tryz.call14 (fun a0 σ=>by kernel_rfl) rfl rfl
theorem ag8:Sound Tryz.prog aG 74 oG:=q1 [2] 6 (.s .n aT) aC.nil Tryz.func74 Tryz.call74 (fun a0 σ=>by kernel_rfl) rfl rfl
theorem Vo:Sound Tryz.prog aG 75 qB:=q2 [2,4] 24 (.s .n (.s .n aT)) (aC.cons afo aC.nil) Tryz.func75 Tryz.call75 (fun a0 a1 σ=>by kernel_rfl) rfl rfl
theorem af4:Sound Tryz.prog aG 39 Lx:=q3 [3,6,7,8,11,12] 131 (.s .n (.s .n (.s (.s .n (.b (.s .n (.j aT (.s .n (.j aT (.s .n (.j aT (.s .n (.j (.s bu aT) (.s .n (.j (.s .n (.s .n (.s (.b (.l [6,7,10] [.exit 1] (.s (.s .n dN) (.b .n)))) (.s .n (.s .n (.s .n aT)))))) .n)))))))))))) aT))) (aC.cons ag8 (aC.cons Vo aC.nil)) Tryz.func39 Tryz.call39 (fun a0 a1 a2 σ=>by kernel_rfl) rfl rfl
theorem adK:Sound Tryz.prog aG 76 KY:=q2 [2,3,4] 29 (.s .n (.s .n (.s .n aT))) (aC.cons afn aC.nil) Tryz.func76 Tryz.call76 (fun a0 a1 σ=>by kernel_rfl) rfl rfl
theorem adJ:Sound Tryz.prog aG 77 Fm:=q2 [2,3] 24 (.s .n aT) aC.nil Tryz.func77 Tryz.call77 (fun a0 a1 σ=>by kernel_rfl) rfl rfl
theorem aeA:Sound Tryz.prog aG 40 Pr:=q4 [6,7,10,15] 80 (.s .n (.s (.s .n (.j (.s .n (.s .n (.s .n (.s (.b (.l [7,10,11,12] [.exit 0] (.s (.s .n dN) (.b (.s .n (.s .n (.c [7,10,11,12] .n .n))))))) aT)))) .n)) (.s .n (.s .n (.s .n (.s (.b (.l [7,15,16,17] [.exit 2] (.s (.s .n dN) (.b (.s .n (.s .n (.c [7,15,16,17] .n .n))))))) aT)))))) (aC.cons Vo (aC.cons adK (aC.cons adJ aC.nil))) Tryz.func40 Tryz.call40 (fun a0 a1 a2 a3 σ=>by kernel_rfl) rfl rfl
theorem ag7:Sound Tryz.prog aG 17 Qn:=q2 [2,6,7] 46 (.s .n (.s .n (.s (.b (.s .n (.j aT bu))) (.s .n aT)))) (aC.cons af4 (aC.cons aeA aC.nil)) Tryz.func17 Tryz.call17 (fun a0 a1 σ=>by kernel_rfl) rfl rfl
end
section
set_option maxRecDepth 100000
theorem Xd:Sound Tryz.prog aG 6 Ih:=q2 [2] 21 (.s .n (.s (.s .n bu) aT)) (aC.cons adI (aC.cons VM (aC.cons zW (aC.cons Dp (aC.cons ag7 aC.nil))))) Tryz.func6 Tryz.call6 (fun a0 a1 σ=>by kernel_rfl) rfl rfl
theorem Pe:Sound Tryz.prog aG 81 vn:=q2 [2] 16 (.s .n (.s .n aT)) (aC.cons Xd aC.nil) Tryz.func81 Tryz.call81 (fun a0 a1 σ=>by kernel_rfl) rfl rfl
theorem afq:Sound Tryz.prog aG 104 PN:=q2 [] 16 (.s .n (.s .n (.s (.s .n (.c [5] .n .n)) aT))) aC.nil Tryz.func104 Tryz.call104 (fun a0 a1 σ=>by kernel_rfl) rfl rfl
theorem afr:Sound Tryz.prog aG 84 PO:=q2 [] 12 (.s .n aT) (aC.cons afq aC.nil) Tryz.func84 Tryz.call84 (fun a0 a1 σ=>by kernel_rfl) rfl rfl
theorem VV:Sound Tryz.prog aG 46 Dl:=q2 [] 18 (.s .n (.s (.s .n bu) aT)) (aC.cons VN (aC.cons afr aC.nil)) Tryz.func46 Tryz.call46 (fun a0 a1 σ=>by kernel_rfl) rfl rfl
theorem Vp:Sound Tryz.prog aG 45 BN:=q4 [6,10,18] 124 (.s .n (.s .n (.s .n (.s (.s .n (.b (.l [6,10,11,12,13,14,35] [.exit 0] (.s .n (.s dN (.s (.b (.s .n (.s .n (.s .n (.s .n (.s (.s .n dN) (.s .n (.s (.s .n (.c [6,10,18,20] .n .n)) (.s .n (.s .n (.c [6,10,11,12,13,14] .n .n))))))))))) .n)))))) aT)))) (aC.cons Le (aC.cons OV (aC.cons Pe (aC.cons VV aC.nil)))) Tryz.func45 Tryz.call45 (fun a0 a1 a2 a3 σ=>by kernel_rfl) rfl rfl
noncomputable def acQ (dyn:Nat→List AV→Heap→Option (AV×Heap)):Fx:=⟨Tryz.prog,aG,A.tab (fun _ _=>none) [],dyn,[],[],19,[]⟩
theorem acN (dyn:Nat→List AV→Heap→Option (AV×Heap)) (hd:∀f,Sound Tryz.prog aG f (dyn (aG.getD f 0))):Sound Tryz.prog aG 102 (A.wrap true [(.s 8)] .k (A.bQ (KP dyn))):=
 Sound.wrap (Sound.nW (X:=acQ dyn) (fn:=Tryz.f102) (bL:=(.s .n (.s (.s .n (.b (.l [4,8] [.exit 0,.ret] (.s .n (.s dN (.s (.b (.s .n bu)) .n)))))) aT))) .F trivial (dB.of rfl aC.nil (hd)) Tryz.func102 Tryz.call102 (fun a0 a1 σ=>by kernel_rfl)) _ _ _ rfl rfl
theorem acK (dyn:Nat→List AV→Heap→Option (AV×Heap)) (hd:∀f,Sound Tryz.prog aG f (dyn (aG.getD f 0))):Sound Tryz.prog aG 102 (Hu dyn):=acN dyn hd
theorem QC:Sound Tryz.prog aG 83 vr:=q1 [1,2] 25 (.s .n (.s .n (.s .n (.s .n aT)))) aC.nil Tryz.func83 Tryz.call83 (fun a0 σ=>by kernel_rfl) rfl rfl
theorem Vf:Sound Tryz.prog aG 103 Fl:=q2 [2] 8 (.s .n aT) aC.nil Tryz.func103 Tryz.call103 (fun a0 a1 σ=>by kernel_rfl) rfl rfl
noncomputable def ad3:Fx:=⟨Tryz.prog,aG,A.tab (fun _ _=>none) [(102,Hu (A.tab (fun _ _=>none) [(349,Fl)])),(83,vr)],(A.tab (fun _ _=>none) [(349,Fl)]),[7,12,13,14],[],77,[]⟩
theorem ad1:Sound Tryz.prog aG 82 (A.wrap false [] DQ (A.En (Pc))):=
 Sound.wrap (Sound.ab7 (X:=ad3) (fn:=Tryz.f82) (bL:=(.s .n (.s .n (.s .n (.s (.s .n (.c [7,12,13,14] (.s .n (.s .n (.c [7,12,13,14] .n .n))) .n)) (.s .n (.s (.s .n (.c [12,13,14] .n .n)) (.s (.s .n (.c [12,13] .n .n)) aT)))))))) .F trivial (dB.of rfl (aC.cons (acK _ (oO (gL.cons (mL Vf (by kernel_rfl) rfl) gL.nil))) (aC.cons QC aC.nil)) (oO (gL.cons (mL Vf (by kernel_rfl) rfl) gL.nil))) Tryz.func82 Tryz.call82 (fun a0 a1 a2 a3 a4 a5 σ=>by kernel_rfl)) _ _ _ rfl rfl
theorem adY:Sound Tryz.prog aG 82 BO:=ad1
noncomputable def ad4:Fx:=⟨Tryz.prog,aG,A.tab (fun _ _=>none) [(71,wF),(78,Lw),(79,Dn),(80,qA),(81,vn),(45,BN),(82,BO),(83,vr)],(fun _ _ _=>none),[11,18,21,24,25,27],[],239,[]⟩
theorem ad2:Sound Tryz.prog aG 44 (A.wrap false [] .k (A.Bh (Pd))):=
 Sound.wrap (Sound.ab6 (X:=ad4) (fn:=Tryz.f44) (bL:=(.s .n (.s .n (.s .n (.s .n (.s .n (.s .n (.s (.s .n (.b (.l [11,61] [.exit 0] (.s .n (.s dN (.s (.b (.s .n (.s .n (.s .n (.s .n (.s bu (.s .n (.s (.s .n (.c [11,18,23] .n (.s .n (.c [11,18,23] .n .n)))) .n)))))))) .n)))))) (.s (.s .n (.b (.lc [11] [.exit 2] (.s .n (.s dN (.b (.s .n (.s .n (.s (.s .n dN) (.s (.s .n (.c [11,24,25] aT .n)) .n)))))))))) (.s .n (.s .n (.c [] .n .n)))))))))))) .G trivial (dB.of rfl (aC.cons Le (aC.cons af1 (aC.cons V7 (aC.cons OV (aC.cons Pe (aC.cons Vp (aC.cons adY (aC.cons QC aC.nil)))))))) (fun _=>Sound.none)) Tryz.func44 Tryz.call44 (fun a0 a1 a2 a3 a4 σ=>by kernel_rfl)) _ _ _ rfl rfl
theorem VC:Sound Tryz.prog aG 44 tc:=ad2
noncomputable def adV:Fx:=⟨Tryz.prog,aG,A.tab (fun _ _=>none) [(42,Fh),(43,BP),(44,tc)],(fun _ _ _=>none),[4],[5],66,[]⟩
theorem adS:Sound Tryz.prog aG 19 (A.wrap false [] .k (A.bQ (Ld))):=
 Sound.wrap (Sound.nW (X:=adV) (fn:=Tryz.f19) (bL:=(.s .n (.s .n (.s .n (.b (.l [4] [.ret] (.b (.s .n (.s (.s .n (.b (.l [4,6,7,21] [.exit 2] (.s .n (.s dN (.s (.b (.s .n (.s .n (.s .n (.c [4,6,7] .n .n))))) .n)))))) (.s bu aT)))))))))) .K trivial (dB.of rfl (aC.cons acX (aC.cons ad0 (aC.cons VC aC.nil))) (fun _=>Sound.none)) Tryz.func19 Tryz.call19 (fun a0 a1 σ=>by kernel_rfl)) _ _ _ rfl rfl
theorem Vv:Sound Tryz.prog aG 19 Fo:=adS
noncomputable def acE (dyn:Nat→List AV→Heap→Option (AV×Heap)):Fx:=⟨Tryz.prog,aG,A.tab (fun _ _=>none) [],dyn,[],[],19,[]⟩
theorem acD (dyn:Nat→List AV→Heap→Option (AV×Heap)) (hd:∀f,Sound Tryz.prog aG f (dyn (aG.getD f 0))):Sound Tryz.prog aG 67 (A.wrap true [(.s 10)] .k (A.bQ (KK dyn))):=
 Sound.wrap (Sound.nW (X:=acE dyn) (fn:=Tryz.f67) (bL:=(.s .n (.s (.s .n (.b (.l [4,8] [.exit 0,.ret] (.s .n (.s dN (.s (.b (.s .n bu)) .n)))))) aT))) .F trivial (dB.of rfl aC.nil (hd)) Tryz.func67 Tryz.call67 (fun a0 a1 σ=>by kernel_rfl)) _ _ _ rfl rfl
theorem acC (dyn:Nat→List AV→Heap→Option (AV×Heap)) (hd:∀f,Sound Tryz.prog aG f (dyn (aG.getD f 0))):Sound Tryz.prog aG 67 (Ht dyn):=acD dyn hd
noncomputable def acW (dyn:Nat→List AV→Heap→Option (AV×Heap)):Fx:=⟨Tryz.prog,aG,A.tab (fun _ _=>none) [],dyn,[],[],19,[]⟩
theorem acU (dyn:Nat→List AV→Heap→Option (AV×Heap)) (hd:∀f,Sound Tryz.prog aG f (dyn (aG.getD f 0))):Sound Tryz.prog aG 69 (A.wrap true [(.s 11)] .k (A.bQ (KQ dyn))):=
 Sound.wrap (Sound.nW (X:=acW dyn) (fn:=Tryz.f69) (bL:=(.s .n (.s (.s .n (.b (.l [4,8] [.exit 0,.ret] (.s .n (.s dN (.s (.b (.s .n bu)) .n)))))) aT))) .F trivial (dB.of rfl aC.nil (hd)) Tryz.func69 Tryz.call69 (fun a0 a1 σ=>by kernel_rfl)) _ _ _ rfl rfl
theorem acS (dyn:Nat→List AV→Heap→Option (AV×Heap)) (hd:∀f,Sound Tryz.prog aG f (dyn (aG.getD f 0))):Sound Tryz.prog aG 69 (Hv dyn):=acU dyn hd
noncomputable def adA:Fx:=⟨Tryz.prog,aG,A.tab (fun _ _=>none) [(71,wF),(80,qA),(81,vn),(83,vr)],(fun _ _ _=>none),[7,10,11],[],82,[]⟩
theorem ady:Sound Tryz.prog aG 72 (A.wrap false [] .k (A.vV (OR))):=
 Sound.wrap (Sound.ab5 (X:=adA) (fn:=Tryz.f72) (bL:=(.s .n (.s .n (.s .n (.s (.s .n (.b (.lc [7] [.exit 0] (.s .n (.s dN (.b (.s .n (.s .n (.s (.s .n dN) .n))))))))) .n))))) .G trivial (dB.of rfl (aC.cons Le (aC.cons OV (aC.cons Pe (aC.cons QC aC.nil)))) (fun _=>Sound.none)) Tryz.func72 Tryz.call72 (fun a0 a1 a2 a3 σ=>by kernel_rfl)) _ _ _ rfl rfl
theorem adw:Sound Tryz.prog aG 72 HB:=ady
theorem OT:Sound Tryz.prog aG 68 BL:=q2 [2] 9 (.s .n aT) aC.nil Tryz.func68 Tryz.call68 (fun a0 a1 σ=>by kernel_rfl) rfl rfl
theorem OU:Sound Tryz.prog aG 70 BM:=q2 [2] 9 (.s .n aT) aC.nil Tryz.func70 Tryz.call70 (fun a0 a1 σ=>by kernel_rfl) rfl rfl
noncomputable def aeh:Fx:=⟨Tryz.prog,aG,A.tab (fun _ _=>none) [(67,Ht (A.tab (fun _ _=>none) [(352,BL),(354,BM)])),(44,tc),(69,Hv (A.tab (fun _ _=>none) [(352,BL),(354,BM)])),(71,wF),(72,HB)],(A.tab (fun _ _=>none) [(352,BL),(354,BM)]),[],[],176,[]⟩
theorem aeg:Sound Tryz.prog aG 36 (A.wrap false [] .k (A.ko (Ft))):=
 Sound.wrap (Sound.GY (X:=aeh) (fn:=Tryz.f36) (bL:=(.s .n (.s (.s .n (.b (.s .n (.j (.s .n (.s .n aT)) (.s .n (.j (.s .n (.s .n aT)) .n)))))) (.s .n (.s .n (.s .n (.s (.s .n (.b (.s .n (.j (.s .n bu) (.s .n (.j (.s .n bu) (.s .n (.j (.s .n bu) (.s .n (.j (.s bu .n) (.s .n (.j (.s bu .n) (.s .n (.j (.s bu (.s .n (.s .n aT))) (.s .n (.c [] .n .n)))))))))))))))) (.s .n (.s (.s .n (.c [] .n .n)) aT))))))))) .K trivial (dB.of rfl (aC.cons (acC _ (oO (gL.cons (mL OT (by kernel_rfl) rfl) (gL.cons (mL OU (by kernel_rfl) rfl) gL.nil)))) (aC.cons VC (aC.cons (acS _ (oO (gL.cons (mL OT (by kernel_rfl) rfl) (gL.cons (mL OU (by kernel_rfl) rfl) gL.nil)))) (aC.cons Le (aC.cons adw aC.nil))))) (oO (gL.cons (mL OT (by kernel_rfl) rfl) (gL.cons (mL OU (by kernel_rfl) rfl) gL.nil)))) Tryz.func36 Tryz.call36 (fun a0 a1 a2 σ=>by kernel_rfl)) _ _ _ rfl rfl
theorem aef:Sound Tryz.prog aG 36 HK:=aeg
noncomputable def aeI:Fx:=⟨Tryz.prog,aG,A.tab (fun _ _=>none) [(15,qE),(32,KV),(33,HS),(34,Fp),(13,wI),(35,KW),(19,Fo),(36,HK)],(fun _ _ _=>none),[3],[6],66,[]⟩
theorem aeF:Sound Tryz.prog aG 12 (A.wrap false [] .k (A.bQ (Li))):=
 Sound.wrap (Sound.nW (X:=aeI) (fn:=Tryz.f12) (bL:=(.s .n (.s .n (.s (.s .n bu) (.s .n (.s (.s .n bu) (.s .n (.s .n aT)))))))) .K trivial (dB.of rfl (aC.cons zW (aC.cons adD (aC.cons VW (aC.cons VB (aC.cons Dp (aC.cons adE (aC.cons Vv (aC.cons aef aC.nil)))))))) (fun _=>Sound.none)) Tryz.func12 Tryz.call12 (fun a0 a1 σ=>by kernel_rfl)) _ _ _ rfl rfl
theorem aeB:Sound Tryz.prog aG 12 Fy:=aeF
noncomputable def ae0:Fx:=⟨Tryz.prog,aG,A.tab (fun _ _=>none) [(11,Dr),(12,Fy)],(fun _ _ _=>none),[2,10],[],36,[]⟩
theorem aeZ:Sound Tryz.prog aG 5 (A.wrap false [] .k (A.bQ (td))):=
 Sound.wrap (Sound.nW (X:=ae0) (fn:=Tryz.f5) (bL:=(.s .n (.s .n (.s bu (.s (.s .n (.b (.l [4,5,6,22] [.exit 0,.ret] (.s .n (.s dN (.s (.b (.s .n (.s .n bu))) .n)))))) aT))))) .K trivial (dB.of rfl (aC.cons ag9 (aC.cons aeB aC.nil)) (fun _=>Sound.none)) Tryz.func5 Tryz.call5 (fun a0 a1 σ=>by kernel_rfl)) _ _ _ rfl rfl
theorem aeX:Sound Tryz.prog aG 5 BQ:=aeZ
theorem adZ:Sound Tryz.prog aG 41 Pa:=q2 [] 16 (.s .n aT) (aC.cons VW (aC.cons zW (aC.cons VB (aC.cons Dp aC.nil)))) Tryz.func41 Tryz.call41 (fun a0 a1 σ=>by kernel_rfl) rfl rfl
theorem adP:Sound Tryz.prog aG 18 HH:=q3 [4,7] 26 (.s .n (.s .n aT)) (aC.cons adZ (aC.cons zW (aC.cons Dp aC.nil))) Tryz.func18 Tryz.call18 (fun a0 a1 a2 σ=>by kernel_rfl) rfl rfl
theorem adN:Sound Tryz.prog aG 20 HG:=q4 [6] 42 (.s .n (.s .n (.s bu (.s bu (.s .n aT))))) (aC.cons Vp (aC.cons VV aC.nil)) Tryz.func20 Tryz.call20 (fun a0 a1 a2 a3 σ=>by kernel_rfl) rfl rfl
noncomputable def adU:Fx:=⟨Tryz.prog,aG,A.tab (fun _ _=>none) [(18,HH),(19,Fo),(20,HG)],(fun _ _ _=>none),[4],[9],24,[]⟩
theorem adR:Sound Tryz.prog aG 7 (A.wrap false [] .k (A.ko (Lc))):=
 Sound.wrap (Sound.GY (X:=adU) (fn:=Tryz.f7) (bL:=(.s .n (.s (.s .n bu) (.s .n aT)))) .K trivial (dB.of rfl (aC.cons adP (aC.cons Vv (aC.cons adN aC.nil))) (fun _=>Sound.none)) Tryz.func7 Tryz.call7 (fun a0 a1 a2 σ=>by kernel_rfl)) _ _ _ rfl rfl
theorem adM:Sound Tryz.prog aG 7 O2:=adR
theorem adp:Sound Tryz.prog aG 3 Vb:=q5 [5,6,8,11,13,17] 113 (.s .n (.s .n (.s .n (.s .n (.s .n (.s bu (.s bu (.s .n (.s (.s .n (.c [6,11,17] .n .n)) (.s (.s .n (.c [6,17] .n .n)) (.s bu (.s .n (.s .n aT))))))))))))) (aC.cons aew (aC.cons aeX (aC.cons Xd (aC.cons adM aC.nil)))) Tryz.func3 Tryz.call3 (fun a0 a1 a2 a3 a4 σ=>by kernel_rfl) rfl rfl
end
section
def HP:=(Nat→Option aK)→Prop
namespace HP
def emp:HP:=fun h=>∀i,h i=none
def blk (id:Nat) (b:aK):HP:=fun h=>∀i,h i=if i=id then some b else none
def star (P Q:HP):HP:=fun h=>∃f g,P f∧Q g∧(∀i,f i=none∨g i=none)∧∀i,h i=(f i).or (g i)
def pr (p:Prop):HP:=fun h=>p∧∀i,h i=none
def ex {α:Type} (P:α→HP):HP:=fun h=>∃x,P x h
instance : Mul HP := ⟨star⟩
theorem X8 (P Q:HP):P*Q=Q*P:=by
 have key:∀P Q:HP,∀h,(P*Q) h→(Q*P) h:=by
  rintro P Q h ⟨f,g,hf,hg,hd,hh⟩
  refine⟨g,f,hg,hf,fun i=>(hd i).symm,fun i=>?_⟩
  rw[hh i]
  rcases hd i with e|e<;>rw[e]<;>simp
 funext h
 exact propext ⟨key P Q h,key Q P h⟩
theorem tZ (P Q R:HP):P*Q*R=P*(Q*R):=by
 funext h
 apply propext
 constructor
 ·rintro⟨f,g,⟨f1,f2,h1,h2,C1,hf⟩,hg,hd,hh⟩
  refine⟨f1,fun i=>(f2 i).or (g i),h1,⟨f2,g,h2,hg,fun i=>?_,fun i=>rfl⟩,fun i=>?_,fun i=>?_⟩
  ·have:=hd i;rw[hf i]at this
   rcases this with e|e
   ·cases h:f1 i<;>simp [h]at e<;>exact .inl e
   ·exact .inr e
  ·have a:=hd i;have b:=C1 i;rw[hf i]at a
   rcases b with b|b
   ·exact .inl b
   ·rcases a with a|a
    ·cases h:f1 i<;>simp [h]at a;exact .inl rfl
    ·exact .inr (show(f2 i).or (g i)=none by rw[b,a];rfl)
  ·rw[hh i,hf i];cases f1 i<;>simp
 ·rintro⟨f,g,hf,⟨g1,g2,h1,h2,C1,hg⟩,hd,hh⟩
  refine⟨fun i=>(f i).or (g1 i),g2,⟨f,g1,hf,h1,fun i=>?_,fun i=>rfl⟩,h2,fun i=>?_,fun i=>?_⟩
  ·have:=hd i;rw[hg i]at this
   rcases this with e|e
   ·exact .inl e
   ·cases h:g1 i<;>simp [h]at e;exact .inr rfl
  ·have a:=hd i;have b:=C1 i;rw[hg i]at a
   rcases b with b|b
   ·rcases a with a|a
    ·exact .inl (show(f i).or (g1 i)=none by rw[a,b];rfl)
    ·rw[b]at a;exact .inr (by simpa using a)
   ·exact .inr b
  ·show h i=((f i).or (g1 i)).or (g2 i)
   rw[hh i,hg i];cases f i<;>simp
theorem Ad (P:HP):emp*P=P:=by
 funext h
 apply propext
 constructor
 ·rintro⟨f,g,hf,hg,hd,hh⟩
  have:h=g:=by funext i;rw[hh i,hf i];rfl
  rw[this];exact hg
 ·intro hp
  exact⟨fun _=>none,h,fun _=>rfl,hp,fun _=>.inl rfl,fun i=>by simp⟩
theorem ajK (P:HP):P*emp=P:=by rw[X8,Ad]
instance : Std.Associative (α := HP) (· * ·) := ⟨tZ⟩
instance : Std.Commutative (α := HP) (· * ·) := ⟨X8⟩
end HP
open HP
structure Hs (B : aK → Prop) (aD σ : Heap) (P : HP) : Prop where
 pre:∃bs,σ=aD++bs∧∀b∈bs,B b
 own:∃h,P h∧∀i b,h i=some b→aD.length≤i∧σ[i]? =some b
def bY:aK→Prop:=fun _=>True
section
variable {B : aK → Prop} {aD σ : Heap} {P Q R : HP} {id : Nat} {b b' : aK}
theorem hs_eq (e:P=Q) (H:Hs B aD σ P):Hs B aD σ Q:=e▸H
theorem Zx (k:∀h,P h→Q h) (H:Hs B aD σ (P*R)):Hs B aD σ (Q*R):=by
 obtain⟨h1,h,⟨f,g,hf,hg,hd,hh⟩,h2⟩:=H
 exact⟨h1,h,⟨f,g,k f hf,hg,hd,hh⟩,h2⟩
theorem wT (H:Hs B aD σ (P*R)):Hs B aD σ R:=by
 obtain⟨h1,h,⟨f,g,hf,hg,hd,hh⟩,h2⟩:=H
 refine⟨h1,g,hg,fun i b hb=>h2 i b ?_⟩
 rw[hh i]
 rcases hd i with e|e
 ·rw[e,hb];rfl
 ·rw[e]at hb;cases hb
theorem nR {p:Prop}:Hs B aD σ (pr p*R)↔p∧Hs B aD σ R:=by
 constructor
 ·intro H
  refine⟨?_,wT H⟩
  obtain⟨h1,h,⟨f,g,hf,hg,hd,hh⟩,h2⟩:=H
  exact hf.1
 ·rintro⟨hp,h1,h,hr,h2⟩
  exact⟨h1,h,⟨fun _=>none,h,⟨hp,fun _=>rfl⟩,hr,fun _=>.inl rfl,fun i=>by simp⟩,h2⟩
theorem Np {α:Type} {P:α→HP}:Hs B aD σ (ex P*R)↔∃x,Hs B aD σ (P x*R):=by
 constructor
 ·rintro⟨h1,h,⟨f,g,⟨x,hf⟩,hg,hd,hh⟩,h2⟩
  exact⟨x,h1,h,⟨f,g,hf,hg,hd,hh⟩,h2⟩
 ·rintro⟨x,h1,h,⟨f,g,hf,hg,hd,hh⟩,h2⟩
  exact⟨h1,h,⟨f,g,⟨x,hf⟩,hg,hd,hh⟩,h2⟩
theorem Gn (σ:Heap):Hs B σ σ emp:=⟨⟨[],by simp,by simp⟩,fun _=>none,fun _=>rfl,fun _ _ h=>by cases h⟩
theorem aar (H:Hs B aD σ P):aD.length≤σ.length:=by obtain⟨⟨bs,rfl,_⟩,_⟩:=H;simp
theorem iW (H:Hs B aD σ (blk id b*R)):aD.length≤id∧σ[id]? =some b:=by
 obtain⟨h1,h,⟨f,g,hf,hg,hd,hh⟩,h2⟩:=H
 exact h2 id b (by rw[hh id,hf id];simp)
theorem aoI (H:Hs B aD σ (blk id b*R)):B b:=by
 obtain⟨h1,h2⟩:=iW H
 obtain⟨⟨bs,rfl,hb⟩,_⟩:=H
 rw[List.getElem?_append_right h1]at h2
 exact hb b (List.mem_of_getElem? h2)
theorem Aq (H:Hs B aD σ (blk id b*R)) (hb:B b'):Hs B aD (σ.set id b') (blk id b'*R):=by
 obtain⟨hid,kj⟩:=iW H
 have hlt:=(List.getElem?_eq_some_iff.1 kj).1
 obtain⟨⟨bs,rfl,hB⟩,h,⟨f,g,hf,hg,hd,hh⟩,h2⟩:=H
 refine⟨⟨bs.set (id-aD.length) b',by rw[List.set_append_right _ _ hid],fun x hx=>?_⟩,fun i=>if i=id then some b' else g i,⟨fun i=>if i=id then some b' else none,g,fun i=>rfl,hg,fun i=>?_,fun i=>?_⟩,fun i x hx=>?_⟩
 ·rcases List.mem_or_eq_of_mem_set hx with hx|hx
  ·exact hB x hx
  ·subst hx;exact hb
 ·have:=hd i;rw[hf i]at this
  by_cases e:i=id
  ·simp only[e,if_true]at this ⊢
   rcases this with h|h
   ·cases h
   ·exact .inr h
  ·simp [e]
 ·by_cases e:i=id<;>simp [e]
 ·by_cases e:i=id
  ·subst e
   simp only[if_true,Option.some.injEq]at hx
   subst hx
   exact⟨hid,by rw[List.getElem?_set_self hlt]⟩
  ·simp only[e,if_false]at hx
   rw[List.getElem?_set_ne (fun e'=>e e'.symm)]
   have:=h2 i x (by rw[hh i,hf i];simp [e,hx])
   exact this
theorem IM (H:Hs B aD σ R) (hb:B b):Hs B aD (σ++[b]) (blk σ.length b*R):=by
 have hl:=aar H
 obtain⟨⟨bs,rfl,hB⟩,h,hr,h2⟩:=H
 have hn:∀i x,h i=some x→i<(aD++bs).length:=fun i x hx=>(List.getElem?_eq_some_iff.1 (h2 i x hx).2).1
 refine⟨⟨bs++[b],by simp,fun x hx=>?_⟩,fun i=>if i=(aD++bs).length then some b else h i,⟨fun i=>if i=(aD++bs).length then some b else none,h,fun i=>rfl,hr,fun i=>?_,fun i=>?_⟩,fun i x hx=>?_⟩
 ·rcases List.mem_append.1 hx with hx|hx
  ·exact hB x hx
  ·simp at hx;subst hx;exact hb
 ·by_cases e:i=(aD++bs).length
  ·right
   cases hi:h i with
   |none=>rfl
   |some x=>have:=hn i x hi;omega
  ·simp only[e,if_false,true_or]
 ·by_cases e:i=(aD++bs).length<;>simp only[e,if_true,if_false,Option.or_some,Option.none_or,Option.some_or]
 ·by_cases e:i=(aD++bs).length
  ·subst e
   simp only[if_true,Option.some.injEq]at hx
   subst hx
   exact⟨hl,by simp⟩
  ·simp only[e,if_false]at hx
   obtain⟨k1,k2⟩:=h2 i x hx
   exact⟨k1,by rw[List.getElem?_append_left (hn i x hx)];exact k2⟩
end
section
variable {α : Type} {E : List AV → α → HP} {B : aK → Prop} {aD σ : Heap} {R : HP}
def els (E:List AV→α→HP):List (List AV)→List α→HP
 |[],[]=>emp
 |e::es,x::l=>E e x*els E es l
 |_,_=>pr False
theorem ML:∀{es:List (List AV)} {l:List α} {R:HP},Hs B aD σ (els E es l*R)→es.length=l.length
 |[],[],_,_=>rfl
 |[],_::_,_,H=>(nR.1 H).1.elim
 |_::_,[],_,H=>(nR.1 H).1.elim
 |e::es,x::l,R,H=>by
  have:=ML (es:=es) (l:=l) (R:=E e x*R) (hs_eq (by rw[els];ac_rfl) H)
  simp [this]
theorem Zq:∀{xY G5:List (List AV)} {l1 l2:List α},xY.length=l1.length→els E (xY++G5) (l1++l2)=els E xY l1*els E G5 l2
 |[],G5,[],l2,_=>by rw[els,Ad];rfl
 |e::xY,G5,x::l1,l2,h=>by
  simp only[List.cons_append,els]
  rw[Zq (by simpa using h)]
  ac_rfl
theorem ake (e:List AV) (x:α):els E [e] [x]=E e x:=by rw[els,els,ajK]
def fl (c:α→List AV):List AV→α→HP:=fun e x=>pr (e=c x)
theorem M9 {c:α→List AV}:∀{es:List (List AV)} {l:List α} {R:HP},Hs B aD σ (els (fl c) es l*R)↔es=l.map c∧Hs B aD σ R
 |[],[],R=>by rw[els,Ad];simp
 |[],x::l,R=>by show Hs B aD σ (pr False*R)↔_;rw[nR];simp
 |e::es,[],R=>by show Hs B aD σ (pr False*R)↔_;rw[nR];simp
 |e::es,x::l,R=>by
  rw[els,fl,tZ,nR,M9,List.map_cons,List.cons.injEq,and_assoc]
def Sl (E:List AV→α→HP) (sz:Nat) (v:AV) (l:List α):HP:=fun h=>(l=[]∧(v=.aq∨v=.ez)∧emp h)∨∃id g seg,v=.os id g sz 0 l.length∧(blk id (.arr g sz seg)*els E seg l) h
variable {sz : Nat} {v : AV} {l : List α}
theorem Af (H:Hs B aD σ (Sl E sz v l*R)):(l=[]∧(v=.aq∨v=.ez)∧Hs B aD σ R)∨∃id g seg,v=.os id g sz 0 l.length∧seg.length=l.length∧Hs B aD σ (blk id (.arr g sz seg)*(els E seg l*R)):=by
 have H2:=wT H
 obtain⟨h1,h,⟨f,g,hf,hg,hd,hh⟩,h2⟩:=H
 rcases hf with⟨k1,k2,k3⟩|⟨id,gg,seg,k1,k2⟩
 ·exact .inl ⟨k1,k2,H2⟩
 ·have K:Hs B aD σ (blk id (.arr gg sz seg)*(els E seg l*R)):=hs_eq (tZ _ _ _) ⟨h1,h,⟨f,g,k2,hg,hd,hh⟩,h2⟩
  exact .inr ⟨id,gg,seg,k1,ML (R:=blk id (.arr gg sz seg)*R) (hs_eq (by ac_rfl) K),K⟩
theorem yA (H:Hs B aD σ R) (hv:v=.aq∨v=.ez):Hs B aD σ (Sl E sz v []*R):=
 Zx (P:=emp) (fun h k=>.inl ⟨rfl,hv,k⟩) (hs_eq (Ad R).symm H)
theorem Ny {id g:Nat} {seg:List (List AV)} {n:Nat} (H:Hs B aD σ (blk id (.arr g sz seg)*(els E seg l*R))) (hn:n=l.length:=by rfl):Hs B aD σ (Sl E sz (.os id g sz 0 n) l*R):=
 Zx (P:=blk id (.arr g sz seg)*els E seg l) (fun h k=>.inr ⟨id,g,seg,by rw[hn],k⟩) (hs_eq (tZ _ _ _).symm H)
theorem amh (H:Hs B aD σ (Sl E sz v l*R)):A.bK v=some (.int .i64 l.length):=by
 rcases Af H with⟨rfl,rfl|rfl,_⟩|⟨id,g,seg,rfl,_⟩<;>rfl
theorem Nh {ys:List (List AV)} {xs:List α} {most:Nat} (H:Hs B aD σ (Sl E sz v l*(els E ys xs*R))) (hm:l.length+xs.length≤most) (hB:∀g g' seg,(seg=[]∨B (.arr g sz seg))→B (.arr g' sz (seg++ys))):
  ∃v' σ',A.append sz most v (.sl sz ys) σ=some (v',σ')∧Hs B aD σ' (Sl E sz v' (l++xs)*R):=by
 rcases Af H with⟨rfl,hv,H⟩|⟨id,g,seg,rfl,hl,H⟩
 ·have hxl:=ML H
  by_cases hy:ys=[]
  ·subst hy
   have:xs=[]:=List.eq_nil_of_length_eq_zero (by simpa using hxl.symm)
   subst this
   refine⟨v,σ,?_,yA (wT H) hv⟩
   rcases hv with rfl|rfl<;>simp [A.append,A.elems,A.ud]
  ·refine⟨.os σ.length ys.length sz 0 ys.length,σ++[.arr ys.length sz ys],?_,?_⟩
   ·have:ys.length≤most:=by simp at hm;omega
    rcases hv with rfl|rfl<;>simp [A.append,A.elems,A.ud,hy,this]
   ·have H2:=IM H (by simpa using hB 0 ys.length [] (.inl rfl):B (.arr ys.length sz ys))
    exact Ny H2 (by simpa using hxl)
 ·have hxl:=ML (hs_eq (show _=els E ys xs*(blk id (.arr g sz seg)*(els E seg l*R)) by ac_rfl) H)
  obtain⟨h1,h2⟩:=iW H
  by_cases hy:ys=[]
  ·subst hy
   have:xs=[]:=List.eq_nil_of_length_eq_zero (by simpa using hxl.symm)
   subst this
   refine⟨.os id g sz 0 l.length,σ,?_,?_⟩
   ·have:l.length≤most:=by simpa using hm
    simp [A.append,A.elems,A.ud,h2,hl,this]
   ·rw[List.append_nil]
    exact Ny (hs_eq (by rw[els,Ad]) H)
  ·have hp:0<ys.length:=List.length_pos_iff.2 hy
   refine⟨.os id (g+ys.length) sz 0 (l.length+ys.length),σ.set id (.arr (g+ys.length) sz (seg++ys)),?_,?_⟩
   ·have e1:l.length+ys.length≤most:=by omega
    have e2:seg.take l.length=seg:=List.take_of_length_le (by omega)
    simp [A.append,A.elems,A.ud,h2,hl,e1,hy,e2,hp]
   ·have H2:=Aq (b':=.arr (g+ys.length) sz (seg++ys)) H (hB g _ seg (.inr (aoI H)))
    exact Ny (id:=id) (g:=g+ys.length) (seg:=seg++ys) (hs_eq (by rw[Zq hl];ac_rfl) H2) (by simp;omega)
end
end
section
open HP
section
variable {σ : Heap} {id g sz off len : Nat} {es : List (List AV)}
theorem cA {α:Type} {X Y:Option α}:A.cond (.bool true) X Y=X:=rfl
theorem cz {α:Type} {X Y:Option α}:A.cond (.bool false) X Y=Y:=rfl
theorem alA {R:Type} {p:Nat→Prop} {k:Nat→Option R} {r:R} (n:Nat) (hn:p n) (h:∀n,p n→k n=some r):A.all p k=some r:=by
 have hx:∃r,∀n,p n→k n=some r:=⟨r,h⟩
 unfold A.all
 rw[dif_pos hx]
 have:=Classical.choose_spec hx n hn
 rw[h n hn]at this
 injection this with this
 rw[←this]
end
section
variable {α : Type} {E : List AV → α → HP} {aD σ : Heap} {R : HP} {sz most : Nat} {zs : List AV} {rot : List AV → Heap → Option (AV × Heap)} {v : AV} {l : List α} {y : α} {ye : List AV} {i : Nat}
end
end
def aQ (n lo hi:Int):Bool:=decide (lo≤n∧n≤hi)
def rI (c:UInt8):Bool:=decide (97≤c.toNat∧c.toNat≤122)||decide (48≤c.toNat∧c.toNat≤57)||decide (c.toNat=45)
def GX (s:ByteArray):Bool:=s.data.toList.all rI&&decide (0<s.size)
def uk (s:ByteArray):Bool:=GX s&&decide (s.size≤20)&&decide (97≤(s.data.toList.getD 0 0).toNat)&&decide ((s.data.toList.getD 0 0).toNat≤122)
def pc (c:UInt8):Bool:=decide (32≤c.toNat∧c.toNat≤126)
def Nn (s:ByteArray):Bool:=decide (0<s.size)&&decide (s.size≤60)&&(decide ((s.data.toList.getD 0 0).toNat≠32)&&decide ((s.data.toList.getD (s.size-1) 0).toNat≠32))
def IP (s:ByteArray):Bool:=s.data.toList.all pc&&Nn s
theorem ahT (s:ByteArray) (i:Nat) (h:i<s.size):s.data.toList.getD i 0=s[i]:=by
 rw[List.getD_eq_getElem?_getD,List.getElem?_eq_getElem (by simpa using h)];rfl
def ND (pre:List oN):List oN→Int
 |[]=>0
 |r::rest=>
  if aQ r.low 0 65535=false∨aQ r.high 0 65535=false∨r.high<r.low then 1
  else if 0<pre.length∧r.low≤(pre.getLast?.map (·.high)).getD 0 then 7
  else if uk r.name=false then 5
  else if iI r.name (pre.map (·.name))=true then 6
  else ND (pre++[r]) rest
def Al (l:List oN):Int:=if 30<l.length then 2 else ND [] l
def slotsOf (l:List cI):List Int:=l.flatMap fun x=>if 0<x.iZ then[x.jC,x.iZ]else[x.jC]
theorem V9 (l:List cI) (x:cI):slotsOf (l++[x])=slotsOf l++(if 0<x.iZ then[x.jC,x.iZ]else[x.jC]):=by simp [slotsOf]
def zw (size:Int) (pre:List cI):List cI→Int
 |[]=>0
 |x::rest=>
  if uk x.name=false then 5
  else if iI x.name (pre.map (·.name))=true then 6
  else if aQ x.group 1 4=false then 4
  else if aQ x.jC 1 size=false∨aQ x.iZ 0 size=false∨aQ x.default 0 65535=false then 1
  else if x.jC=x.iZ∨iI x.jC (slotsOf pre)=true∨(0<x.iZ∧iI x.iZ (slotsOf pre)=true)then 12
  else if Al x.ranges=0 then zw size (pre++[x]) rest else Al x.ranges
def pL (p:cm):Int:=
 if uk p.name=false then 5 else if aQ p.size 1 512=false then 1 else if p.params.length=0 then 8 else if 40<p.params.length then 2 else zw p.size [] p.params
def Jd (size:Int) (pre:List cI) (x:cI):Int:=
 if uk x.name=false then 5
 else if iI x.name (pre.map (·.name))=true then 6
 else if aQ x.group 1 4=false then 4
 else if aQ x.jC 1 size=false∨aQ x.iZ 0 size=false∨aQ x.default 0 65535=false then 1
 else if x.jC=x.iZ∨iI x.jC (slotsOf pre)=true∨(0<x.iZ∧iI x.iZ (slotsOf pre)=true)then 12
 else Al x.ranges
theorem ahG (size:Int) (pre:List cI) (x:cI) (rest:List cI):zw size pre (x::rest)=if Jd size pre x=0 then zw size (pre++[x]) rest else Jd size pre x:=by
 rw[zw,Jd]
 split<;>first|(simp;done)|skip
 split<;>first|(simp;done)|skip
 split<;>first|(simp;done)|skip
 split<;>first|(simp;done)|skip
 split<;>first|(simp;done)|skip
def zu (pre:List cm):List cm→Int
 |[]=>0
 |p::rest=>if pL p=0 then(if iI p.name (pre.map (·.name))=true then 6 else zu (pre++[p]) rest)else pL p
def vQ (l:List cm):Int:=if 60<l.length then 2 else zu [] l
def iP (nm:ByteArray):List cm→cm×Bool
 |[]=>(⟨⟨#[]⟩,0,[]⟩,false)
 |p::rest=>if p.name=nm then(p,true)else iP nm rest
def vH (f:Nat→Bool):Nat→Nat→Bool
 |0,_=>true
 |n+1,a=>if 512<a∨f a=true then false else vH f n (a+1)
def nS (f:Int→Nat→Bool) (u:Int) (a s:Nat):Int→Nat→Bool:=fun v k=>if v=u∧a≤k∧k<a+s then true else f v k
def Ed (pre:List Int) (n:Int):Bool:=match pre.getLast? with|some m=>decide (n≤m)|none=>false
def pX (gq:List cm) (u:ey):Int:=u.address+(iP u.profile gq).1.size-1
def Gk (gq:List cm) (u:ey) (pre:List ey):Bool:=pre.any fun x=>decide (x.univ=u.univ∧x.address≤pX gq u∧u.address≤pX gq x)
def CI (gq:List cm) (pre:List ey):List ey→Int
 |[]=>0
 |u::rest=>
  if aQ u.number 1 9999=false then 1
  else if Ed (pre.map (·.number)) u.number=true then 7
  else if(iP u.profile gq).2=false then 5
  else if aQ u.univ 1 64=false∨aQ u.address 1 512=false∨512<pX gq u then 1
  else if Gk gq u pre=true then 12
  else CI gq (pre++[u]) rest
def gp (r:dO):Int:=if vQ r.aS=0 then(if 400<r.units.length then 2 else CI r.aS [] r.units)else vQ r.aS
def Iu (gq:List cm) (pre:List ey):Prop:=∀x∈pre,1≤x.address∧x.address≤pX gq x∧pX gq x≤512
def Cb (gq:List cm) (pre:List ey) (f:Int→Nat→Bool):Prop:=∀v k,f v k=true↔∃x∈pre,x.univ=v∧x.address≤(k:Int)∧(k:Int)≤pX gq x
theorem Cb.nil (gq:List cm):Cb gq [] (fun _ _=>false):=fun v k=>by simp
theorem Cb.snoc {gq:List cm} {pre:List ey} {f:Int→Nat→Bool} (h:Cb gq pre f) (u:ey) (a s:Nat) (ha:u.address=a) (hs:pX gq u=(a:Int)+s-1):Cb gq (pre++[u]) (nS f u.univ a s):=by
 intro v k
 unfold nS
 by_cases e:v=u.univ∧a≤k∧k<a+s
 ·rw[if_pos e]
  refine⟨fun _=>⟨u,by simp,e.1.symm,by omega,by omega⟩,fun _=>rfl⟩
 ·rw[if_neg e,h v k]
  constructor
  ·rintro⟨x,hx,h1⟩
   exact⟨x,by simp [hx],h1⟩
  ·rintro⟨x,hx,h1,h2,h3⟩
   simp only[List.mem_append,List.mem_singleton]at hx
   rcases hx with hx|rfl
   ·exact⟨x,hx,h1,h2,h3⟩
   ·exact absurd ⟨h1.symm,by omega,by omega⟩ e
theorem QN (f:Nat→Bool):∀(s a:Nat),vH f s a=true↔∀k,a≤k→k<a+s→k≤512∧f k=false
 |0,a=>by simp [vH];intro k h1 h2;omega
 |s+1,a=>by
  rw[vH]
  by_cases e:512<a∨f a=true
  ·rw[if_pos e]
   simp only[Bool.false_eq_true,false_iff]
   intro h
   have:=h a (Nat.le_refl _) (by omega)
   rcases e with e|e
   ·omega
   ·rw[e]at this;simp at this
  ·rw[if_neg e,QN f s (a+1)]
   constructor
   ·intro h k h1 h2
    by_cases hk:k=a
    ·subst hk
     refine⟨by omega,?_⟩
     cases hf:f k
     ·rfl
     ·exact absurd (.inr hf) e
    ·exact h k (by omega) (by omega)
   ·intro h k h1 h2
    exact h k (by omega) (by omega)
theorem agx {gq:List cm} {pre:List ey} {f:Int→Nat→Bool} (h:Cb gq pre f) (hok:Iu gq pre) (u:ey) (a s:Nat) (ha:u.address=a) (h1:1≤s) (hs:pX gq u=(a:Int)+s-1) (h2:pX gq u≤512):vH (f u.univ) s a=!Gk gq u pre:=by
 rw[Bool.eq_iff_iff,QN]
 simp only[Bool.not_eq_true',Gk,List.any_eq_false,decide_eq_true_eq,not_and]
 constructor
 ·intro hf x hx e1 e2 e3
  have hx':=hok x hx
  obtain⟨k,hk⟩:∃k:Nat,(k:Int)=max x.address a:=⟨(max x.address (a:Int)).toNat,by omega⟩
  have hf':=(hf k (by omega) (by omega)).2
  have:f u.univ k=true:=(h u.univ k).2 ⟨x,hx,e1,by omega,by omega⟩
  rw[this]at hf';simp at hf'
 ·intro hf k h3 h4
  refine⟨by omega,?_⟩
  cases hfk:f u.univ k
  ·rfl
  ·obtain⟨x,hx,e1,e2,e3⟩:=(h u.univ k).1 hfk
   exact absurd (show u.address≤pX gq x by omega) (hf x hx e1 (by omega))
theorem aeQ {p:cm} (h:pL p=0):1≤p.size∧p.size≤512:=by
 unfold pL at h
 by_cases h1:uk p.name=false
 ·rw[if_pos h1]at h;simp at h
 ·rw[if_neg h1]at h
  by_cases h2:aQ p.size 1 512=false
  ·rw[if_pos h2]at h;simp at h
  ·simpa [aQ]using h2
theorem WI:∀(l pre:List cm),zu pre l=0→∀p∈l,1≤p.size∧p.size≤512
 |[],pre,h,p,hp=>by simp at hp
 |q::rest,pre,h,p,hp=>by
  rw[zu]at h
  by_cases e:pL q=0
  ·rw[if_pos e]at h
   by_cases e2:iI q.name (pre.map (·.name))=true
   ·rw[if_pos e2]at h;simp at h
   ·rw[if_neg e2]at h
    simp only[List.mem_cons]at hp
    rcases hp with rfl|hp
    ·exact aeQ e
    ·exact WI rest _ h p hp
  ·rw[if_neg e]at h;exact absurd h e
theorem agC {l:List cm} (h:vQ l=0):∀p∈l,1≤p.size∧p.size≤512:=by
 unfold vQ at h
 by_cases e:60<l.length
 ·rw[if_pos e]at h;simp at h
 ·rw[if_neg e]at h;exact WI l [] h
theorem Qt (nm:ByteArray):∀(l:List cm),(iP nm l).2=true→(iP nm l).1∈l
 |[],h=>by simp [iP]at h
 |p::r,h=>by
  rw[iP]at h ⊢
  by_cases e:p.name=nm
  ·rw[if_pos e];simp
  ·rw[if_neg e]at h ⊢
   exact List.mem_cons_of_mem _ (Qt nm r h)
theorem Iu.snoc {gq:List cm} {pre:List ey} (h:Iu gq pre) {u:ey} (h1:1≤u.address∧u.address≤pX gq u∧pX gq u≤512):Iu gq (pre++[u]):=fun x hx=>by
 simp only[List.mem_append,List.mem_singleton]at hx
 rcases hx with hx|rfl
 ·exact h x hx
 ·exact h1
theorem jY (n lo hi:Int) (σ:Heap):jG [.int .i64 n,.int .i64 lo,.int .i64 hi] σ=some (.bool (aQ n lo hi),σ):=by
 refine wrap_eq rfl ?_ rfl
 show PK _ _ _ σ=_
 unfold PK aQ
 by_cases h:lo≤n<;>simp only[aO,reduceCtorEq,h,true_and,false_and]
theorem tg (b:Bool) (n:Int) (σ:Heap):qE [.bool b,.int .i64 n] σ=some (.int .i64 (if b=true then n else 0),σ):=by
 refine wrap_eq rfl ?_ rfl
 show Qb _ _ σ=_
 unfold Qb
 cases b<;>simp [aO,reduceCtorEq]
theorem RR (s:ByteArray) {i:Nat} (h:i<s.size):A.tH (.str s) (.int .i64 (i:Int))=some (.int .u8 (s.data.toList.getD i 0).toNat):=by
 have h1:s[i]? =some s[i]:=by simp [h]
 simp [A.tH,A.idx,h,ahT s i h]
 rfl
theorem WT (s:ByteArray):(decide (¬s=⟨#[]⟩))=decide (0<s.size):=by
 rw[decide_eq_decide]
 constructor
 ·intro h
  rcases Nat.eq_zero_or_pos s.size with e|e
  ·exact absurd (ByteArray.ext (Array.eq_empty_of_size_eq_zero e)) h
  ·exact e
 ·rintro h rfl;exact absurd h (by decide)
theorem alv (s:ByteArray) (hs:jd s) (σ:Heap):Qo [.str s] σ=some (.bool (GX s),σ):=by
 refine wrap_eq rfl ?_ rfl
 show Qz _ σ=_
 unfold Qz
 simp only[aO,reduceCtorEq]
 refine(Ye (p:=rI) s (some (.bool false,σ)) ?_ ?_ ?_).trans ?_
 ·intro i c hi hc
  have h1:aM ((i:Int)+1):=by unfold jd aU at hs;unfold aM;omega
  have h2:(i:Int)<s.size:=by omega
  simp only[aO,reduceCtorEq,h2,hc,wrap64 h1,rI]
  clear hc h1
  repeat' ((first|rw[Bv]|rw[Bu]|rw[Bq]|rw[AY]|rw[Bp]|rw[Bo]);split<;>try simp only[aO,reduceCtorEq, *])
  all_goals first|rfl|(refine(if_pos ?_).symm;simp;omega)|(refine(if_neg ?_).symm;simp;omega)|(refine congrArg some (congrArg (fun b=>(AV.bool b,σ)) ?_);rw[Bool.eq_iff_iff];simp;omega)
 ·simp only[aO,reduceCtorEq,Int.lt_irrefl]
 ·intro i;simp only[aO,reduceCtorEq]
 ·simp only[aO,reduceCtorEq,WT,GX]
  cases s.data.toList.all rI<;>simp
theorem ajA {s:ByteArray} (h:GX s=true):0<s.size:=by
 simp only[GX,Bool.and_eq_true,decide_eq_true_eq]at h;exact h.2
theorem MF (s:ByteArray) (hs:jd s) (σ:Heap):FJ [.str s] σ=some (.bool (uk s),σ):=by
 refine wrap_eq rfl ?_ rfl
 show Qa _ σ=_
 unfold Qa
 simp only[aO,reduceCtorEq,alv s hs]
 cases h:GX s
 ·simp [aO,reduceCtorEq,uk,h]
 ·have h0:=ajA h
  have:=RR s h0
  simp only[Int.ofNat_zero]at this
  simp only[aO,reduceCtorEq,this]
  simp only[uk,h,Bool.true_and]
  generalize s.data.toList.getD 0 0=c0 at *
  repeat' ((first|rw[Bv]|rw[Bu]|rw[Bq]|rw[AY]|rw[Bp]|rw[Bo]);split<;>try simp only[aO,reduceCtorEq, *])
  all_goals first|rfl|(refine(if_pos ?_).symm;simp;omega)|(refine(if_neg ?_).symm;simp;omega)|(refine congrArg some (congrArg (fun b=>(AV.bool b,σ)) ?_);rw[Bool.eq_iff_iff];simp;omega)
theorem Yc (s:ByteArray) (hs:jd s) (σ:Heap):Lp [.str s] σ=some (.bool (IP s),σ):=by
 refine wrap_eq rfl ?_ rfl
 show PZ _ σ=_
 unfold PZ
 simp only[aO,reduceCtorEq]
 refine(Ye (p:=pc) s (some (.bool false,σ)) ?_ ?_ ?_).trans ?_
 ·intro i c hi hc
  have h1:aM ((i:Int)+1):=by unfold jd aU at hs;unfold aM;omega
  have h2:(i:Int)<s.size:=by omega
  simp only[aO,reduceCtorEq,h2,hc,wrap64 h1,pc]
  clear h1
  repeat' ((first|rw[Bv]|rw[Bu]|rw[Bq]|rw[AY]|rw[Bp]|rw[Bo]);split<;>try simp only[aO,reduceCtorEq, *])
  all_goals first|rfl|(refine(if_pos ?_).symm;simp;omega)|(refine(if_neg ?_).symm;simp;omega)|(refine congrArg some (congrArg (fun b=>(AV.bool b,σ)) ?_);rw[Bool.eq_iff_iff];simp;omega)
 ·simp only[aO,reduceCtorEq,Int.lt_irrefl]
 ·intro i;simp only[aO,reduceCtorEq]
 ·simp only[aO,reduceCtorEq,WT,IP]
  cases s.data.toList.all pc
  ·simp
  ·simp only[if_true,Bool.true_and]
   by_cases h0:0<s.size
   ·by_cases G7:s.size≤60
    ·have e0:=RR s h0
     have e1:=RR s (i:=s.size-1) (by omega)
     simp only[Int.ofNat_zero]at e0
     rw[show((s.size-1:Nat):Int)=(s.size:Int) -1 by omega]at e1
     have h1:aM ((s.size:Int) -1):=by unfold jd aU at hs;unfold aM;omega
     have CL:(s.size:Int)≤60:=by omega
     have hw:=wrap64 h1
     simp only[Nn,h0,G7]
     generalize s.data.toList.getD 0 0=c0 at *
     generalize s.data.toList.getD (s.size-1) 0=c1 at *
     simp only[aO,reduceCtorEq,h0,CL,e0,e1,hw]
     repeat' ((first|rw[Bv]|rw[Bu]|rw[Bq]|rw[AY]|rw[Bp]|rw[Bo]);split<;>try simp only[aO,reduceCtorEq, *])
     all_goals first|rfl|(refine(if_pos ?_).symm;simp;omega)|(refine(if_neg ?_).symm;simp;omega)|(refine congrArg some (congrArg (fun b=>(AV.bool b,σ)) ?_);rw[Bool.eq_iff_iff];simp;omega)
    ·have CL:¬(s.size:Int)≤60:=by omega
     simp [aO,reduceCtorEq,h0,CL,Nn,G7]
   ·simp [aO,reduceCtorEq,h0,Nn]
theorem afK (n:Int) (σ:Heap):Pg [.int .i64 n] σ=some (.bool (aQ n 0 65535),σ):=by
 refine wrap_eq rfl ?_ rfl
 show Pk (.int .i64 n) σ=_
 unfold Pk
 simp only[aO,reduceCtorEq,jY]
theorem ah3 {γ:Type} {f:List AV→Heap→Option (AX×List AV×Heap)} (a n:Nat) (p:Nat→Bool) (vs:Nat→List AV) (σ:Heap) (fin:AX×List AV×Heap) (ret:Nat→AX×List AV×Heap) {k:AX×List AV×Heap→Option γ} (K1 K2:Option γ)
  (hstep:∀(i:Nat),a≤i→i<a+n→f (vs i) σ=if p i=true then some (ret i)else some (.normal,vs (i+1),σ)) (hend:f (vs (a+n)) σ=some fin) (hk1:k fin=K1) (hk2:∀i,k (ret i)=K2)
  (A6:fin.1≠.normal:=by simp) (Jm:∀i,(ret i).1≠.normal:=by intros;simp) {v:List AV} {σ':Heap} (hv:v=vs a:=by rfl) (fU:σ'=σ:=by rfl):
  (A.loop f v σ').bind k=if(List.range' a n).any p=true then K2 else K1:=by
 refine YM (List.range' a n) p (fun i=>vs (a+i)) σ fin (fun i=>ret (a+i)) K1 K2 ?_ (by rw[List.length_range'];exact hend) hk1 (fun i=>hk2 _) A6 (fun i=>Jm _) hv fU
 intro i x hx
 obtain⟨h1,h2⟩:=List.getElem?_eq_some_iff.1 hx
 rw[List.length_range']at h1
 obtain rfl:a+i=x:=by simpa [List.getElem_range']using h2
 exact hstep (a+i) (by omega) (by omega)
def dQ:lI:=⟨0,0⟩
def DU (p:lI):Bool:=!(aQ p.time 0 1000)||!(aQ p.way 0 1000)
def Ee (l:List lI) (i:Nat):Bool:=decide ((l.getD i dQ).time≤(l.getD (i-1) dQ).time∨(l.getD i dQ).way<(l.getD (i-1) dQ).way)
def TA (l:List lI):Int:=
 if l.any DU=true then 1
 else if ¬((l.getD 0 dQ).time=0∧(l.getD 0 dQ).way=0)then 3
 else if ¬((l.getD (l.length-1) dQ).time=1000∧(l.getD (l.length-1) dQ).way=1000)then 3
 else if(List.range' 1 (l.length-1)).any (Ee l)=true then 7 else 0
def pP (c:pO):Int:=
 if aQ c.kind 1 6=false then 4
 else if c.kind=6 then(if c.points.length<2 then 8 else if 20<c.points.length then 2 else TA c.points)
 else if 0<c.points.length then 3 else 0
theorem Rh (x:lI) (a b:Int):A.neq (.s [0,0]) (.agg (iu x)) (.agg [.int .i64 a,.int .i64 b])=some (.bool (decide (¬(x.time=a∧x.way=b)))):=by
 simp only[A.neq,A.eB,iu,A.gn,A.mZ,A.nF,if_true,Option.bind_some,Option.map_some]
 congr 2
 rw[Bool.eq_iff_iff]
 simp
theorem abj (a b c:AV):A.splice 0 [a] [b,c]=some [a,c]:=rfl
theorem abk (a b c:AV):A.splice 1 [a] [b,c]=some [b,a]:=rfl
theorem B6 {l:List lI} {i:Nat} (h:i<l.length):l[i]? =some (l.getD i dQ):=by simp [h]
theorem VQ (c:pO) (σ:Heap):KU [.agg (lJ c)] σ=some (.int .i64 (pP c),σ):=by
 refine wrap_eq rfl ?_ rfl
 show OX (.agg (lJ c)) σ=_
 unfold OX pP
 simp only[aO,reduceCtorEq,wJ,wK,wN,wL,wO,jY]
 cases hk:aQ c.kind 1 6
 ·simp only[aO,reduceCtorEq]
 by_cases h6:c.kind=6
 case neg=>
  by_cases h0:0<c.points.length
  ·simp only[aO,reduceCtorEq,wJ,wK,wN,wL,wO,h6,h0,tg,show(0:Int)<c.points.length by omega]
  ·simp only[aO,reduceCtorEq,wJ,wK,wN,wL,wO,h6,h0,tg,show ¬(0:Int)<c.points.length by omega]
 by_cases h2:c.points.length<2
 ·simp only[aO,reduceCtorEq,wJ,wK,wN,wL,wO,h6,h2,show(c.points.length:Int)<2 by omega]
 by_cases JH:20<c.points.length
 ·simp only[aO,reduceCtorEq,wJ,wK,wN,wL,wO,h6,h2,JH,show ¬(c.points.length:Int)<2 by omega,show(20:Int)<c.points.length by omega]
 simp only[aO,reduceCtorEq,wJ,wK,wN,wL,wO,h6,h2,JH,show ¬(c.points.length:Int)<2 by omega,show ¬(20:Int)<c.points.length by omega]
 have JU:c.points.length≤aU:=by unfold aU;omega
 refine(YM c.points DU (fun i=>[.int .i64 0,.int .i64 (i:Int)]) σ (.exit 0,[.int .i64 0,.int .i64 (c.points.length:Int)],σ) (fun i=>(.ret,[.int .i64 1,.int .i64 (i:Int)],σ))
  (some (.int .i64 (if ¬((c.points.getD 0 dQ).time=0∧(c.points.getD 0 dQ).way=0)then 3
 else if ¬((c.points.getD (c.points.length-1) dQ).time=1000∧(c.points.getD (c.points.length-1) dQ).way=1000)then 3
 else if(List.range' 1 (c.points.length-1)).any (Ee c.points)=true then 7 else 0),σ)) (some (.int .i64 1,σ)) ?_ ?_ ?_ ?_).trans ?_
 ·intro i x hx
  obtain⟨g1,g2,g3⟩:=YF 2 iu hx
  have g3:=g3 JU
  simp only[aO,reduceCtorEq,H7,H8,Dx,Dt,Dy,g1,g2,g3,jY,DU]
  rcases Bool.eq_false_or_eq_true (aQ x.time 0 1000)with e|e
  ·rcases Bool.eq_false_or_eq_true (aQ x.way 0 1000)with e'|e'<;>simp only[aO,reduceCtorEq,jY,e,e',Bool.false_or,Bool.or_false]
  ·simp only[aO,reduceCtorEq,e,Bool.true_or]
 ·exact F5 _ _ _
 ·have g0:=jZ 2 iu c.points (B6 (l:=c.points) (i:=0) (by omega))
  have gl:=LN 2 iu c.points (k:=c.points.length) (by omega) (B6 (by omega))
  have hw:IntKind.i64.wrap ((c.points.length:Int) -1)=(c.points.length:Int) -1:=wrap64 (by unfold aM;omega)
  simp only[Int.ofNat_zero,Int.natCast_zero]at g0
  simp only[aO,reduceCtorEq,wJ,wK,wN,wL,wO,H7,H8,Dx,Dt,Dy,g0,Rh]
  by_cases e1:(c.points.getD 0 dQ).time=0∧(c.points.getD 0 dQ).way=0
  case neg=>simp only[aO,reduceCtorEq,e1]
  simp only[aO,reduceCtorEq,wJ,wK,wN,wL,wO,e1,hw,gl,H7,H8,Dx,Dt,Dy]
  by_cases e2:(c.points.getD (c.points.length-1) dQ).time=1000∧(c.points.getD (c.points.length-1) dQ).way=1000
  case neg=>
   simp only[abj,abk,aO,reduceCtorEq,Rh,e2]
  simp only[abj,abk,aO,reduceCtorEq,Rh,e2]
  refine(ah3 1 (c.points.length-1) (Ee c.points) (fun i=>[.int .i64 0,.int .i64 (i:Int)]) σ (.exit 2,[.int .i64 0,.int .i64 (c.points.length:Int)],σ) (fun i=>(.ret,[.int .i64 7,.int .i64 (i:Int)],σ)) (some (AV.int .i64 0,σ)) (some (AV.int .i64 7,σ)) ?_ ?_ ?_ ?_).trans ?_
  ·intro i hi1 hi2
   have k1:=jZ 2 iu c.points (B6 (l:=c.points) (i:=i) (by omega))
   have k2:=LN 2 iu c.points (k:=i) (by omega) (B6 (by omega))
   have k3:IntKind.i64.wrap ((i:Int) -1)=(i:Int) -1:=wrap64 (by unfold aM;omega)
   have k4:IntKind.i64.wrap ((i:Int)+1)=((i+1:Nat):Int):=by rw[wrap64 (by unfold aM;omega)];omega
   have k5:(i:Int)<c.points.length:=by omega
   simp only[aO,reduceCtorEq,wJ,wK,wN,wL,wO,H7,H8,Dx,Dt,Dy,k1,k2,k3,k5,Ee]
   by_cases q1:(c.points.getD i dQ).time≤(c.points.getD (i-1) dQ).time
   ·simp only[aO,reduceCtorEq,q1]
   ·by_cases q2:(c.points.getD i dQ).way<(c.points.getD (i-1) dQ).way<;>simp only[aO,reduceCtorEq,wJ,wK,wN,wL,wO,H7,H8,Dx,Dt,Dy,k1,k2,k3,k4,q1,q2]
  ·rw[show 1+(c.points.length-1)=c.points.length by omega]
   simp only[aO,reduceCtorEq,wJ,wK,wN,wL,wO,Int.lt_irrefl]
  ·simp only[aO,reduceCtorEq]
  ·intro i;simp only[aO,reduceCtorEq]
  ·cases(List.range' 1 (c.points.length-1)).any (Ee c.points)<;>rfl
 ·intro i;simp only[aO,reduceCtorEq]
 ·unfold TA
  cases c.points.any DU<;>rfl
theorem Ab (l:List Int) (hl:l.length≤aU) (σ:Heap):wI [sl 1 qW l] σ=some (.int .i64 ((l.find? fun n=>decide (¬n=0)).getD 0),σ):=by
 refine wrap_eq rfl ?_ rfl
 show PW (sl 1 qW l) σ=_
 unfold PW
 simp only[aO,reduceCtorEq]
 refine(ah4 l (fun n=>decide (¬n=0)) (fun i=>[.int .i64 0,.int .i64 (i:Int)]) σ (.exit 0,[.int .i64 0,.int .i64 (l.length:Int)],σ) (fun i n=>(.ret,[.int .i64 n,.int .i64 (i:Int)],σ)) (some (AV.int .i64 0,σ)) (fun n=>some (AV.int .i64 n,σ)) ?_ ?_ ?_ ?_).trans ?_
 ·intro i x hx
  obtain⟨g1,g2,g3⟩:=YF 1 qW hx
  have g3:=g3 hl
  simp only[aO,reduceCtorEq,g1,g2,g3]
  repeat' ((first|rw[Bv]|rw[Bu]|rw[Bq]|rw[AY]|rw[Bp]|rw[Bo]);split<;>try simp only[aO,reduceCtorEq, *])
  all_goals first|with_reducible rfl|(simp [*];done)|(simp_all;done)|(simp_all;omega)|rfl
 ·exact F5 _ _ _
 ·simp only[aO,reduceCtorEq]
 ·intro i n;simp only[aO,reduceCtorEq]
 ·cases l.find? (fun n=>decide (¬n=0))<;>rfl
theorem FH (n:Int) (σ:Heap):HE [.int .i64 n] σ=some (.bool (aQ n 0 65535),σ):=by
 refine wrap_eq rfl ?_ rfl
 show O3 _ σ=_
 unfold O3
 simp only[aO,reduceCtorEq,jY]
theorem aek (l:List oN) (hok:fE RJ l) (σ:Heap):OM [sl 3 lK l] σ=some (.int .i64 (Al l),σ):=by
 refine wrap_eq rfl ?_ rfl
 show ON (sl 3 lK l) σ=_
 unfold ON Al
 simp only[aO,reduceCtorEq]
 by_cases N0:30<l.length
 ·have Jh:(30:Int)<l.length:=by omega
  simp only[aO,reduceCtorEq,N0,Jh]
 ·have Jh:¬(30:Int)<l.length:=by omega
  simp only[aO,reduceCtorEq,N0,Jh]
  refine(oI (S:=Unit) (R:=Int) l (fun pre x _=>
    if aQ x.low 0 65535=false∨aQ x.high 0 65535=false∨x.high<x.low then .out 1
    else if 0<pre.length∧x.low≤(pre.getLast?.map (·.high)).getD 0 then .out 7
    else if uk x.name=false then .out 5
    else if iI x.name (pre.map (·.name))=true then .out 6 else .go ())
   (fun pre _=>[.int .i64 0,.int .i64 (pre.length:Int)]) (fun pre _=>σ++[aK.map (mC (·.name) pre)])
   (fun _=>(.exit 0,[.int .i64 0,.int .i64 (l.length:Int)],σ++[aK.map (mC (·.name) l)])) (fun pre _ r=>(.ret,[.int .i64 r,.int .i64 (pre.length:Int)],σ++[aK.map (mC (·.name) pre)]))
   (fun _ _=>True) () (fun _=>some (AV.int .i64 0,σ)) (fun r=>some (AV.int .i64 r,σ)) ?_ ?_ trivial (fun _ _ _ _ _ _ _ _=>trivial) ?_ ?_).trans ?_
  ·intro pre x rest u hl _
   have hx:=oL hl
   have hlt:=qO hl
   have hi1:IntKind.i64.wrap ((pre.length:Int)+1)=(pre.length:Int)+1:=wrap64 (by unfold aM;omega)
   have hi2:IntKind.i64.wrap ((pre.length:Int) -1)=(pre.length:Int) -1:=wrap64 (by unfold aM;omega)
   have hlt':(pre.length:Int)<(l.length:Int):=by omega
   have hnm:=(hok.2 x (by rw[hl];simp)).2.2
   have gO:=jZ 3 lK l hx
   have hN:=MF _ hnm
   by_cases h0:0<pre.length
   ·obtain⟨y,hy,hy2⟩:=YV hl h0
    have Tl:=LN 3 lK l h0 hy2
    have rB:(0:Int)<pre.length:=by omega
    clear hl hx hlt hok N0 Jh hy2 hnm
    simp only[aO,reduceCtorEq,LF,LG,LH,Mc,L2,Mg,hlt',gO,FH,hi1,hi2,hN,rB,hy,h0]
    repeat' ((first|rw[Bv]|rw[Bu]|rw[Bq]|rw[AY]|rw[Bp]|rw[Bo]);split<;>try simp only[aO,reduceCtorEq,LF,LG,LH,Mc,L2,Mg,FH, *])
    all_goals first|with_reducible rfl|(simp [*];done)|(simp_all;done)|(simp_all;omega)|rfl
   ·have rB:¬(0:Int)<pre.length:=by omega
    clear hl hx hlt hok N0 Jh hnm
    simp only[aO,reduceCtorEq,LF,LG,LH,Mc,L2,Mg,hlt',gO,FH,hi1,hi2,hN,rB,h0]
    repeat' ((first|rw[Bv]|rw[Bu]|rw[Bq]|rw[AY]|rw[Bp]|rw[Bo]);split<;>try simp only[aO,reduceCtorEq,LF,LG,LH,Mc,L2,Mg,FH, *])
    all_goals first|with_reducible rfl|(simp [*];done)|(simp_all;done)|(simp_all;omega)|rfl
  ·intro u _
   simp only[aO,reduceCtorEq,Int.lt_irrefl]
  ·intro u _;simp only[aO,reduceCtorEq]
  ·intros;simp only[aO,reduceCtorEq]
  ·refine(LW (uR:=ND) ?_ ?_ (fun n=>some (AV.int .i64 n,σ)) l []).trans ?_
   ·intro pre;rfl
   ·intro pre x rest;rw[ND];simp only[Gl,Cd,Cp]
   ·rfl
theorem ad6 (p:cm) (hok:L8 p) (σ:Heap):OH [.agg (bP p)] σ=some (.int .i64 (pL p),σ):=by
 refine wrap_eq rfl ?_ rfl
 show OJ (.agg (bP p)) σ=_
 obtain⟨pn,ps,l⟩:=p
 obtain⟨hnm,hps,Tq⟩:=hok
 simp only at hnm hps Tq
 have hN:=MF _ hnm
 unfold OJ pL
 simp only[aO,reduceCtorEq,qC,rM,qD,rP,rO,rQ,hN,jY]
 cases hn:uk pn
 ·simp only[aO,reduceCtorEq]
 cases hz:aQ ps 1 512
 ·simp only[aO,reduceCtorEq]
 by_cases h0:l.length=0
 ·obtain rfl:l=[]:=List.eq_nil_of_length_eq_zero h0
  simp [aO,reduceCtorEq]
 have rB:¬(l.length:Int)=0:=by omega
 by_cases Uf:40<l.length
 ·have NH:(40:Int)<l.length:=by omega
  simp only[aO,reduceCtorEq,h0,rB,Uf,NH]
 have NH:¬(40:Int)<l.length:=by omega
 simp only[aO,reduceCtorEq,h0,rB,Uf,NH]
 refine(oI (S:=Unit) (R:=Int) l (fun pre x _=>
   if uk x.name=false then .out 5
   else if iI x.name (pre.map (·.name))=true then .out 6
   else if aQ x.group 1 4=false then .out 4
   else if aQ x.jC 1 ps=false∨aQ x.iZ 0 ps=false∨aQ x.default 0 65535=false then .out 1
   else if x.jC=x.iZ∨iI x.jC (slotsOf pre)=true∨(0<x.iZ∧iI x.iZ (slotsOf pre)=true)then .out 12
   else if Al x.ranges=0 then .go ()else .out (Al x.ranges))
  (fun pre _=>[.lbx (bP ⟨pn,ps,l⟩),.int .i64 0,.int .i64 (pre.length:Int)]) (fun pre _=>σ++[aK.map (mC (·.name) pre),aK.map (rq id (slotsOf pre))])
  (fun _=>(.exit 1,[.lbx (bP ⟨pn,ps,l⟩),.int .i64 0,.int .i64 (l.length:Int)],σ++[aK.map (mC (·.name) l),aK.map (rq id (slotsOf l))]))
  (fun pre _ r=>(.ret,[.lbx (bP ⟨pn,ps,l⟩),.int .i64 r,.int .i64 (pre.length:Int)],σ++[aK.map (mC (·.name) pre),aK.map (rq id (slotsOf pre))]))
  (fun _ _=>True) () (fun _=>some (AV.int .i64 0,σ)) (fun r=>some (AV.int .i64 r,σ)) ?_ ?_ trivial (fun _ _ _ _ _ _ _ _=>trivial) ?_ ?_).trans ?_
 ·intro pre x rest u hl _
  have hx:=oL hl;have hlt:=qO hl;have hi1:IntKind.i64.wrap ((pre.length:Int)+1)=(pre.length:Int)+1:=wrap64 (by unfold aM;omega);have hi2:IntKind.i64.wrap ((pre.length:Int) -1)=(pre.length:Int) -1:=wrap64 (by unfold aM;omega);have hlt':(pre.length:Int)<(l.length:Int):=by omega
  obtain⟨k1,k2,k3,k4,k5,k6⟩:=Tq.2 x (by rw[hl];simp)
  have hNx:=MF _ k1
  have hRx:=aek _ k6
  have gO:=jZ 7 bU l hx
  clear hl hx hlt Tq Uf NH h0 rB k1 k2 k3 k4 k5 k6 hnm hps hN hn hz
  simp only[aO,reduceCtorEq,H6,Ly,Lz,LA,LB,LC,LD,Mb,L0,Aa,qC,rM,qD,rP,rO,rQ,hlt',gO,jY,FH,hi1,hi2,hNx,hRx,List.map_id]
  repeat' ((first|rw[Bv]|rw[Bu]|rw[Bq]|rw[AY]|rw[Bp]|rw[Bo]);split<;>try simp only[aO,reduceCtorEq,H6,Ly,Lz,LA,LB,LC,LD,Mb,L0,Aa,qC,rM,qD,rP,rO,rQ,jY,FH,List.map_id,XZ,ah9,Bool.or_false, *])
  all_goals first|rfl|(simp_all;done)|(simp_all [V9,XZ];done)|(simp only[V9,ite_false,ite_true,if_false,if_true, *]<;>simp_all)
 ·intro u _
  simp only[aO,reduceCtorEq,Int.lt_irrefl]
 ·intro u _;simp only[aO,reduceCtorEq]
 ·intros;simp only[aO,reduceCtorEq]
 ·refine(LW (uR:=zw ps) ?_ ?_ (fun n=>some (AV.int .i64 n,σ)) l []).trans ?_
  ·intro pre;rfl
  ·intro pre x rest;rw[zw];simp only[Gl,Cd,Cp]
  ·rfl
theorem ad5 (l:List cm) (hok:fE L8 l) (σ:Heap):OG [sl 3 bP l] σ=some (.int .i64 (vQ l),σ):=by
 refine wrap_eq rfl ?_ rfl
 show OI (sl 3 bP l) σ=_
 unfold OI vQ
 simp only[aO,reduceCtorEq]
 by_cases G7:60<l.length
 ·have CL:(60:Int)<l.length:=by omega
  simp only[aO,reduceCtorEq,G7,CL]
 have CL:¬(60:Int)<l.length:=by omega
 simp only[aO,reduceCtorEq,G7,CL]
 refine(oI (S:=Unit) (R:=Int) l (fun pre x _=>if pL x=0 then(if iI x.name (pre.map (·.name))=true then .out 6 else .go ())else .out (pL x))
  (fun pre _=>[.int .i64 0,.int .i64 (pre.length:Int)]) (fun pre _=>σ++[aK.map (mC (·.name) pre)])
  (fun _=>(.exit 0,[.int .i64 0,.int .i64 (l.length:Int)],σ++[aK.map (mC (·.name) l)])) (fun pre _ r=>(.ret,[.int .i64 r,.int .i64 (pre.length:Int)],σ++[aK.map (mC (·.name) pre)]))
  (fun _ _=>True) () (fun _=>some (AV.int .i64 0,σ)) (fun r=>some (AV.int .i64 r,σ)) ?_ ?_ trivial (fun _ _ _ _ _ _ _ _=>trivial) ?_ ?_).trans ?_
 ·intro pre x rest u hl _
  have hx:=oL hl;have hlt:=qO hl;have hi1:IntKind.i64.wrap ((pre.length:Int)+1)=(pre.length:Int)+1:=wrap64 (by unfold aM;omega);have hi2:IntKind.i64.wrap ((pre.length:Int) -1)=(pre.length:Int) -1:=wrap64 (by unfold aM;omega);have hlt':(pre.length:Int)<(l.length:Int):=by omega
  have hP:=ad6 x (hok.2 x (by rw[hl];simp))
  have gO:=jZ 3 bP l hx
  clear hl hx hlt hok G7 CL
  simp only[aO,reduceCtorEq,qC,rM,qD,rP,rO,rQ,hlt',gO,hi1,hP]
  repeat' ((first|rw[Bv]|rw[Bu]|rw[Bq]|rw[AY]|rw[Bp]|rw[Bo]);split<;>try simp only[aO,reduceCtorEq,qC,rM,qD,rP,rO,rQ, *])
  all_goals first|with_reducible rfl|(simp [*];done)|(simp_all;done)|(simp_all;omega)|rfl
 ·intro u _
  simp only[aO,reduceCtorEq,Int.lt_irrefl]
 ·intro u _;simp only[aO,reduceCtorEq]
 ·intros;simp only[aO,reduceCtorEq]
 ·refine(LW (uR:=zu) ?_ ?_ (fun n=>some (AV.int .i64 n,σ)) l []).trans ?_
  ·intro pre;rfl
  ·intro pre x rest;rw[zu];simp only[Gl,Cd,Cp]
  ·rfl
theorem ajb {α:Type} (p:α→Bool) (l:List α):decide (0≤jI p l)=l.any p:=by
 rcases zY p l with⟨h1,h2,_⟩|⟨k,x,h1,h2,h3,_⟩
 ·rw[h1,Bool.eq_iff_iff]
  simp only[decide_eq_true_eq,List.any_eq_true]
  exact⟨fun h=>by omega,fun⟨x,hx,hp⟩=>by rw[h2 x hx]at hp;cases hp⟩
 ·rw[h3,Bool.eq_iff_iff]
  simp only[decide_eq_true_eq,List.any_eq_true]
  exact⟨fun _=>⟨x,List.mem_of_getElem? h1,h2⟩,fun _=>by omega⟩
theorem aco (dyn:Nat→List AV→Heap→Option (AV×Heap)) (l:List cm) (hl:l.length≤aU) (n:Nat) (caps:List AV) (p:cm→Bool) (σ:Heap) (hd:∀x∈l,dyn n ((.agg (bP x):AV)::caps) σ=some (.bool (p x),σ)):KI dyn [sl 3 bP l,.fn n caps] σ=some (.int .i64 (jI p l),σ):=by
 refine wrap_eq rfl ?_ rfl
 show KJ dyn (sl 3 bP l) (.fn n caps) σ=_
 unfold KJ
 simp only[aO,reduceCtorEq]
 refine(oI (S:=Unit) (R:=Int) l (fun pre x _=>if p x=true then .out (pre.length:Int)else .go ())
  (fun pre _=>[.int .i64 0,.int .i64 (pre.length:Int)]) (fun _ _=>σ) (fun _=>(.exit 0,[.int .i64 0,.int .i64 (l.length:Int)],σ)) (fun pre _ r=>(.ret,[.int .i64 (pre.length:Int),.int .i64 (pre.length:Int)],σ))
  (fun _ _=>True) () (fun _=>some (AV.int .i64 (-1),σ)) (fun r=>some (AV.int .i64 r,σ)) ?_ ?_ trivial (fun _ _ _ _ _ _ _ _=>trivial) ?_ ?_).trans ?_
 ·intro pre x rest u hl' _
  have hx:=oL hl'
  have hlt:=qO hl'
  have hi1:IntKind.i64.wrap ((pre.length:Int)+1)=(pre.length:Int)+1:=wrap64 (by unfold aM;unfold aU at hl;omega)
  have hlt':(pre.length:Int)<(l.length:Int):=by omega
  have gO:=jZ 3 bP l hx
  have jT:=hd x (by rw[hl'];simp)
  simp only[aO,reduceCtorEq,qC,rM,qD,rP,rO,rQ,hlt',gO,A.fR,List.cons_append,List.nil_append,jT,hi1]
  cases p x<;>simp [aO,reduceCtorEq]
 ·intro u _;simp only[aO,reduceCtorEq,Int.lt_irrefl]
 ·intro u _;simp only[aO,reduceCtorEq]
 ·intro pre x rest s q hl' _ hb
  have:q=(pre.length:Int):=by
   cases hpx:p x
   ·rw[hpx]at hb;cases hb
   ·rw[hpx]at hb;simp at hb;exact hb.symm
  simp only[aO,reduceCtorEq,this]
 ·rw[BX p _ _ l [] (by simp)]
  simp only[List.nil_append]
  split
  ·rename_i h;rw[h]
  ·rfl
theorem acw (dyn:Nat→List AV→Heap→Option (AV×Heap)) (l:List fF) (hl:l.length≤aU) (n:Nat) (caps:List AV) (p:fF→Bool) (σ:Heap) (hd:∀x∈l,dyn n ((.agg (fG x):AV)::caps) σ=some (.bool (p x),σ)):Hu dyn [sl 8 fG l,.fn n caps] σ=some (.int .i64 (jI p l),σ):=by
 refine wrap_eq rfl ?_ rfl
 show KP dyn (sl 8 fG l) (.fn n caps) σ=_
 unfold KP
 simp only[aO,reduceCtorEq]
 refine(oI (S:=Unit) (R:=Int) l (fun pre x _=>if p x=true then .out (pre.length:Int)else .go ())
  (fun pre _=>[.int .i64 0,.int .i64 (pre.length:Int)]) (fun _ _=>σ) (fun _=>(.exit 0,[.int .i64 0,.int .i64 (l.length:Int)],σ)) (fun pre _ r=>(.ret,[.int .i64 (pre.length:Int),.int .i64 (pre.length:Int)],σ))
  (fun _ _=>True) () (fun _=>some (AV.int .i64 (-1),σ)) (fun r=>some (AV.int .i64 r,σ)) ?_ ?_ trivial (fun _ _ _ _ _ _ _ _=>trivial) ?_ ?_).trans ?_
 ·intro pre x rest u hl' _
  have hx:=oL hl'
  have hlt:=qO hl'
  have hi1:IntKind.i64.wrap ((pre.length:Int)+1)=(pre.length:Int)+1:=wrap64 (by unfold aM;unfold aU at hl;omega)
  have hlt':(pre.length:Int)<(l.length:Int):=by omega
  have gO:=jZ 8 fG l hx
  have jT:=hd x (by rw[hl'];simp)
  simp only[aO,reduceCtorEq,agM,agN,agO,agP,agQ,agR,agS,agT,afi,aep,ajr,aiP,MC,hlt',gO,A.fR,List.cons_append,List.nil_append,jT,hi1]
  cases p x<;>simp [aO,reduceCtorEq]
 ·intro u _;simp only[aO,reduceCtorEq,Int.lt_irrefl]
 ·intro u _;simp only[aO,reduceCtorEq]
 ·intro pre x rest s q hl' _ hb
  have:q=(pre.length:Int):=by
   cases hpx:p x
   ·rw[hpx]at hb;cases hb
   ·rw[hpx]at hb;simp at hb;exact hb.symm
  simp only[aO,reduceCtorEq,this]
 ·rw[BX p _ _ l [] (by simp)]
  simp only[List.nil_append]
  split
  ·rename_i h;rw[h]
  ·rfl
theorem acB (dyn:Nat→List AV→Heap→Option (AV×Heap)) (l:List aY) (hl:l.length≤aU) (n:Nat) (caps:List AV) (p:aY→Bool) (σ:Heap) (hd:∀x∈l,dyn n ((.agg (aX x):AV)::caps) σ=some (.bool (p x),σ)):Hv dyn [sl 11 aX l,.fn n caps] σ=some (.int .i64 (jI p l),σ):=by
 refine wrap_eq rfl ?_ rfl
 show KQ dyn (sl 11 aX l) (.fn n caps) σ=_
 unfold KQ
 simp only[aO,reduceCtorEq]
 refine(oI (S:=Unit) (R:=Int) l (fun pre x _=>if p x=true then .out (pre.length:Int)else .go ())
  (fun pre _=>[.int .i64 0,.int .i64 (pre.length:Int)]) (fun _ _=>σ) (fun _=>(.exit 0,[.int .i64 0,.int .i64 (l.length:Int)],σ)) (fun pre _ r=>(.ret,[.int .i64 (pre.length:Int),.int .i64 (pre.length:Int)],σ))
  (fun _ _=>True) () (fun _=>some (AV.int .i64 (-1),σ)) (fun r=>some (AV.int .i64 r,σ)) ?_ ?_ trivial (fun _ _ _ _ _ _ _ _=>trivial) ?_ ?_).trans ?_
 ·intro pre x rest u hl' _
  have hx:=oL hl'
  have hlt:=qO hl'
  have hi1:IntKind.i64.wrap ((pre.length:Int)+1)=(pre.length:Int)+1:=wrap64 (by unfold aM;unfold aU at hl;omega)
  have hlt':(pre.length:Int)<(l.length:Int):=by omega
  have gO:=jZ 11 aX l hx
  have jT:=hd x (by rw[hl'];simp)
  simp only[aO,reduceCtorEq,QX,aif,Ma,XS,QY,QZ,aih,aii,aij,XT,WV,Lm,IC,Ix,IE,hlt',gO,A.fR,List.cons_append,List.nil_append,jT,hi1]
  cases p x<;>simp [aO,reduceCtorEq]
 ·intro u _;simp only[aO,reduceCtorEq,Int.lt_irrefl]
 ·intro u _;simp only[aO,reduceCtorEq]
 ·intro pre x rest s q hl' _ hb
  have:q=(pre.length:Int):=by
   cases hpx:p x
   ·rw[hpx]at hb;cases hb
   ·rw[hpx]at hb;simp at hb;exact hb.symm
  simp only[aO,reduceCtorEq,this]
 ·rw[BX p _ _ l [] (by simp)]
  simp only[List.nil_append]
  split
  ·rename_i h;rw[h]
  ·rfl
theorem acv (dyn:Nat→List AV→Heap→Option (AV×Heap)) (l:List jl) (hl:l.length≤aU) (n:Nat) (caps:List AV) (p:jl→Bool) (σ:Heap) (hd:∀x∈l,dyn n ((.agg (dR x):AV)::caps) σ=some (.bool (p x),σ)):KN dyn [sl 2 dR l,.fn n caps] σ=some (.int .i64 (jI p l),σ):=by
 refine wrap_eq rfl ?_ rfl
 show KO dyn (sl 2 dR l) (.fn n caps) σ=_
 unfold KO
 simp only[aO,reduceCtorEq]
 refine(oI (S:=Unit) (R:=Int) l (fun pre x _=>if p x=true then .out (pre.length:Int)else .go ())
  (fun pre _=>[.int .i64 0,.int .i64 (pre.length:Int)]) (fun _ _=>σ) (fun _=>(.exit 0,[.int .i64 0,.int .i64 (l.length:Int)],σ)) (fun pre _ r=>(.ret,[.int .i64 (pre.length:Int),.int .i64 (pre.length:Int)],σ))
  (fun _ _=>True) () (fun _=>some (AV.int .i64 (-1),σ)) (fun r=>some (AV.int .i64 r,σ)) ?_ ?_ trivial (fun _ _ _ _ _ _ _ _=>trivial) ?_ ?_).trans ?_
 ·intro pre x rest u hl' _
  have hx:=oL hl'
  have hlt:=qO hl'
  have hi1:IntKind.i64.wrap ((pre.length:Int)+1)=(pre.length:Int)+1:=wrap64 (by unfold aM;unfold aU at hl;omega)
  have hlt':(pre.length:Int)<(l.length:Int):=by omega
  have gO:=jZ 2 dR l hx
  have jT:=hd x (by rw[hl'];simp)
  simp only[aO,reduceCtorEq,agL,Qr,ajq,aiO,MB,hlt',gO,A.fR,List.cons_append,List.nil_append,jT,hi1]
  cases p x<;>simp [aO,reduceCtorEq]
 ·intro u _;simp only[aO,reduceCtorEq,Int.lt_irrefl]
 ·intro u _;simp only[aO,reduceCtorEq]
 ·intro pre x rest s q hl' _ hb
  have:q=(pre.length:Int):=by
   cases hpx:p x
   ·rw[hpx]at hb;cases hb
   ·rw[hpx]at hb;simp at hb;exact hb.symm
  simp only[aO,reduceCtorEq,this]
 ·rw[BX p _ _ l [] (by simp)]
  simp only[List.nil_append]
  split
  ·rename_i h;rw[h]
  ·rfl
theorem acj (dyn:Nat→List AV→Heap→Option (AV×Heap)) (l:List mq) (hl:l.length≤aU) (n:Nat) (caps:List AV) (p:mq→Bool) (σ:Heap) (hd:∀x∈l,dyn n ((.agg (cC x):AV)::caps) σ=some (.bool (p x),σ)):KG dyn [sl 3 cC l,.fn n caps] σ=some (.int .i64 (jI p l),σ):=by
 refine wrap_eq rfl ?_ rfl
 show KH dyn (sl 3 cC l) (.fn n caps) σ=_
 unfold KH
 simp only[aO,reduceCtorEq]
 refine(oI (S:=Unit) (R:=Int) l (fun pre x _=>if p x=true then .out (pre.length:Int)else .go ())
  (fun pre _=>[.int .i64 0,.int .i64 (pre.length:Int)]) (fun _ _=>σ) (fun _=>(.exit 0,[.int .i64 0,.int .i64 (l.length:Int)],σ)) (fun pre _ r=>(.ret,[.int .i64 (pre.length:Int),.int .i64 (pre.length:Int)],σ))
  (fun _ _=>True) () (fun _=>some (AV.int .i64 (-1),σ)) (fun r=>some (AV.int .i64 r,σ)) ?_ ?_ trivial (fun _ _ _ _ _ _ _ _=>trivial) ?_ ?_).trans ?_
 ·intro pre x rest u hl' _
  have hx:=oL hl'
  have hlt:=qO hl'
  have hi1:IntKind.i64.wrap ((pre.length:Int)+1)=(pre.length:Int)+1:=wrap64 (by unfold aM;unfold aU at hl;omega)
  have hlt':(pre.length:Int)<(l.length:Int):=by omega
  have gO:=jZ 3 cC l hx
  have jT:=hd x (by rw[hl'];simp)
  simp only[aO,reduceCtorEq,ael,aem,aen,afj,ae5,Wa,hlt',gO,A.fR,List.cons_append,List.nil_append,jT,hi1]
  cases p x<;>simp [aO,reduceCtorEq]
 ·intro u _;simp only[aO,reduceCtorEq,Int.lt_irrefl]
 ·intro u _;simp only[aO,reduceCtorEq]
 ·intro pre x rest s q hl' _ hb
  have:q=(pre.length:Int):=by
   cases hpx:p x
   ·rw[hpx]at hb;cases hb
   ·rw[hpx]at hb;simp at hb;exact hb.symm
  simp only[aO,reduceCtorEq,this]
 ·rw[BX p _ _ l [] (by simp)]
  simp only[List.nil_append]
  split
  ·rename_i h;rw[h]
  ·rfl
theorem acf (dyn:Nat→List AV→Heap→Option (AV×Heap)) (l:List mq) (hl:l.length≤aU) (n:Nat) (caps:List AV) (p:mq→Bool) (σ:Heap) (hd:∀x∈l,dyn n ((.agg (cC x):AV)::caps) σ=some (.bool (p x),σ)):KE dyn [sl 3 cC l,.fn n caps] σ=some (.bool (l.any p),σ):=by
 refine wrap_eq rfl ?_ rfl
 show KF dyn (sl 3 cC l) (.fn n caps) σ=_
 unfold KF
 simp only[aO,reduceCtorEq,acj dyn l hl n caps p σ hd]
 refine congrArg some (congrArg (fun b=>(AV.bool b,σ)) ?_)
 exact ajb p l
theorem H9 (nm:ByteArray):∀(l:List cm),iP nm l=match l.find? (fun x:cm=>decide (x.name=nm))with|some p=>(p,true)|none=>(⟨⟨#[]⟩,0,[]⟩,false)
 |[]=>rfl
 |p::l=>by
  rw[iP]
  by_cases h:p.name=nm
  ·simp [h]
  ·simp [h,H9 nm l]
theorem aer (x:cm) (nm:ByteArray) (σ:Heap):Hz [.agg (bP x),.rp [.str nm]] σ=some (.bool (decide (x.name=nm)),σ):=by
 refine wrap_eq rfl ?_ rfl
 show OO (.agg (bP x)) (.rp [.str nm]) σ=_
 unfold OO
 simp only[aO,reduceCtorEq,qC,rM,qD,rP,rO,rQ]
 show(some (AV.str nm)).bind _=_
 simp only[aO,reduceCtorEq]
theorem nnP (x:cI):A.bT oV (bU x)=bU x:=rfl
theorem alZ (p:cm) (b:Bool):A.nn (.t [(.a [.k,.k,(.e 7 oV)]),.k]) (.aF [.agg (bP p),.bool b])=.aF [.agg (bP p),.bool b]:=by
 show AV.aF [.agg [.str p.name,.int .i64 p.size,A.nn (.e 7 oV) (sl 7 bU p.params)],.bool b]=_
 rw[uD nnP];rfl
theorem Qu (l:List cm) (hl:l.length≤aU) (nm:ByteArray) (σ:Heap):HF [sl 3 bP l,.str nm] σ=some (.aF [.agg (bP (iP nm l).1),.bool (iP nm l).2],σ):=by
 have key:∃w,Lb (sl 3 bP l) (.str nm) σ=some (w,σ)∧A.nn (.t [(.a [.k,.k,(.e 7 oV)]),.k]) w=.aF [.agg (bP (iP nm l).1),.bool (iP nm l).2]:=by
  unfold Lb
  simp only[aO,reduceCtorEq]
  rw[aco _ l hl 64 [.rp [.str nm]] (fun x=>decide (x.name=nm)) σ (fun x _=>aer x nm σ)]
  simp only[aO,reduceCtorEq]
  rw[H9]
  rcases zY (fun x:cm=>decide (x.name=nm)) l with⟨h1,_,h3⟩|⟨k,x,h1,h2,h3,h4,_⟩
  ·refine⟨.aF [.agg [.str ⟨#[]⟩,.int .i64 0,.aq],.bool false],?_,?_⟩
   ·rw[h1]
    simp only[aO,reduceCtorEq,show((-1:Int)<0)from by decide]
    rfl
   ·rw[h3];rfl
  ·refine⟨.aF [.agg (bP x),.bool true],?_,?_⟩
   ·rw[h3]
    simp only[aO,reduceCtorEq,qC,rM,qD,rP,rO,rQ,show ¬((k:Int)<0)from by omega,jZ 3 bP l h1]
   ·rw[h4];exact alZ x true
 obtain⟨w,h1,h2⟩:=key
 exact wrap_eq rfl h1 h2
def marks (f:Nat→Bool):List AV:=(List.range 513).map fun k=>.bool (f k)
theorem FW (f:Nat→Bool) {k:Nat} (h:k<513):(marks f)[k]? =some (.bool (f k)):=by simp [marks,h]
theorem Dw (f:Nat→Bool):(marks f).length=513:=by simp [marks]
theorem XB (f:Nat→Bool) {γ:Type} (K1 K2:γ):∀(s a:Nat) (pre:List Nat),(kH (fun _ k (_:Unit)=>if 512<k∨f k=true then(Rd.out ():Rd Unit Unit)else .go ()) pre (List.range' a s) ()).el (fun _=>K1) (fun _=>K2)=if vH f s a=true then K1 else K2
 |0,a,pre=>by simp [kH,vH,Rd.el]
 |s+1,a,pre=>by
  rw[List.range'_succ,kH,vH]
  by_cases h:512<a∨f a=true
  ·simp only[if_pos h,Rd.el];simp
  ·simp only[if_neg h]
   exact XB f K1 K2 s (a+1) _
theorem akk (a s:Int) (h:aM (a+s)) (h':aM (a+s-1)) (σ:Heap):Fk [.np,.int .i64 a,.int .i64 s] σ=some (.bool (decide (a+s-1≤512)),σ):=by
 refine wrap_eq rfl ?_ rfl
 show HA .np (.int .i64 a) (.int .i64 s) σ=_
 unfold HA
 simp only[aO,reduceCtorEq,show A.eql .p AV.np AV.np=some (.bool true)from rfl,wrap64 h,wrap64 h']
theorem aiF (cs:List AV) {k:Nat} (h:k<513):A.zh 513 1 (.rp cs) (.int .i64 (k:Int))=some (.rp (cs.drop k)):=by
 have h1:A.idx 513 (.int .i64 (k:Int))=some k:=by
  show(if(0:Int)≤(k:Int)∧(k:Int)<((513:Nat):Int)then some (k:Int).toNat else none)=some k
  rw[if_pos ⟨by omega,by omega⟩];rfl
 unfold A.zh
 rw[h1]
 simp only[Option.bind_some,Nat.mul_one]
theorem akm (f:Nat→Bool) (a s:Nat) (hs:a≤1024∧s≤1024) (σ:Heap):Fk [.rp (marks f),.int .i64 (a:Int),.int .i64 (s:Int)] σ=some (.bool (vH f s a),σ):=by
 refine wrap_eq rfl ?_ rfl
 show HA (.rp (marks f)) (.int .i64 (a:Int)) (.int .i64 (s:Int)) σ=_
 unfold HA
 have hw:IntKind.i64.wrap ((a:Int)+s)=(a:Int)+s:=wrap64 (by unfold aM;omega)
 simp only[aO,reduceCtorEq,show A.eql .p (AV.rp (marks f)) AV.np=some (.bool false)from rfl,hw]
 refine(oI (S:=Unit) (R:=Unit) (List.range' a s) (fun _ k (_:Unit)=>if 512<k∨f k=true then(Rd.out ():Rd Unit Unit)else .go ())
  (fun pre _=>[.bool false,.int .i64 ((a:Int)+(pre.length:Int))]) (fun _ _=>σ) (fun _=>(.exit 0,[.bool false,.int .i64 ((a:Int)+s)],σ)) (fun pre _ _=>(.ret,[.bool false,.int .i64 ((a:Int)+(pre.length:Int))],σ))
  (fun _ _=>True) () (fun _=>some (AV.bool true,σ)) (fun _=>some (AV.bool false,σ)) ?_ ?_ trivial (fun _ _ _ _ _ _ _ _=>trivial) ?_ ?_ (hv:=by simp)).trans ?_
 ·intro pre k rest u hl _
  have hx:=oL hl
  have hlt:=qO hl
  rw[List.length_range']at hlt
  obtain rfl:a+pre.length=k:=by
   have:=(List.getElem?_eq_some_iff.1 hx).2
   simpa [List.getElem_range']using this
  have hlt':(a:Int)+(pre.length:Int)<(a:Int)+s:=by omega
  have hi1:IntKind.i64.wrap ((a:Int)+(pre.length:Int)+1)=(a:Int)+((pre.length:Int)+1):=by rw[wrap64 (by unfold aM;omega)];omega
  have ecast:(a:Int)+(pre.length:Int)=((a+pre.length:Nat):Int):=by omega
  clear hl hx
  by_cases h5:512<a+pre.length
  ·have Ug:(512:Int)<(a:Int)+(pre.length:Int):=by omega
   simp only[aO,reduceCtorEq,hlt',h5,Ug]
  have Ug:¬(512:Int)<(a:Int)+(pre.length:Int):=by omega
  have hp:A.aj 0 ((marks f).drop (a+pre.length))=some (.bool (f (a+pre.length))):=by
   rw[UM];simp only[A.aj,Nat.add_zero,FW f (show a+pre.length<513 by omega)];rfl
  simp only[aO,reduceCtorEq,hlt',h5,Ug,show A.aN (AV.rp (marks f))=some (.rp (marks f))from rfl]
  rw[ecast,aiF _ (by omega)]
  simp only[aO,reduceCtorEq,hp]
  cases hf:f (a+pre.length)
  ·simp only[aO,reduceCtorEq,←ecast,hi1]
  ·simp only[aO,reduceCtorEq,←ecast]
 ·intro u _
  rw[List.length_range']
  exact F5 _ _ _
 ·intro u _;simp only[aO,reduceCtorEq]
 ·intros;simp only[aO,reduceCtorEq]
 ·rw[XB]
  cases vH f s a<;>rfl
theorem akl (f:Nat→Bool) (a s:Nat) (hs:a≤1024∧s≤1024) {σ:Heap} {id:Nat} (h:σ[id]? =some (.box (marks f))):Fk [.op id 0,.int .i64 (a:Int),.int .i64 (s:Int)] σ=some (.bool (vH f s a),σ):=by
 refine Zf (args':=[.rp (marks f),.int .i64 (a:Int),.int .i64 (s:Int)]) rfl ?_ rfl (akm f a s hs []) rfl
 have e:A.uj σ 0 7 (marks f)=some (marks f):=by
  have key:∀(l:List Nat),A.uj σ 0 7 (l.map fun k=>AV.bool (f k))=some (l.map fun k=>AV.bool (f k)):=by
   intro l
   induction l with
   |nil=>simp [A.uj]
   |cons x l ih=>simp [A.uj,A.bw,ih]
  exact key _
 simp [A.eG,A.bw,h,e]
def tX (b:Nat):List Int→List (AV×AV)
 |[]=>[]
 |v::r=>(.int .i64 v,.op b 0)::tX (b+1) r
def iM (σ:Heap) (vs:List Int) (f:Int→Nat→Bool):Heap:=σ++(aK.map (tX (σ.length+1) vs)::vs.map fun v=>aK.box (marks (f v)))
theorem Zd (v:Int):∀(vs:List Int) (b:Nat),tX b (vs++[v])=tX b vs++[(.int .i64 v,.op (b+vs.length) 0)]
 |[],b=>rfl
 |w::r,b=>by
  simp only[List.cons_append,tX,Zd v r (b+1),List.length_cons]
  rw[show b+1+r.length=b+(r.length+1) by omega]
theorem ME (v:Int):∀(vs:List Int) (b:Nat),A.find .i (.int .i64 v) (tX b vs)=some (if v∈vs then some (.op (b+vs.idxOf v) 0)else none)
 |[],b=>rfl
 |w::r,b=>by
  simp only[tX,A.find,A.eB,A.nF,if_true,Option.bind_some]
  by_cases h:v=w
  ·subst h;simp
  ·have h1:(v==w)=false:=by simpa using h
   have h2:(w==v)=false:=by simpa using fun e:w=v=>h e.symm
   simp only[h1,cond_false,ME v r (b+1),List.mem_cons,h,false_or,List.idxOf_cons,h2]
   rw[show b+1+r.idxOf v=b+(r.idxOf v+1) by omega]
theorem ZZ (v:Int) (w:AV):∀(vs:List Int) (b:Nat),v∉vs→A.upd .i (.int .i64 v) w (tX b vs)=some (tX b vs++[(.int .i64 v,w)])
 |[],b,_=>rfl
 |x::r,b,h=>by
  simp only[List.mem_cons,not_or]at h
  have h1:(v==x)=false:=by simpa using h.1
  simp only[tX,A.upd,A.eB,A.nF,if_true,Option.bind_some,h1,cond_false,ZZ v w r (b+1) h.2,Option.map_some,List.cons_append]
theorem Z1 (σ:Heap) (vs:List Int) (f:Int→Nat→Bool):(iM σ vs f).length=σ.length+1+vs.length:=by simp [iM];omega
theorem M1 (σ:Heap) (vs:List Int) (f:Int→Nat→Bool):(iM σ vs f)[σ.length]? =some (.map (tX (σ.length+1) vs)):=by simp [iM]
theorem Z0 (σ:Heap) {vs:List Int} (f:Int→Nat→Bool) {v:Int} (h:v∈vs):(iM σ vs f)[σ.length+1+vs.idxOf v]? =some (.box (marks (f v))):=by
 unfold iM
 rw[List.getElem?_append_right (by omega),show σ.length+1+vs.idxOf v-σ.length=vs.idxOf v+1 by omega,List.getElem?_cons_succ,List.getElem?_map]
 have:vs[vs.idxOf v]? =some v:=by
  have hl:=List.idxOf_lt_length_of_mem h
  rw[List.getElem?_eq_getElem hl,List.getElem_idxOf hl]
 rw[this];rfl
theorem aln (σ:Heap) {vs:List Int} (hn:vs.Nodup) {f f':Int→Nat→Bool} {v:Int} (h:v∈vs) (ho:∀w,w≠v→f' w=f w):(iM σ vs f).set (σ.length+1+vs.idxOf v) (.box (marks (f' v)))=iM σ vs f':=by
 unfold iM
 rw[List.set_append_right _ _ (by omega),show σ.length+1+vs.idxOf v-σ.length=vs.idxOf v+1 by omega,List.set_cons_succ]
 refine congrArg (fun z=>σ++(aK.map (tX (σ.length+1) vs)::z)) ?_
 clear σ
 induction vs with
 |nil=>cases h
 |cons w r ih=>
  rw[List.nodup_cons]at hn
  rw[List.idxOf_cons]
  by_cases e:w=v
  ·subst e
   simp only[beq_self_eq_true,cond_true,List.map_cons,List.set_cons_zero]
   exact congrArg (aK.box (marks (f' w))::·) (List.map_congr_left fun x hx=>by rw[ho x (fun e=>hn.1 (e▸hx))])
  ·have e2:(w==v)=false:=by simpa using e
   simp only[e2,cond_false,List.map_cons,List.set_cons_succ]
   rw[ih hn.2 ((List.mem_cons.1 h).resolve_left fun q=>e q.symm),ho w e]
theorem alm (σ:Heap) (vs:List Int) {f:Int→Nat→Bool} {v:Int} (h:∀k,f v k=false):((iM σ vs f)++[aK.box (List.replicate 513 aI)]).set σ.length (.map (tX (σ.length+1) (vs++[v])))=iM σ (vs++[v]) f:=by
 have e:marks (f v)=List.replicate 513 aI:=by
  rw[show f v=fun _=>false from funext h]
  refine List.eq_replicate_iff.2 ⟨Dw _,fun b hb=>?_⟩
  obtain⟨k,_,rfl⟩:=List.mem_map.1 hb
  rfl
 unfold iM
 simp only[List.append_assoc,List.cons_append]
 rw[List.set_append_right _ _ (Nat.le_refl _),Nat.sub_self,List.set_cons_zero,List.map_append,List.map_cons,e]
 rfl
theorem ah8 (g g':Nat→Bool) {k:Nat} (hk:k<513) (h1:g' k=true) (h2:∀j,j≠k→g' j=g j):A.splice k [AV.bool true] (marks g)=some (marks g'):=by
 unfold A.splice
 rw[if_pos (by rw[Dw];simp;omega)]
 refine congrArg some (List.ext_getElem? fun j=>?_)
 simp only[List.append_assoc,List.cons_append,List.nil_append,List.length_cons,List.length_nil]
 by_cases hj:j<k
 ·rw[List.getElem?_append_left (by rw[List.length_take,Dw];omega),List.getElem?_take_of_lt hj,FW _ (by omega),FW _ (by omega),h2 j (by omega)]
 ·rw[List.getElem?_append_right (by rw[List.length_take,Dw];omega),List.length_take,Dw,Nat.min_eq_left (by omega)]
  by_cases e:j=k
  ·subst e
   rw[Nat.sub_self,List.getElem?_cons_zero,FW _ hk,h1]
  ·rw[show j-k=(j-k-1)+1 by omega,List.getElem?_cons_succ,List.getElem?_drop,show k+(0+1)+(j-k-1)=j by omega]
   by_cases hj2:j<513
   ·rw[FW _ hj2,FW _ hj2,h2 j e]
   ·rw[List.getElem?_eq_none (by rw[Dw];omega),List.getElem?_eq_none (by rw[Dw];omega)]
theorem Ng {α γ:Type} (K1:Unit→γ) (K2:Unit→γ):∀(l pre:List α),(kH (fun _ (x:α) (_:Unit)=>(Rd.go ():Rd Unit Unit)) pre l ()).el K1 K2=K1 ()
 |[],pre=>rfl
 |x::l,pre=>by rw[kH];exact Ng K1 K2 l _
theorem Xa {α S:Type} {body:List α→α→S→Rd S Int} {uR:List α→List α→Int} (h0:∀pre,uR pre []=0) (h:∀pre x rest s,uR pre (x::rest)=(body pre x s).el (fun _=>uR (pre++[x]) rest) (fun r=>r)) {γ:Type} (K:Int→γ):
  ∀(l pre:List α) (s:S),(kH body pre l s).el (fun _=>K 0) K=K (uR pre l)
 |[],pre,s=>by rw[kH,h0];rfl
 |x::l,pre,s=>by
  rw[kH,h pre x l s]
  cases body pre x s with
  |go s'=>exact Xa h0 h K l (pre++[x]) s'
  |out r=>rfl
theorem agF (f:Int→Nat→Bool) (v:Int) (a:Nat):nS f v a 0=f:=by
 funext w k
 unfold nS
 rw[if_neg (by omega)]
theorem X9 {γ:Type} (σ:Heap) {vs:List Int} (hn:vs.Nodup) (f:Int→Nat→Bool) (u:ey) (a s:Nat) (ha:u.address=a) (hs:a+s≤513) (hm:u.univ∈vs) (K:List AV→Heap→Option γ):
  (A.loop (fun v11 BG=>
   ((A.lb (v11.getD 0 AV.undef)).bind fun _=>some (3)).bind fun p13=>
   ((A.lb (v11.getD 0 AV.undef)).bind fun i6=>A.aj p13 i6).bind fun dF=>
   (A.add dF (.int .i64 (s:Int))).bind fun cB=>
   (A.lss (v11.getD 1 AV.undef) cB).bind fun cQ=>
   A.cond cQ (
    ((A.lb (v11.getD 0 AV.undef)).bind fun _=>some (2)).bind fun p18=>
    ((A.lb (v11.getD 0 AV.undef)).bind fun jQ=>A.aj p18 jQ).bind fun cR=>
    (A.look .i (.om σ.length) cR AV.np BG).bind fun cr=>
    (A.aN cr).bind fun cZ=>
    (A.zh 513 1 cZ (v11.getD 1 AV.undef)).bind fun eC=>
    (A.storeAt eC [AV.bool true] BG).bind fun iK=>
    (A.add (v11.getD 1 AV.undef) aH).bind fun fK=>
    some (AX.normal,[(v11.getD 0 AV.undef),fK],iK)) (
    some (AX.exit 0,[(v11.getD 0 AV.undef),(v11.getD 1 AV.undef)],BG))) [.lbx (bB u),.int .i64 (a:Int)] (iM σ vs f)).bind (fun yl=>
 bif decide (yl.1=AX.exit 0)then K yl.2.1 yl.2.2 else none)=K [.lbx (bB u),.int .i64 ((a:Int)+s)] (iM σ vs (nS f u.univ a s)):=by
 have hw:IntKind.i64.wrap ((a:Int)+s)=(a:Int)+s:=wrap64 (by unfold aM;omega)
 refine(oI (S:=Unit) (R:=Unit) (List.range' a s) (fun _ k (_:Unit)=>(Rd.go ():Rd Unit Unit))
  (fun pre _=>[.lbx (bB u),.int .i64 ((a:Int)+(pre.length:Int))]) (fun pre _=>iM σ vs (nS f u.univ a pre.length)) (fun _=>(.exit 0,[.lbx (bB u),.int .i64 ((a:Int)+s)],iM σ vs (nS f u.univ a s))) (fun pre _ _=>(.ret,[],σ))
  (fun _ _=>True) () (fun _=>K [.lbx (bB u),.int .i64 ((a:Int)+s)] (iM σ vs (nS f u.univ a s))) (fun _=>none) ?_ ?_ trivial (fun _ _ _ _ _ _ _ _=>trivial) ?_ ?_ (hv:=by simp) (fU:=by rw[List.length_nil,agF])).trans (Ng _ _ _ _)
 ·intro pre k rest t hl _
  have hx:=oL hl
  have hlt:=qO hl
  rw[List.length_range']at hlt
  obtain rfl:a+pre.length=k:=by
   have:=(List.getElem?_eq_some_iff.1 hx).2
   simpa [List.getElem_range']using this
  have hlt':(a:Int)+(pre.length:Int)<(a:Int)+s:=by omega
  have hi1:IntKind.i64.wrap ((a:Int)+(pre.length:Int)+1)=(a:Int)+((pre.length:Int)+1):=by rw[wrap64 (by unfold aM;omega)];omega
  have ecast:(a:Int)+(pre.length:Int)=((a+pre.length:Nat):Int):=by omega
  clear hl hx
  have Sk:A.look .i (.om σ.length) (.int .i64 u.univ) AV.np (iM σ vs (nS f u.univ a pre.length))=some (.op (σ.length+1+vs.idxOf u.univ) 0):=by
   rw[B7 .i rfl (M1 σ vs _),ME,if_pos hm];rfl
  have aok:A.zh 513 1 (.op (σ.length+1+vs.idxOf u.univ) 0) (.int .i64 ((a+pre.length:Nat):Int))=some (.op (σ.length+1+vs.idxOf u.univ) (a+pre.length)):=by
   have h1:A.idx 513 (.int .i64 ((a+pre.length:Nat):Int))=some (a+pre.length):=by
    show(if(0:Int)≤((a+pre.length:Nat):Int)∧((a+pre.length:Nat):Int)<((513:Nat):Int)then some ((a+pre.length:Nat):Int).toNat else none)=_
    rw[if_pos ⟨by omega,by omega⟩];rfl
   unfold A.zh
   rw[h1]
   simp only[Option.bind_some,Nat.mul_one,Nat.zero_add]
  have hst:A.storeAt (.op (σ.length+1+vs.idxOf u.univ) (a+pre.length)) [.bool true] (iM σ vs (nS f u.univ a pre.length))=some (iM σ vs (nS f u.univ a (pre.length+1))):=by
   simp only[A.storeAt,Z0 σ _ hm]
   rw[ah8 _ (nS f u.univ a (pre.length+1) u.univ) (by omega) (by unfold nS;rw[if_pos ⟨rfl,by omega,by omega⟩]) (fun j hj=>by
    unfold nS
    by_cases q:a≤j∧j<a+pre.length
    ·rw[if_pos ⟨rfl,by omega,by omega⟩,if_pos ⟨rfl,q.1,q.2⟩]
    ·rw[if_neg (by omega),if_neg (by omega)])]
   simp only[Option.map_some]
   rw[aln σ hn hm (fun w hw=>by funext j;unfold nS;rw[if_neg (fun q=>hw q.1),if_neg (fun q=>hw q.1)])]
  simp only[aO,reduceCtorEq,qF,qG,qH,qI,nr,qJ,qK,ha,hw,hlt',Sk,show A.aN (.op (σ.length+1+vs.idxOf u.univ) 0)=some (.op (σ.length+1+vs.idxOf u.univ) 0)from rfl]
  rw[ecast,aok]
  simp only[aO,reduceCtorEq,hst,←ecast,hi1]
 ·intro t _
  rw[List.length_range']
  simp only[aO,reduceCtorEq,qF,qG,qH,qI,nr,qJ,qK,ha,hw,Int.lt_irrefl]
 ·intro t _;simp only[aO,reduceCtorEq]
 ·intro pre x rest t r _ _ hb;cases hb
theorem alh (σ:Heap) {vs:List Int} (hn:vs.Nodup) (f:Int→Nat→Bool) (u:ey) (a s:Nat) (ha:u.address=a) (hs:a+s≤513) (hf:u.univ∉vs→∀k,f u.univ k=false):
  Lf [.om σ.length,.agg (bB u),.int .i64 (s:Int)] (iM σ vs f)=some (.aF [],iM σ (if u.univ∈vs then vs else vs++[u.univ]) (nS f u.univ a s)):=by
 have e:HQ (.om σ.length) (.agg (bB u)) (.int .i64 (s:Int)) (iM σ vs f)=some (.aF [],iM σ (if u.univ∈vs then vs else vs++[u.univ]) (nS f u.univ a s)):=by
  unfold HQ
  have Sk:A.look .i (.om σ.length) (.int .i64 u.univ) AV.np (iM σ vs f)=some (if u.univ∈vs then .op (σ.length+1+vs.idxOf u.univ) 0 else .np):=by
   rw[B7 .i rfl (M1 σ vs _),ME]
   by_cases hm:u.univ∈vs<;>simp [hm]
  simp only[aO,reduceCtorEq,qF,qG,qH,qI,nr,qJ,qK,Sk]
  by_cases hm:u.univ∈vs
  ·simp only[if_pos hm,show A.eql .p (.op (σ.length+1+vs.idxOf u.univ) 0) AV.np=some (.bool false)from rfl,aO,reduceCtorEq,qF,qG,qH,qI,nr,qJ,qK,ha]
   exact X9 σ hn f u a s ha hs hm fun _ h=>some (AV.aF [],h)
  ·have UA:A.eA .i (.om σ.length) (.int .i64 u.univ) (.op (iM σ vs f).length 0) (iM σ vs f++[aK.box (List.replicate 513 aI)])=some (iM σ (vs++[u.univ]) f):=by
    rw[Ai .i rfl (es:=tX (σ.length+1) vs) (by rw[List.getElem?_append_left (by rw[Z1];omega)];exact M1 σ vs f),ZZ _ _ _ _ hm]
    rw[Option.map_some,Z1,←Zd,alm σ vs (hf hm)]
   simp only[if_neg hm,show A.eql .p AV.np AV.np=some (.bool true)from rfl,aO,reduceCtorEq,qF,qG,qH,qI,nr,qJ,qK,UA,ha]
   exact X9 σ (by rw[List.nodup_append];exact⟨hn,by simp,fun x hx y hy e=>hm (by simp at hy;rw[←hy,←e];exact hx)⟩) f u a s ha hs (by simp) fun _ h=>some (AV.aF [],h)
 unfold Lf A.wrap
 rw[Bool.false_and,cond_false]
 show(HQ (.om σ.length) (.agg (bB u)) (.int .i64 (s:Int)) (iM σ vs f)).map _=_
 rw[e];rfl
theorem agI {α:Type} (f:α→Int) {l pre rest:List α} {x:α} (h:l=pre++x::rest) (n:Int):(∃y,0<pre.length∧l[pre.length-1]? =some y∧Ed (pre.map f) n=decide (n≤f y))∨(¬0<pre.length∧Ed (pre.map f) n=false):=by
 by_cases h0:0<pre.length
 ·obtain⟨y,hy,hy2⟩:=YV h h0
  exact .inl ⟨y,h0,hy2,by simp [Ed,List.getLast?_map,hy]⟩
 ·obtain rfl:pre=[]:=List.eq_nil_of_length_eq_zero (by omega)
  exact .inr ⟨h0,rfl⟩
theorem ajP (σ:Heap) (vs:List Int) (f:Int→Nat→Bool) (v:Int):A.look .i (.om σ.length) (.int .i64 v) AV.np (iM σ vs f)=some (if v∈vs then .op (σ.length+1+vs.idxOf v) 0 else .np):=by
 rw[B7 .i rfl (M1 σ vs _),ME]
 by_cases hm:v∈vs<;>simp [hm]
theorem Zu (σ:Heap) (vs:List Int) (f:Int→Nat→Bool) (n:Int):A.fin σ (.int .i64 n) (iM σ vs f)=some (.int .i64 n,σ):=Ry _ _ _ _
theorem Lq (r:dO) (hok:rZ r) (σ:Heap):HD [.agg (eo r)] σ=some (.int .i64 (gp r),σ):=by
 refine wrap_eq rfl ?_ rfl
 show OW (.agg (eo r)) σ=_
 obtain⟨Tp,UB⟩:=hok
 have JU:=Tp.1
 unfold OW gp
 simp only[aO,reduceCtorEq,yI,yJ,yW,yS,yX,ad5 _ Tp]
 by_cases hf:vQ r.aS=0
 case neg=>simp only[aO,reduceCtorEq,hf]
 by_cases h4:400<r.units.length
 ·have h4':(400:Int)<r.units.length:=by omega
  simp only[aO,reduceCtorEq,yI,yJ,yW,yS,yX,hf,h4,h4']
 have h4':¬(400:Int)<r.units.length:=by omega
 simp only[aO,reduceCtorEq,yI,yJ,yW,yS,yX,hf,h4,h4']
 have aat:=agC hf
 generalize N7:r.units=l at *
 refine(oI (S:=List Int×(Int→Nat→Bool)) (R:=Int) l (fun pre u s=>if aQ u.number 1 9999=false then .out 1
    else if Ed (pre.map (·.number)) u.number=true then .out 7
    else if(iP u.profile r.aS).2=false then .out 5
    else if aQ u.univ 1 64=false∨aQ u.address 1 512=false∨512<pX r.aS u then .out 1
    else if Gk r.aS u pre=true then .out 12 else .go (if u.univ∈s.1 then s.1 else s.1++[u.univ],nS s.2 u.univ u.address.toNat (iP u.profile r.aS).1.size.toNat))
  (fun pre _=>[.lbx (eo r),.int .i64 0,.int .i64 (pre.length:Int)]) (fun pre s=>iM σ s.1 s.2)
  (fun s=>(.exit 0,[.lbx (eo r),.int .i64 0,.int .i64 (l.length:Int)],iM σ s.1 s.2)) (fun pre s n=>(.ret,[.lbx (eo r),.int .i64 n,.int .i64 (pre.length:Int)],iM σ s.1 s.2))
  (fun pre s=>Iu r.aS pre∧Cb r.aS pre s.2∧s.1.Nodup∧∀v,v∉s.1→∀k,s.2 v k=false) ([],fun _ _=>false) (fun _=>some (AV.int .i64 0,σ)) (fun n=>some (AV.int .i64 n,σ)) ?_ ?_ ⟨(by intro x hx;simp at hx),Cb.nil _,List.nodup_nil,fun _ _ _=>rfl⟩ ?_ ?_ ?_).trans ?_
 ·intro pre u rest s hl hP
  have hx:=oL hl;have hlt:=qO hl;have hi1:IntKind.i64.wrap ((pre.length:Int)+1)=(pre.length:Int)+1:=wrap64 (by unfold aM;omega);have hi2:IntKind.i64.wrap ((pre.length:Int) -1)=(pre.length:Int) -1:=wrap64 (by unfold aM;omega);have hlt':(pre.length:Int)<(l.length:Int):=by omega
  have hmp:pre.length≤aU:=by unfold aU;omega
  have gO:=jZ 4 bB l hx
  have N2:=Qu r.aS JU u.profile
  have ho:=agI (·.number) hl u.number
  obtain⟨vs,f⟩:=s
  obtain⟨JN,JO,G8,G9⟩:=hP
  dsimp only at JN JO G8 G9 ⊢
  clear UB h4 h4' hl hx
  simp only[aO,reduceCtorEq,qF,qG,qH,qI,nr,qJ,qK,yI,yJ,yW,yS,yX,N7,hlt',gO,N2,qC,rM,qD,rP,rO,rQ,jY]
  cases h1:aQ u.number 1 9999
  ·simp only[aO,reduceCtorEq]
  simp only[aO,reduceCtorEq]
  rcases ho with⟨y,h0,hy,ho⟩|⟨h0,ho⟩
  case' inl=>
   have rB:(0:Int)<pre.length:=by omega
   have Tl:=LN 4 bB l h0 hy
   by_cases hq:u.number≤y.number
   ·simp only[aO,reduceCtorEq,qF,qG,qH,qI,nr,qJ,qK,yI,yJ,yW,yS,yX,N7,rB,hi2,Tl,ho,hq]
   simp only[aO,reduceCtorEq,qF,qG,qH,qI,nr,qJ,qK,yI,yJ,yW,yS,yX,N7,rB,hi2,Tl,ho,hq]
  case' inr=>
   have rB:¬(0:Int)<pre.length:=by omega
   simp only[aO,reduceCtorEq,rB,ho]
  all_goals
   try simp only[aO,reduceCtorEq,qF,qG,qH,qI,nr,qJ,qK,yI,yJ,yW,yS,yX,N7,N2]
   cases hp:(iP u.profile r.aS).2
   ·simp only[aO,reduceCtorEq,qC,rM,qD,rP,rO,rQ]
   have hsz:=aat _ (Qt _ _ hp)
   try simp only[aO,reduceCtorEq,qF,qG,qH,qI,nr,qJ,qK,qC,rM,qD,rP,rO,rQ,jY]
   cases hu:aQ u.univ 1 64
   ·simp only[aO,reduceCtorEq]
   cases ha:aQ u.address 1 512
   ·simp only[aO,reduceCtorEq,qF,qG,qH,qI,nr,qJ,qK,jY,ha]
   have ha':1≤u.address∧u.address≤512:=by simpa [aQ]using ha
   have hw1:IntKind.i64.wrap (u.address+(iP u.profile r.aS).1.size)=u.address+(iP u.profile r.aS).1.size:=wrap64 (by unfold aM;omega)
   have hw2:IntKind.i64.wrap (u.address+(iP u.profile r.aS).1.size-1)=pX r.aS u:=wrap64 (by unfold aM;omega)
   have hlu:pX r.aS u=u.address+(iP u.profile r.aS).1.size-1:=rfl
   by_cases h5:512<pX r.aS u
   ·simp only[aO,reduceCtorEq,qF,qG,qH,qI,nr,qJ,qK,qC,rM,qD,rP,rO,rQ,jY,ha,hw1,hw2,h5]
   obtain⟨a,Uk⟩:∃a:Nat,u.address=a:=⟨u.address.toNat,by omega⟩
   obtain⟨n,hne⟩:∃n:Nat,(iP u.profile r.aS).1.size=n:=⟨(iP u.profile r.aS).1.size.toNat,by omega⟩
   have N5:=agx JO JN u a n Uk (by omega) (by omega) (by omega)
   have hfree:Fk [if u.univ∈vs then .op (σ.length+1+vs.idxOf u.univ) 0 else .np,.int .i64 (a:Int),.int .i64 (n:Int)] (iM σ vs f)=some (.bool (!Gk r.aS u pre),iM σ vs f):=by
    by_cases hm:u.univ∈vs
    ·rw[if_pos hm,akl (f u.univ) a n (by omega) (Z0 σ f hm),N5]
    ·rw[if_neg hm,akk a n (by unfold aM;omega) (by unfold aM;omega),←N5]
     have e:vH (f u.univ) n a=true:=(QN _ _ _).2 fun k h1 h2=>⟨by omega,G9 _ hm k⟩
     rw[e,show decide ((a:Int)+n-1≤512)=true from decide_eq_true (by omega)]
   have rF:=alh σ G8 f u a n Uk (by omega) (G9 u.univ)
   simp only[aO,reduceCtorEq,qF,qG,qH,qI,nr,qJ,qK,qC,rM,qD,rP,rO,rQ,jY,ha,hw1,hw2,h5,ajP]
   rw[Uk,hne]
   simp only[aO,reduceCtorEq,hfree]
   cases hc:Gk r.aS u pre
   ·simp only[aO,reduceCtorEq,qF,qG,qH,qI,nr,qJ,qK,qC,rM,qD,rP,rO,rQ,hne,rF,hi1,Int.toNat_natCast]
   ·simp only[aO,reduceCtorEq]
 ·intro s _
  exact F5 _ _ _
 ·intro pre u rest s s' hl hP hb
  obtain⟨vs,f⟩:=s
  obtain⟨JN,JO,G8,G9⟩:=hP
  dsimp only at JN JO G8 G9 hb
  split at hb
  ·cases hb
  split at hb
  ·cases hb
  split at hb
  ·cases hb
  rename_i hp
  split at hb
  ·cases hb
  rename_i hw
  split at hb
  ·cases hb
  injection hb with hb
  subst hb
  simp only[not_or,Bool.not_eq_false,aQ,Bool.and_eq_true,decide_eq_true_eq]at hw hp
  have hsz:=aat _ (Qt _ _ (by simpa using hp))
  have hlu:pX r.aS u=u.address+(iP u.profile r.aS).1.size-1:=rfl
  refine⟨JN.snoc ⟨hw.2.1.1,by omega,by omega⟩,JO.snoc u u.address.toNat _ (by omega) (by omega),?_,?_⟩
  ·dsimp only
   split
   ·exact G8
   ·rename_i hm
    rw[List.nodup_append];exact⟨G8,by simp,fun x hx y hy e=>hm (by simp at hy;rw[←hy,←e];exact hx)⟩
  ·intro v hv k
   dsimp only at hv ⊢
   have h1:v≠u.univ∧v∉vs:=by
    split at hv
    ·rename_i hm
     exact⟨fun e=>hv (e▸hm),hv⟩
    ·simp only[List.mem_append,List.mem_singleton,not_or]at hv
     exact⟨hv.2,hv.1⟩
   unfold nS
   rw[if_neg (fun q=>h1.1 q.1)]
   exact G9 v h1.2 k
 ·intro s _;simp only[aO,reduceCtorEq,Zu]
 ·intros;simp only[aO,reduceCtorEq,Zu]
 ·refine(Xa (uR:=CI r.aS) ?_ ?_ (fun n=>some (AV.int .i64 n,σ)) l [] _).trans ?_
  ·intro pre;rfl
  ·intro pre x rest s;rw[CI];simp only[Gl,Cd,Cp]
  ·rfl
def rT (gq:List cm) (u:ey):List aB:=(iP u.profile gq).1.params.map fun x=>⟨u.number,x.name⟩
def nQ (r:dO):List aB:=r.units.flatMap (rT r.aS)
theorem VE {p:cm} (h:pL p=0):p.params.length≤40:=by
 unfold pL at h
 repeat' split at h
 all_goals first|(simp at h;done)|omega
theorem WH:∀(l pre:List cm),zu pre l=0→∀p∈l,pL p=0
 |[],pre,h,p,hp=>by simp at hp
 |q::rest,pre,h,p,hp=>by
  rw[zu]at h
  by_cases e:pL q=0
  ·rw[if_pos e]at h
   by_cases e2:iI q.name (pre.map (·.name))=true
   ·rw[if_pos e2]at h;simp at h
   ·rw[if_neg e2]at h
    simp only[List.mem_cons]at hp
    rcases hp with rfl|hp
    ·exact e
    ·exact WH rest _ h p hp
  ·rw[if_neg e]at h;exact absurd h e
theorem DA {r:dO} (h:gp r=0):vQ r.aS=0:=by
 unfold gp at h
 split at h
 ·assumption
 ·rename_i h2;exact absurd h h2
theorem Ie {l:List cm} (h:vQ l=0):∀p∈l,pL p=0:=by
 unfold vQ at h
 by_cases e:60<l.length
 ·rw[if_pos e]at h;simp at h
 ·rw[if_neg e]at h;exact WH l [] h
theorem Qs {r:dO} (h:gp r=0) (nm:ByteArray):(iP nm r.aS).1.params.length≤40:=by
 rw[H9]
 cases hf:r.aS.find? (fun x:cm=>decide (x.name=nm))with
 |none=>exact Nat.zero_le _
 |some p=>exact VE (Ie (DA h) p (List.mem_of_find?_eq_some hf))
theorem P4 {r:dO} (h:gp r=0):∀(l:List ey),(l.flatMap (rT r.aS)).length≤l.length*40
 |[]=>by simp
 |u::l=>by
  have h1:=Qs h u.profile
  have h2:=P4 h l
  rw[List.flatMap_cons,List.length_append,List.length_cons,Nat.succ_mul]
  have h3:(rT r.aS u).length=(iP u.profile r.aS).1.params.length:=by simp [rT]
  omega
theorem alY (l:List aB) (n:Int):A.nn (.t [(.s 2),.k]) (.aF [if l=[]then .aq else sl 2 aL l,.int .i64 n])=.aF [sl 2 aL l,.int .i64 n]:=by
 show AV.aF [A.nn (.s 2) (if l=[]then .aq else sl 2 aL l),.int .i64 n]=_
 rw[al0]
theorem W9 {r:dO} (h:gp r=0):r.units.length≤400:=by
 unfold gp at h
 split at h
 ·split at h
  ·cases h
  ·omega
 ·rename_i h2;exact absurd h h2
theorem Rp (r:dO) (hok:rZ r) (σ:Heap):Fw [.agg (eo r)] σ=some (.aF [sl 2 aL (if gp r=0 then nQ r else[]),.int .i64 (gp r)],σ):=by
 by_cases hf:gp r=0
 ·refine wrap_eq rfl (v:=.aF [if nQ r=[]then .aq else sl 2 aL (nQ r),.int .i64 0]) ?_ (by rw[if_pos hf,hf];exact alY _ _)
  show HO (.agg (eo r)) σ=_
  unfold HO
  have hu:=W9 hf
  have Tp:=hok.1.2
  simp only[aO,reduceCtorEq,yI,yJ,yW,yS,yX,Lq r hok,hf]
  refine(oI (S:=Unit) (R:=Unit) r.units (fun pre u _=>(Rd.go ():Rd Unit Unit))
   (fun pre _=>[.lbx (eo r),vR σ.length 2 (pre.flatMap (rT r.aS)),.int .i64 (pre.length:Int)]) (fun pre _=>σ++sB 2 aL (pre.flatMap (rT r.aS)))
   (fun _=>(.exit 0,[.lbx (eo r),vR σ.length 2 (nQ r),.int .i64 (r.units.length:Int)],σ++sB 2 aL (nQ r))) (fun pre _ _=>(.ret,[],σ))
   (fun _ _=>True) () (fun _=>some (AV.aF [if nQ r=[]then .aq else sl 2 aL (nQ r),.int .i64 0],σ)) (fun _=>none) ?_ ?_ trivial (fun _ _ _ _ _ _ _ _=>trivial) ?_ ?_ (fU:=by simp [ajp])).trans (Ng _ _ _ _)
  ·intro pre u rest s hl _
   have hx:=oL hl
   have hlt:=qO hl
   have hi1:IntKind.i64.wrap ((pre.length:Int)+1)=(pre.length:Int)+1:=wrap64 (by unfold aM;omega)
   have hlt':(pre.length:Int)<(r.units.length:Int):=by omega
   have gO:=jZ 4 bB r.units hx
   have N2:=Qu r.aS hok.1.1 u.profile
   have hps:=Qs hf u.profile
   have Bw:=P4 hf pre
   have BA:(pre++[u]).flatMap (rT r.aS)=pre.flatMap (rT r.aS)++rT r.aS u:=by simp
   have aqj:pre.length≤399:=by omega
   generalize hK:pre.flatMap (rT r.aS)=K at *
   generalize hq:(iP u.profile r.aS).1=p at *
   simp only[aO,reduceCtorEq,qF,qG,qH,qI,nr,qJ,qK,yI,yJ,yW,yS,yX,hlt',gO,N2,hq,qC,rM,qD,rP,rO,rQ]
   refine(oI (S:=Unit) (R:=Unit) p.params (fun pre u _=>(Rd.go ():Rd Unit Unit))
    (fun yj _=>[.lbx (eo r),vR σ.length 2 (K++yj.map fun x=>(⟨u.number,x.name⟩:aB)),.lbx (bB u),.int .i64 (yj.length:Int)]) (fun yj _=>σ++sB 2 aL (K++yj.map fun x=>(⟨u.number,x.name⟩:aB)))
    (fun _=>(.exit 2,[.lbx (eo r),vR σ.length 2 (K++rT r.aS u),.lbx (bB u),.int .i64 (p.params.length:Int)],σ++sB 2 aL (K++rT r.aS u))) (fun pre _ _=>(.ret,[],σ))
    (fun _ _=>True) () (fun _=>some (.normal,[.lbx (eo r),vR σ.length 2 (K++rT r.aS u),.int .i64 ((pre.length:Int)+1)],σ++sB 2 aL (K++rT r.aS u))) (fun _=>none) ?_ ?_ trivial (fun _ _ _ _ _ _ _ _=>trivial) ?_ ?_ (hv:=by simp) (fU:=by simp)).trans ((Ng _ _ _ _).trans ?_)
   ·intro yj x rest' s hl' _
    have gx:=oL hl'
    have glt:=qO hl'
    have gi1:IntKind.i64.wrap ((yj.length:Int)+1)=(yj.length:Int)+1:=wrap64 (by unfold aM;omega)
    have aoj:(yj.length:Int)<(p.params.length:Int):=by omega
    have gia:=jZ 7 bU p.params gx
    have hap:=agK (most:=140737488355328 / 24) (sz:=2) aL (K++yj.map fun x=>(⟨u.number,x.name⟩:aB)) ⟨u.number,x.name⟩ σ (by
     rw[List.length_append,List.length_map]
     omega)
    have aoK:(K++(yj++[x]).map fun x=>(⟨u.number,x.name⟩:aB))=(K++yj.map fun x=>(⟨u.number,x.name⟩:aB))++[⟨u.number,x.name⟩]:=by simp
    clear hl gx glt hx hlt Bw hl'
    rw[aoK]
    have hch:AV.sl 2 (chunks 2 1 [AV.int .i64 u.number,AV.str x.name])=.sl 2 [aL ⟨u.number,x.name⟩]:=rfl
    simp only[aO,reduceCtorEq,H6,Ly,Lz,LA,LB,LC,LD,Mb,L0,Aa,qF,qG,qH,qI,nr,qJ,qK,aoj,gia,gi1]
    show(A.append 2 _ _ (AV.sl 2 [aL ⟨u.number,x.name⟩]) _).bind _=_
    rw[hap]
    simp only[aO,reduceCtorEq,gi1]
   ·intro s _
    refine(F5 _ _ _).trans ?_
    subst hq
    rfl
   ·intro s _;simp only[aO,reduceCtorEq,hi1]
   ·intros;rename_i hb;cases hb
   ·rw[BA]
  ·intro s _
   exact F5 _ _ _
  ·intro s _
   simp only[aO,reduceCtorEq,ai3 yV]
  ·intros;rename_i hb;cases hb
 ·refine wrap_eq rfl (v:=.aF [.aq,.int .i64 (gp r)]) ?_ (by rw[if_neg hf];rfl)
  show HO (.agg (eo r)) σ=_
  unfold HO
  simp only[aO,reduceCtorEq,yI,yJ,yW,yS,yX,Lq r hok,hf]
theorem Wo (n:Int) (σ:Heap):Lh [.int .i64 n] σ=some (.bool (aQ n 0 65535),σ):=by
 refine wrap_eq rfl ?_ rfl
 show PA (.int .i64 n) σ=_
 unfold PA
 simp only[aO,reduceCtorEq,jY]
def DD (s:ByteArray):Bool:=if s=⟨#[]⟩then true else IP s
theorem aiG (s:ByteArray) (hs:jd s) (σ:Heap):PM [.str s] σ=some (.bool (DD s),σ):=by
 refine wrap_eq rfl ?_ rfl
 show PV (.str s) σ=_
 unfold PV DD
 by_cases h:s=⟨#[]⟩
 ·simp only[aO,reduceCtorEq,h]
 ·simp only[aO,reduceCtorEq,h,Yc s hs]
def zg:cI:=⟨⟨#[]⟩,0,0,0,0,false,[]⟩
def Av (p:cm) (nm:ByteArray):cI×Bool:=(p.params.find? fun x=>decide (x.name=nm)).elim (zg,false) fun x=>(x,true)
def jj (r:dO) (k:aB):cI×Bool:=(r.units.find? fun u=>decide (u.number=k.unit)).elim (zg,false) fun u=>Av (iP u.profile r.aS).1 k.param
section
set_option maxRecDepth 100000
noncomputable def P3 (a0:Int):Option Bool:=
 some (aQ a0 0 36000000)
theorem FE {a0:Int} {σ:Heap} {r:Bool} (h:P3 a0=some r):BR [(AV.int .i64 a0)] σ=some ((AV.bool r),σ):=by
 refine yP (f:=PT) (y0:=(AV.int .i64 a0)) (enc:=fun r:Bool=>(AV.bool r)) (T:=P3 a0) rfl rfl ?_ r h
 unfold PT P3
 refine au _ (jY a0 0 36000000 σ) ?_
 exact eE _ (br _ _) ⟨rfl,rfl⟩
noncomputable def FB (a0:aB) (a1:aB):Option Int:=
 if ¬(a0.unit=a1.unit)then
  if a0.unit<a1.unit then
   some (-1)
  else
  some 1
 else
 some (Lib.compareBytes a0.param.data.toList a1.param.data.toList)
theorem aeL {a0:aB} {a1:aB} {σ:Heap} {r:Int} (h:FB a0 a1=some r):Lk [(AV.agg (aL a0)),(AV.agg (aL a1))] σ=some ((AV.int .i64 r),σ):=by
 refine uc (f:=PF) (y0:=(AV.agg (aL a0))) (y1:=(AV.agg (aL a1))) (enc:=fun r:Int=>(AV.int .i64 r)) (T:=FB a0 a1) rfl rfl ?_ r h
 unfold PF FB
 refine au _ rfl<|au _ rfl<|au _ rfl<|au _ rfl<|au _ (fI _ _ _) ?_
 refine lP (p:=¬(a0.unit=a1.unit)) (fun c2=>?_) (fun c2=>?_)
 ·refine au _ rfl<|au _ rfl<|au _ rfl ?_
  refine lP (p:=a0.unit<a1.unit) (fun c1=>?_) (fun c1=>?_)
  ·exact eE _ (br _ _) ⟨rfl,rfl⟩
  exact eE _ (br _ _) ⟨rfl,rfl⟩
 refine au _ rfl<|au _ rfl<|au _ rfl ?_
 exact eE _ (br _ _) ⟨rfl,rfl⟩
noncomputable def Fq (a0:(List fF)):Option Int:=
 lV a0 (fun(i8:Nat) e7 (s1:Unit)=>(show Option (Lr Unit Unit Int)from
   if(!(aQ e7.key.unit 1 9999))=true then
    some (.ret 1)
   else
   (tq (jd e7.key.param) (uk e7.key.param)).bind fun r9=>
   if(!r9)=true then
    some (.ret 5)
   else
   if((e7.release&&(decide (¬(e7.value=(⟨0,0⟩:mu)))))||((decide (¬(e7.value.level=0)))&&(decide (¬(e7.value.gh=0)))))=true then
    some (.ret 3)
   else
   if((!(aQ e7.value.level 0 65535))||(!(aQ e7.value.gh 0 999)))=true then
    some (.ret 1)
   else
   if((!e7.zm)&&((decide (¬(e7.delay=0)))||(decide (¬(e7.time=0)))))=true then
    some (.ret 3)
   else
   if((!((aQ e7.delay 0 36000000)))||(!((aQ e7.time 0 36000000))))=true then
    some (.ret 1)
   else
   (if decide (0<(i8:Int))=true then vi a0 (IntKind.i64.wrap ((i8:Int) -1))else some default).bind fun bE=>
   (if decide (0<(i8:Int))=true then FB bE.key e7.key else some default).bind fun cH=>
   if((decide (0<(i8:Int)))&&(decide (0≤cH)))=true then
    some (.ret 7)
   else
   some (.go ()))) (fun s1=>some ()) () (fun b2=>
  some 0) (fun b2=>
  some b2)
theorem adW {a0:(List fF)} {σ:Heap} {r:Int} (h:Fq a0=some r):O9 [(sl 8 fG a0)] σ=some ((AV.int .i64 r),σ):=by
 refine yP (f:=Pb) (y0:=(sl 8 fG a0)) (enc:=fun r:Int=>(AV.int .i64 r)) (T:=Fq a0) rfl rfl ?_ r h
 unfold Pb Fq
 refine au _ (gf _ _ _) ?_
 refine rW (B:=Unit) (R:=Int) (fun(i8:Nat) (s1:Unit) v w3=>v=[ah,(AV.int .i64 (i8:Int))]∧σ=w3) (fun(b2:Unit) (q:LS)=>∃u2 u7,q=((AX.exit 0),([u2,u7]:List AV),σ)) (fun(b2:Int) (q:LS)=>∃u7,q=(AX.ret,([(AV.int .i64 b2),u7]:List AV),σ)) ?_ ?_ ⟨rfl,rfl⟩ ?_ ?_
 ·intro Eb i8 e7 s1 v w3 sP hI
  obtain⟨rfl,rfl⟩:=hI
  refine au _ (jM sP)<|sk<|au _ (jk sP)<|au _ rfl<|au _ rfl<|au _ (MC _ _ rfl)<|au _ rfl<|au _ (jY e7.key.unit 1 9999 σ)<|au _ rfl ?_
  refine jo (c:=(!(aQ e7.key.unit 1 9999))) (fun iT=>?_) (fun iT=>?_)
  ·exact cD (iO (by simp) ⟨_,rfl⟩)
  refine au _ rfl ?_
  refine lg (fun r9:Bool=>((AV.bool r9),σ)) (fun r9 hr9=>(vN (e:=fun r:Bool=>((AV.bool r),σ)) (fun hs=>MF e7.key.param hs σ)) hr9) (fun r9 hr9=>?_)
  refine au _ rfl ?_
  refine jo (c:=(!r9)) (fun jP=>?_) (fun jP=>?_)
  ·exact cD (iO (by simp) ⟨_,rfl⟩)
  refine au _ rfl<|dV (AV.agg (vC e7.value)) (fun hg=>rfl)<|dV (AV.agg (vC (⟨0,0⟩:mu))) (fun hg=>rfl)<|dV (AV.bool (decide (¬(e7.value=(⟨0,0⟩:mu))))) (fun hg=>by(try rw[hg]);exact(ajo _ _))<|au _ (rV _ _)<|eF (AV.int .i64 e7.value.level) (fun hg=>rfl)<|eF (AV.bool (decide (¬(e7.value.level=0)))) (fun hg=>by(try rw[hg]);exact(fI _ _ _))<|eF (AV.bool (decide (¬(e7.value.level=0)))) (fun hg=>by(try rw[hg]);exact rfl)<|Gs (AV.int .i64 e7.value.gh) (fun hg=>rfl)<|Gs (AV.bool (decide (¬(e7.value.gh=0)))) (fun hg=>by(try rw[hg]);exact(fI _ _ _))<|eF (AV.bool ((decide (¬(e7.value.level=0)))&&(decide (¬(e7.value.gh=0))))) (fun hg=>by(try rw[hg]);exact(rV _ _))<|au _ (pY _ _) ?_
  refine jo (c:=((e7.release&&(decide (¬(e7.value=(⟨0,0⟩:mu)))))||((decide (¬(e7.value.level=0)))&&(decide (¬(e7.value.gh=0)))))) (fun jO=>?_) (fun jO=>?_)
  ·exact cD (iO (by simp) ⟨_,rfl⟩)
  refine au _ rfl<|au _ (jY e7.value.level 0 65535 σ)<|au _ rfl<|eF (AV.int .i64 e7.value.gh) (fun hg=>rfl)<|eF (AV.bool (aQ e7.value.gh 0 999)) (fun hg=>by(try rw[hg]);exact(quiet_of (jY e7.value.gh 0 999 σ)))<|eF (AV.bool (!(aQ e7.value.gh 0 999))) (fun hg=>by(try rw[hg]);exact rfl)<|au _ (pY _ _) ?_
  refine jo (c:=((!(aQ e7.value.level 0 65535))||(!(aQ e7.value.gh 0 999)))) (fun gV=>?_) (fun gV=>?_)
  ·exact cD (iO (by simp) ⟨_,rfl⟩)
  refine au _ rfl<|au _ rfl<|dV (AV.int .i64 e7.delay) (fun hg=>rfl)<|dV (AV.bool (decide (¬(e7.delay=0)))) (fun hg=>by(try rw[hg]);exact(fI _ _ _))<|dV (AV.bool (decide (¬(e7.delay=0)))) (fun hg=>by(try rw[hg]);exact rfl)<|aaH (AV.int .i64 e7.time) (fun hg=>rfl)<|aaH (AV.bool (decide (¬(e7.time=0)))) (fun hg=>by(try rw[hg]);exact(fI _ _ _))<|dV (AV.bool ((decide (¬(e7.delay=0)))||(decide (¬(e7.time=0))))) (fun hg=>by(try rw[hg]);exact(pY _ _))<|au _ (rV _ _) ?_
  refine jo (c:=((!e7.zm)&&((decide (¬(e7.delay=0)))||(decide (¬(e7.time=0)))))) (fun i6=>?_) (fun i6=>?_)
  ·exact cD (iO (by simp) ⟨_,rfl⟩)
  refine au _ rfl<|au _ (FE (σ:=σ) (r:=(aQ e7.delay 0 36000000)) rfl)<|au _ rfl<|eF (AV.int .i64 e7.time) (fun hg=>rfl)<|eF (AV.bool ((aQ e7.time 0 36000000))) (fun hg=>by(try rw[hg]);exact(quiet_of (FE (σ:=σ) (r:=(aQ e7.time 0 36000000)) rfl)))<|eF (AV.bool (!((aQ e7.time 0 36000000)))) (fun hg=>by(try rw[hg]);exact rfl)<|au _ (pY _ _) ?_
  refine jo (c:=((!((aQ e7.delay 0 36000000)))||(!((aQ e7.time 0 36000000))))) (fun fV=>?_) (fun fV=>?_)
  ·exact cD (iO (by simp) ⟨_,rfl⟩)
  refine au _ rfl<|dV (sl 8 fG a0) (fun hg=>rfl)<|dV (AV.int .i64 (i8:Int)) (fun hg=>rfl)<|dV (AV.int .i64 (IntKind.i64.wrap ((i8:Int) -1))) (fun hg=>by(try rw[hg]);exact rfl) ?_
  refine zc (ω:=fF) (fun bE=>(AV.rp (fG bE))) (fun hg bE abR=>by(try rw[hg]);exact Cs abR) (fun bE abR=>?_)
  refine dV (AV.rp (fG bE)) (fun hg=>by(try rw[hg]);exact rfl)<|dV (AV.agg (aL bE.key)) (fun hg=>by(try rw[hg]);exact rfl)<|dV (AV.agg (aL e7.key)) (fun hg=>rfl) ?_
  refine zc (ω:=Int) (fun cH=>(AV.int .i64 cH)) (fun hg cH Jl=>by(try rw[hg]);exact(quiet_of (aeL Jl))) (fun cH Jl=>?_)
  refine dV (AV.bool (decide (0≤cH))) (fun hg=>by(try rw[hg]);exact rfl)<|au _ (rV _ _) ?_
  refine jo (c:=((decide (0<(i8:Int)))&&(decide (0≤cH)))) (fun dX=>?_) (fun dX=>?_)
  ·exact cD (iO (by simp) ⟨_,rfl⟩)
  refine au _ (gK sP Eb) ?_
  exact cD (rX ⟨rfl,rfl⟩)
 ·intro hl s1 v w3 hI
  obtain⟨rfl,rfl⟩:=hI
  refine au _ (j0 _)<|sj ?_
  exact cD ⟨by simp,⟨_,_,rfl⟩⟩
 ·intro hl b2 q hq
  obtain⟨u2,u7,rfl⟩:=hq
  refine kT rfl ?_
  exact eE _ (br _ _) ⟨rfl,rfl⟩
 ·intro hl b2 q hq
  obtain⟨u7,rfl⟩:=hq
  refine xe rfl<|kT rfl ?_
  exact eE _ (br _ _) ⟨rfl,rfl⟩
noncomputable def FR (a0:(List aY)):Option Int:=
 if 300<(a0.length:Int)then
  some 2
 else
 lV a0 (fun(i8:Nat) e7 (s1:Int)=>(show Option (Lr Int Int Int)from
   if(!(aQ e7.number 1 9999999))=true then
    some (.ret 1)
   else
   (if decide (0<(i8:Int))=true then vi a0 (IntKind.i64.wrap ((i8:Int) -1))else some default).bind fun x9=>
   if((decide (0<(i8:Int)))&&(decide (e7.number≤x9.number)))=true then
    some (.ret 7)
   else
   (if decide (¬(e7.title=(⟨#[]⟩:ByteArray)))=true then tq (jd e7.title) (IP e7.title)else some default).bind fun kN=>
   if((decide (¬(e7.title=(⟨#[]⟩:ByteArray))))&&(!kN))=true then
    some (.ret 3)
   else
   if(((((!((aQ e7.delay 0 36000000)))||(!((aQ e7.up 0 36000000))))||(!((aQ e7.down 0 36000000))))||(!((aQ e7.other 0 36000000))))||(!(aQ e7.follow (-1) 36000000)))=true then
    some (.ret 1)
   else
   if ¬((pP e7.dS)=0)then
    some (.ret (pP e7.dS))
   else
   if 2000<(e7.dr.length:Int)then
    some (.ret 2)
   else
   (Fq e7.dr).bind fun cH=>
   if ¬(cH=0)then
    some (.ret cH)
   else
   some (.go (IntKind.i64.wrap (s1+(e7.dr.length:Int)))))) (fun s1=>some s1) 0 (fun b2=>
  some (if(decide (10000<b2))=true then 2 else 0)) (fun b2=>
  some b2)
theorem WS {a0:(List aY)} {σ:Heap} {r:Int} (h:FR a0=some r):Ig [(sl 11 aX a0)] σ=some ((AV.int .i64 r),σ):=by
 refine yP (f:=Qw) (y0:=(sl 11 aX a0)) (enc:=fun r:Int=>(AV.int .i64 r)) (T:=FR a0) (ff (uD (fun _=>rfl) _) rfl) rfl ?_ r h
 unfold Qw FR
 refine au _ (gf _ _ _)<|au _ rfl ?_
 refine lP (p:=300<(a0.length:Int)) (fun jQ=>?_) (fun jQ=>?_)
 ·exact eE _ (br _ _) ⟨rfl,rfl⟩
 refine au _ (gf _ _ _) ?_
 refine rW (B:=Int) (R:=Int) (fun(i8:Nat) (s1:Int) v w3=>v=[ah,(AV.int .i64 s1),(AV.int .i64 (i8:Int))]∧σ=w3) (fun(b2:Int) (q:LS)=>∃u2 Kr,q=((AX.exit 0),([u2,(AV.int .i64 b2),Kr]:List AV),σ)) (fun(b2:Int) (q:LS)=>∃u3 Kr,q=(AX.ret,([(AV.int .i64 b2),u3,Kr]:List AV),σ)) ?_ ?_ ⟨rfl,rfl⟩ ?_ ?_
 ·intro Eb i8 e7 s1 v w3 sP hI
  obtain⟨rfl,rfl⟩:=hI
  refine au _ (jM sP)<|sk<|au _ (jk sP)<|au _ rfl<|au _ rfl<|au _ (IE _ _ rfl)<|au _ rfl<|au _ (jY e7.number 1 9999999 σ)<|au _ rfl ?_
  refine jo (c:=(!(aQ e7.number 1 9999999))) (fun iT=>?_) (fun iT=>?_)
  ·exact cD (iO (by simp) ⟨_,_,rfl⟩)
  refine au _ rfl<|dV (AV.int .i64 e7.number) (fun hg=>rfl)<|dV (sl 11 aX a0) (fun hg=>rfl)<|dV (AV.int .i64 (i8:Int)) (fun hg=>rfl)<|dV (AV.int .i64 (IntKind.i64.wrap ((i8:Int) -1))) (fun hg=>by(try rw[hg]);exact rfl) ?_
  refine zc (ω:=aY) (fun x9=>(AV.rp (aX x9))) (fun hg x9 hx9=>by(try rw[hg]);exact Cs hx9) (fun x9 hx9=>?_)
  refine dV (AV.rp (aX x9)) (fun hg=>by(try rw[hg]);exact rfl)<|dV (AV.int .i64 x9.number) (fun hg=>by(try rw[hg]);exact rfl)<|dV (AV.bool (decide (e7.number≤x9.number))) (fun hg=>by(try rw[hg]);exact rfl)<|au _ (rV _ _) ?_
  refine jo (c:=((decide (0<(i8:Int)))&&(decide (e7.number≤x9.number)))) (fun jP=>?_) (fun jP=>?_)
  ·exact cD (iO (by simp) ⟨_,_,rfl⟩)
  refine au _ rfl<|au _ (SJ _ _)<|dV (AV.str e7.title) (fun hg=>rfl) ?_
  refine zc (ω:=Bool) (fun kN=>(AV.bool kN)) (fun hg kN abI=>by(try rw[hg]);exact(quiet_of ((vN (e:=fun r:Bool=>((AV.bool r),σ)) (fun hs=>Yc e7.title hs σ)) abI))) (fun kN abI=>?_)
  refine dV (AV.bool (!kN)) (fun hg=>by(try rw[hg]);exact rfl)<|au _ (rV _ _) ?_
  refine jo (c:=((decide (¬(e7.title=(⟨#[]⟩:ByteArray))))&&(!kN))) (fun jO=>?_) (fun jO=>?_)
  ·exact cD (iO (by simp) ⟨_,_,rfl⟩)
  refine au _ rfl<|au _ (FE (σ:=σ) (r:=(aQ e7.delay 0 36000000)) rfl)<|au _ rfl<|eF (AV.int .i64 e7.up) (fun hg=>rfl)<|eF (AV.bool ((aQ e7.up 0 36000000))) (fun hg=>by(try rw[hg]);exact(quiet_of (FE (σ:=σ) (r:=(aQ e7.up 0 36000000)) rfl)))<|eF (AV.bool (!((aQ e7.up 0 36000000)))) (fun hg=>by(try rw[hg]);exact rfl)<|au _ (pY _ _)<|eF (AV.int .i64 e7.down) (fun hg=>rfl)<|eF (AV.bool ((aQ e7.down 0 36000000))) (fun hg=>by(try rw[hg]);exact(quiet_of (FE (σ:=σ) (r:=(aQ e7.down 0 36000000)) rfl)))<|eF (AV.bool (!((aQ e7.down 0 36000000)))) (fun hg=>by(try rw[hg]);exact rfl)<|au _ (pY _ _)<|eF (AV.int .i64 e7.other) (fun hg=>rfl)<|eF (AV.bool ((aQ e7.other 0 36000000))) (fun hg=>by(try rw[hg]);exact(quiet_of (FE (σ:=σ) (r:=(aQ e7.other 0 36000000)) rfl)))<|eF (AV.bool (!((aQ e7.other 0 36000000)))) (fun hg=>by(try rw[hg]);exact rfl)<|au _ (pY _ _)<|eF (AV.int .i64 e7.follow) (fun hg=>rfl)<|eF (AV.bool (aQ e7.follow (-1) 36000000)) (fun hg=>by(try rw[hg]);exact(quiet_of (jY e7.follow (-1) 36000000 σ)))<|eF (AV.bool (!(aQ e7.follow (-1) 36000000))) (fun hg=>by(try rw[hg]);exact rfl)<|au _ (pY _ _) ?_
  refine jo (c:=(((((!((aQ e7.delay 0 36000000)))||(!((aQ e7.up 0 36000000))))||(!((aQ e7.down 0 36000000))))||(!((aQ e7.other 0 36000000))))||(!(aQ e7.follow (-1) 36000000)))) (fun gV=>?_) (fun gV=>?_)
  ·exact cD (iO (by simp) ⟨_,_,rfl⟩)
  refine au _ rfl<|au _ (VQ e7.dS σ)<|au _ (fI _ _ _) ?_
  refine lP (p:=¬((pP e7.dS)=0)) (fun i6=>?_) (fun i6=>?_)
  ·exact cD (iO (by simp) ⟨_,_,rfl⟩)
  refine au (sl 8 fG e7.dr) rfl<|au _ (gf _ _ _)<|au _ rfl ?_
  refine lP (p:=2000<(e7.dr.length:Int)) (fun fV=>?_) (fun fV=>?_)
  ·exact cD (iO (by simp) ⟨_,_,rfl⟩)
  refine au (sl 8 fG e7.dr) rfl ?_
  refine lg (fun cH:Int=>((AV.int .i64 cH),σ)) (fun cH Jl=>adW Jl) (fun cH Jl=>?_)
  refine au _ (fI _ _ _) ?_
  refine lP (p:=¬(cH=0)) (fun dX=>?_) (fun dX=>?_)
  ·exact cD (iO (by simp) ⟨_,_,rfl⟩)
  refine au (sl 8 fG e7.dr) rfl<|au _ (gf _ _ _)<|au _ rfl<|au _ (gK sP Eb) ?_
  exact cD (rX ⟨rfl,rfl⟩)
 ·intro hl s1 v w3 hI
  obtain⟨rfl,rfl⟩:=hI
  refine au _ (j0 _)<|sj ?_
  exact cD ⟨by simp,⟨_,_,rfl⟩⟩
 ·intro hl b2 q hq
  obtain⟨u2,Kr,rfl⟩:=hq
  refine kT rfl<|au _ rfl<|au _ (tg (decide (10000<b2)) 2 σ) ?_
  exact eE _ (br _ _) ⟨rfl,rfl⟩
 ·intro hl b2 q hq
  obtain⟨u3,Kr,rfl⟩:=hq
  refine xe rfl<|kT rfl ?_
  exact eE _ (br _ _) ⟨rfl,rfl⟩
noncomputable def FL (a0:dO):Option (List (aB×Bool)):=
 (tq (rZ a0) (((if gp a0=0 then nQ a0 else[]:List aB),gp a0))).bind fun r1=>
 lV r1.1 (fun(vf:Nat) kJ (s4:(List (aB×Bool)))=>(show Option (Lr (List (aB×Bool)) (List (aB×Bool)) Unit)from
   some (.go (dz kJ true s4)))) (fun s4=>some s4) ([]:List (aB×Bool)) (fun b5=>
  some b5) (fun b5=>
  none)
theorem afJ {a0:dO} {σ:Heap} {r:(List (aB×Bool))} (h:FL a0=some r):P7 [(AV.agg (eo a0))] σ=some ((uS (fun x=>(AV.agg (aL x))) (fun x=>(AV.bool x)) r),σ):=by
 refine yP (f:=P9) (y0:=(AV.agg (eo a0))) (enc:=fun r:(List (aB×Bool))=>(uS (fun x=>(AV.agg (aL x))) (fun x=>(AV.bool x)) r)) (T:=FL a0) rfl rfl ?_ r h
 unfold P9 FL
 refine au _ rfl<|au _ rfl ?_
 refine lg (fun r1:((List aB)×Int)=>((AV.aF [(sl 2 aL r1.1),(AV.int .i64 r1.2)]),σ)) (fun r1 jU=>(vN (e:=fun r:((List aB)×Int)=>((AV.aF [(sl 2 aL r.1),(AV.int .i64 r.2)]),σ)) (fun hs=>Rp a0 hs σ)) jU) (fun r1 jU=>?_)
 refine au (sl 2 aL r1.1) rfl<|au _ rfl ?_
 have hp2:Hp σ σ []:=RZ σ
 have hp3:Hp σ (σ++[aK.map []]) [((AV.om σ.length),(Ct.m (List.map (fun p=>((fun x=>(AV.agg (aL x))) p.1,(fun x=>(AV.bool x)) p.2)) ([]:List (aB×Bool)))))]:=Sm hp2
 refine au _ (gf _ _ _) ?_
 refine rW (B:=(List (aB×Bool))) (R:=Unit) (fun(vf:Nat) (s4:(List (aB×Bool))) v w6=>v=[(AV.int .i64 (vf:Int))]∧Hp σ w6 [((AV.om σ.length),(Ct.m (List.map (fun p=>((fun x=>(AV.agg (aL x))) p.1,(fun x=>(AV.bool x)) p.2)) s4)))]) (fun(b5:(List (aB×Bool))) (q:LS)=>∃u16 w7,q=((AX.exit 0),([u16]:List AV),w7)∧Hp σ w7 [((AV.om σ.length),(Ct.m (List.map (fun p=>((fun x=>(AV.agg (aL x))) p.1,(fun x=>(AV.bool x)) p.2)) b5)))]) (fun(b5:Unit) (q:LS)=>False) ?_ ?_ ⟨rfl,hp3⟩ ?_ ?_
 ·intro Sj vf kJ s4 v w6 Ea hI
  obtain⟨rfl,wm⟩:=hI
  refine au _ (jM Ea)<|sk<|au _ (jk Ea)<|au _ rfl<|au _ rfl<|au _ (MZ _ _ rfl)<|au _ rfl ?_
  obtain⟨w12,e14,abG⟩:=RB (ek:=(.s [0,2])) (eK:=(fun x=>(AV.agg (aL x)))) (eV:=(fun x=>(AV.bool x))) wm 0 rfl pM kJ true rfl
  change Hp σ w12 [((AV.om σ.length),(Ct.m (List.map (fun p=>((fun x=>(AV.agg (aL x))) p.1,(fun x=>(AV.bool x)) p.2)) (dz kJ true s4))))]at abG
  refine au w12 e14<|au _ (gK Ea Sj) ?_
  exact cD (rX ⟨rfl,abG⟩)
 ·intro hl s4 v w6 hI
  obtain⟨rfl,wm⟩:=hI
  refine au _ (j0 _)<|sj ?_
  exact cD ⟨by simp,⟨_,_,rfl,wm⟩⟩
 ·intro hl b5 q hq
  obtain⟨u16,w7,rfl,hp9⟩:=hq
  refine kT rfl ?_
  exact eE _ (Nb hp9 (aal hp9 (k:=0) rfl (by intro p hp;obtain⟨x,_,rfl⟩:=List.mem_map.1 hp;exact⟨(vE (yV _)),(B5 _)⟩))) ⟨rfl,rfl⟩
 ·intro hl b5 q hq
  exact False.elim hq
noncomputable def FC (a0:aB) (a1:aB):Option Bool:=
 if ¬(a0.unit=a1.unit)then
  some (decide (a0.unit<a1.unit))
 else
 some (decide ((Lib.compareBytes a0.param.data.toList a1.param.data.toList)<0))
theorem aeN {a0:aB} {a1:aB} {σ:Heap} {r:Bool} (h:FC a0 a1=some r):PE [(AV.agg (aL a0)),(AV.agg (aL a1))] σ=some ((AV.bool r),σ):=by
 refine uc (f:=PI) (y0:=(AV.agg (aL a0))) (y1:=(AV.agg (aL a1))) (enc:=fun r:Bool=>(AV.bool r)) (T:=FC a0 a1) rfl rfl ?_ r h
 unfold PI FC
 refine au _ rfl<|au _ rfl<|au _ rfl<|au _ rfl<|au _ (fI _ _ _) ?_
 refine lP (p:=¬(a0.unit=a1.unit)) (fun c1=>?_) (fun c1=>?_)
 ·refine au _ rfl<|au _ rfl<|au _ rfl ?_
  exact eE _ (br _ _) ⟨rfl,rfl⟩
 refine au _ rfl<|au _ rfl<|au _ rfl<|au _ rfl ?_
 exact eE _ (br _ _) ⟨rfl,rfl⟩
noncomputable def De (a0:dO) (a1:(List kE)):Option Int:=
 (tq (rZ a0) (gp a0)).bind fun r1=>
 (tq (([r1,(if(decide (200<(a1.length:Int)))=true then 2 else 0)]:(List Int)).length≤aU) ((([r1,(if(decide (200<(a1.length:Int)))=true then 2 else 0)]:(List Int)).find? fun n=>decide (¬n=0)).getD 0)).bind fun r2=>
 if ¬(r2=0)then
  some r2
 else
 (FL a0).bind fun r3=>
 lV a1 (fun(vf:Nat) kJ (s4:Unit)=>(show Option (Lr Unit Unit Int)from
   if(!(aQ kJ.number 1 999))=true then
    some (.ret 1)
   else
   (if decide (0<(vf:Int))=true then vi a1 (IntKind.i64.wrap ((vf:Int) -1))else some default).bind fun ck=>
   if((decide (0<(vf:Int)))&&(decide (kJ.number≤ck.number)))=true then
    some (.ret 7)
   else
   (tq (jd kJ.title) (DD kJ.title)).bind fun nK=>
   if(!nK)=true then
    some (.ret 3)
   else
   if 2000<(kJ.kD.length:Int)then
    some (.ret 2)
   else
   lV kJ.kD (fun(i21:Nat) Br (yy:Unit)=>(show Option (Lr Unit Unit Int)from
     if(!((bM Br.key r3).getD false))=true then
      some (.ret 8)
     else
     if(!(aQ Br.level 0 65535))=true then
      some (.ret 1)
     else
     (if decide (0<(i21:Int))=true then vi kJ.kD (IntKind.i64.wrap ((i21:Int) -1))else some default).bind fun cZ=>
     (if decide (0<(i21:Int))=true then FC cZ.key Br.key else some default).bind fun nL=>
     if((decide (0<(i21:Int)))&&(!nL))=true then
      some (.ret 7)
     else
     some (.go ()))) (fun yy=>some ()) () (fun Er=>
    some (.go ())) (fun Er=>
    some (.ret Er)))) (fun s4=>some ()) () (fun b5=>
  some 0) (fun b5=>
  some b5)
theorem Vg {a0:dO} {a1:(List kE)} {σ:Heap} {r:Int} (h:De a0 a1=some r):KS [(AV.agg (eo a0)),(sl 3 dP a1)] σ=some ((AV.int .i64 r),σ):=by
 refine uc (f:=OQ) (y0:=(AV.agg (eo a0))) (y1:=(sl 3 dP a1)) (enc:=fun r:Int=>(AV.int .i64 r)) (T:=De a0 a1) rfl rfl ?_ r h
 unfold OQ De
 refine au _ rfl<|au _ rfl ?_
 refine lg (fun r1:Int=>((AV.int .i64 r1),σ)) (fun r1 jU=>(vN (e:=fun r:Int=>((AV.int .i64 r),σ)) (fun hs=>Lq a0 hs σ)) jU) (fun r1 jU=>?_)
 refine au _ (gf _ _ _)<|au _ rfl<|au _ (tg (decide (200<(a1.length:Int))) 2 σ)<|au (sl 1 qW ([r1,(if(decide (200<(a1.length:Int)))=true then 2 else 0)]:(List Int))) rfl ?_
 refine lg (fun r2:Int=>((AV.int .i64 r2),σ)) (fun r2 tO=>(vN (e:=fun r:Int=>((AV.int .i64 r),σ)) (fun hs=>Ab ([r1,(if(decide (200<(a1.length:Int)))=true then 2 else 0)]:(List Int)) hs σ)) tO) (fun r2 tO=>?_)
 refine au _ (fI _ _ _) ?_
 refine lP (p:=¬(r2=0)) (fun ru=>?_) (fun ru=>?_)
 ·exact eE _ (br _ _) ⟨rfl,rfl⟩
 refine au _ rfl ?_
 refine lg (fun r3:(List (aB×Bool))=>((uS (fun x=>(AV.agg (aL x))) (fun x=>(AV.bool x)) r3),σ)) (fun r3 J4=>afJ J4) (fun r3 J4=>?_)
 refine au _ (gf _ _ _) ?_
 refine rW (B:=Unit) (R:=Int) (fun(vf:Nat) (s4:Unit) v w6=>∃u4,v=[u4,(AV.int .i64 (vf:Int))]∧σ=w6) (fun(b5:Unit) (q:LS)=>∃u4 Ks,q=((AX.exit 0),([u4,Ks]:List AV),σ)) (fun(b5:Int) (q:LS)=>∃Ks,q=(AX.ret,([(AV.int .i64 b5),Ks]:List AV),σ)) ?_ ?_ ⟨_,rfl,rfl⟩ ?_ ?_
 ·intro Sj vf kJ s4 v w6 Ea hI
  obtain⟨u4,rfl,rfl⟩:=hI
  refine au _ (jM Ea)<|sk<|au _ (jk Ea)<|au _ rfl<|au _ rfl<|au _ (Xl _ _ rfl)<|au _ rfl<|au _ (jY kJ.number 1 999 σ)<|au _ rfl ?_
  refine jo (c:=(!(aQ kJ.number 1 999))) (fun qn=>?_) (fun qn=>?_)
  ·exact cD (iO (by simp) ⟨_,rfl⟩)
  refine au _ rfl<|dV (AV.int .i64 kJ.number) (fun hg=>rfl)<|dV (sl 3 dP a1) (fun hg=>rfl)<|dV (AV.int .i64 (vf:Int)) (fun hg=>rfl)<|dV (AV.int .i64 (IntKind.i64.wrap ((vf:Int) -1))) (fun hg=>by(try rw[hg]);exact rfl) ?_
  refine zc (ω:=kE) (fun ck=>(AV.rp (dP ck))) (fun hg ck abT=>by(try rw[hg]);exact Cs abT) (fun ck abT=>?_)
  refine dV (AV.rp (dP ck)) (fun hg=>by(try rw[hg]);exact rfl)<|dV (AV.int .i64 ck.number) (fun hg=>by(try rw[hg]);exact rfl)<|dV (AV.bool (decide (kJ.number≤ck.number))) (fun hg=>by(try rw[hg]);exact rfl)<|au _ (rV _ _) ?_
  refine jo (c:=((decide (0<(vf:Int)))&&(decide (kJ.number≤ck.number)))) (fun tL=>?_) (fun tL=>?_)
  ·exact cD (iO (by simp) ⟨_,rfl⟩)
  refine au _ rfl ?_
  refine lg (fun nK:Bool=>((AV.bool nK),σ)) (fun nK abK=>(vN (e:=fun r:Bool=>((AV.bool r),σ)) (fun hs=>aiG kJ.title hs σ)) abK) (fun nK abK=>?_)
  refine au _ rfl ?_
  refine jo (c:=(!nK)) (fun qm=>?_) (fun qm=>?_)
  ·exact cD (iO (by simp) ⟨_,rfl⟩)
  refine au (sl 3 rR kJ.kD) rfl<|au _ (gf _ _ _)<|au _ rfl ?_
  refine lP (p:=2000<(kJ.kD.length:Int)) (fun jR=>?_) (fun jR=>?_)
  ·exact cD (iO (by simp) ⟨_,rfl⟩)
  refine au (sl 3 rR kJ.kD) rfl<|au _ (gf _ _ _) ?_
  refine rW (B:=Unit) (R:=Int) (fun(i21:Nat) (yy:Unit) v U1=>∃u4,v=[u4,(AV.lbx (dP kJ)),(AV.int .i64 (i21:Int))]∧σ=U1) (fun(Er:Unit) (q:LS)=>∃u4 u8 Ky,q=((AX.exit 3),([u4,u8,Ky]:List AV),σ)) (fun(Er:Int) (q:LS)=>∃u8 Ky,q=(AX.ret,([(AV.int .i64 Er),u8,Ky]:List AV),σ)) ?_ ?_ ⟨_,rfl,rfl⟩ ?_ ?_
  ·intro amR i21 Br yy v U1 Th hI
   obtain⟨u4,rfl,rfl⟩:=hI
   refine au _ (jM Th)<|sk<|au _ (jk Th)<|au _ rfl<|au _ rfl<|au _ (Wy _ _ rfl)<|au _ rfl<|au _ (ai6 (ek:=(.s [0,2])) (eK:=(fun x=>(AV.agg (aL x)))) (eV:=(fun x=>(AV.bool x))) pM Br.key false rfl)<|au _ rfl ?_
   refine jo (c:=(!((bM Br.key r3).getD false))) (fun fW=>?_) (fun fW=>?_)
   ·exact cD (iO (by simp) ⟨_,_,rfl⟩)
   refine au _ rfl<|au _ (Wo Br.level σ)<|au _ rfl ?_
   refine jo (c:=(!(aQ Br.level 0 65535))) (fun iK=>?_) (fun iK=>?_)
   ·exact cD (iO (by simp) ⟨_,_,rfl⟩)
   refine au _ rfl<|au _ rfl<|dV (sl 3 rR kJ.kD) (fun hg=>rfl)<|dV (AV.int .i64 (i21:Int)) (fun hg=>rfl)<|dV (AV.int .i64 (IntKind.i64.wrap ((i21:Int) -1))) (fun hg=>by(try rw[hg]);exact rfl) ?_
   refine zc (ω:=yM) (fun cZ=>(AV.rp (rR cZ))) (fun hg cZ abU=>by(try rw[hg]);exact Cs abU) (fun cZ abU=>?_)
   refine dV (AV.rp (rR cZ)) (fun hg=>by(try rw[hg]);exact rfl)<|dV (AV.agg (aL cZ.key)) (fun hg=>by(try rw[hg]);exact rfl)<|dV (AV.agg (aL Br.key)) (fun hg=>rfl) ?_
   refine zc (ω:=Bool) (fun nL=>(AV.bool nL)) (fun hg nL abL=>by(try rw[hg]);exact(quiet_of (aeN abL))) (fun nL abL=>?_)
   refine dV (AV.bool (!nL)) (fun hg=>by(try rw[hg]);exact rfl)<|au _ (rV _ _) ?_
   refine jo (c:=((decide (0<(i21:Int)))&&(!nL))) (fun iy=>?_) (fun iy=>?_)
   ·exact cD (iO (by simp) ⟨_,_,rfl⟩)
   refine au _ (gK Th amR) ?_
   exact cD (rX ⟨_,rfl,rfl⟩)
  ·intro hl yy v U1 hI
   obtain⟨u4,rfl,rfl⟩:=hI
   refine au _ (j0 _)<|sj ?_
   exact cD ⟨by simp,⟨_,_,_,rfl⟩⟩
  ·intro hl Er q hq
   obtain⟨u4,u8,Ky,rfl⟩:=hq
   refine kT rfl<|au _ (gK Ea Sj) ?_
   exact cD (rX ⟨_,rfl,rfl⟩)
  ·intro hl Er q hq
   obtain⟨u8,Ky,rfl⟩:=hq
   refine xe rfl<|kT rfl ?_
   exact cD (iO (by simp) ⟨_,rfl⟩)
 ·intro hl s4 v w6 hI
  obtain⟨u4,rfl,rfl⟩:=hI
  refine au _ (j0 _)<|sj ?_
  exact cD ⟨by simp,⟨_,_,rfl⟩⟩
 ·intro hl b5 q hq
  obtain⟨u4,Ks,rfl⟩:=hq
  refine kT rfl ?_
  exact eE _ (br _ _) ⟨rfl,rfl⟩
 ·intro hl b5 q hq
  obtain⟨Ks,rfl⟩:=hq
  refine xe rfl<|kT rfl ?_
  exact eE _ (br _ _) ⟨rfl,rfl⟩
noncomputable def FG (a0:(List kE)) (a1:aB) (a2:mu):Option (Int×Int):=
 if((decide (¬(a2.level=0)))&&(decide (¬(a2.gh=0))))=true then
  some (0,3)
 else
 if(!(aQ a2.level 0 65535))=true then
  some (0,1)
 else
 if a2.gh=0 then
  some (a2.level,0)
 else
 lV a0 (fun(i8:Nat) e7 (s1:Unit)=>(show Option (Lr Unit Unit Int)from
   if ¬(e7.number=a2.gh)then
    some (.go ())
   else
   lV e7.kD (fun(i16:Nat) NZ (s9:Unit)=>(show Option (Lr Unit Unit Int)from
     if NZ.key=a1 then
      some (.ret NZ.level)
     else
     some (.go ()))) (fun s9=>some ()) () (fun Eo=>
    some (.brk ())) (fun Eo=>
    some (.ret Eo)))) (fun s1=>some ()) () (fun b2=>
  some (0,8)) (fun b2=>
  some (b2,0))
theorem V4 {a0:(List kE)} {a1:aB} {a2:mu} {σ:Heap} {r:(Int×Int)} (h:FG a0 a1 a2=some r):Dn [(sl 3 dP a0),(AV.agg (aL a1)),(AV.agg (vC a2))] σ=some ((AV.aF [(AV.int .i64 r.1),(AV.int .i64 r.2)]),σ):=by
 refine Y2 (f:=PU) (y0:=(sl 3 dP a0)) (y1:=(AV.agg (aL a1))) (y2:=(AV.agg (vC a2))) (enc:=fun r:(Int×Int)=>(AV.aF [(AV.int .i64 r.1),(AV.int .i64 r.2)])) (T:=FG a0 a1 a2) rfl rfl ?_ r h
 unfold PU FG
 refine au _ rfl<|au _ rfl<|au _ rfl<|au _ (fI _ _ _)<|dV (AV.int .i64 a2.gh) (fun hg=>rfl)<|dV (AV.bool (decide (¬(a2.gh=0)))) (fun hg=>by(try rw[hg]);exact(fI _ _ _))<|au _ (rV _ _) ?_
 refine jo (c:=((decide (¬(a2.level=0)))&&(decide (¬(a2.gh=0))))) (fun i7=>?_) (fun i7=>?_)
 ·exact eE _ (br _ _) ⟨rfl,rfl⟩
 refine au _ rfl<|au _ (Wo a2.level σ)<|au _ rfl ?_
 refine jo (c:=(!(aQ a2.level 0 65535))) (fun iJ=>?_) (fun iJ=>?_)
 ·exact eE _ (br _ _) ⟨rfl,rfl⟩
 refine au _ rfl<|au _ (gR _ _ _) ?_
 refine lP (p:=a2.gh=0) (fun jQ=>?_) (fun jQ=>?_)
 ·refine au _ rfl ?_
  exact eE _ (br _ _) ⟨rfl,rfl⟩
 refine au _ (gf _ _ _) ?_
 refine rW (B:=Unit) (R:=Int) (fun(i8:Nat) (s1:Unit) v w3=>v=[(AV.lbx (aL a1)),(AV.lbx (vC a2)),ah,ah,(AV.int .i64 (i8:Int))]∧σ=w3) (fun(b2:Unit) (q:LS)=>∃u4 u5 u6 u7 Ku,q=((AX.exit 0),([u4,u5,u6,u7,Ku]:List AV),σ)) (fun(b2:Int) (q:LS)=>∃u4 u5 Ku,q=(AX.ret,([u4,u5,(AV.int .i64 b2),ah,Ku]:List AV),σ)) ?_ ?_ ⟨rfl,rfl⟩ ?_ ?_
 ·intro Eb i8 e7 s1 v w3 sP hI
  obtain⟨rfl,rfl⟩:=hI
  refine au _ (jM sP)<|sk<|au _ (jk sP)<|au _ rfl<|au _ rfl<|au _ (Xl _ _ rfl)<|au _ rfl<|au _ rfl<|au _ rfl<|au _ (fI _ _ _) ?_
  refine lP (p:=¬(e7.number=a2.gh)) (fun iT=>?_) (fun iT=>?_)
  ·refine au _ (gK sP Eb) ?_
   exact cD (rX ⟨rfl,rfl⟩)
  refine au (sl 3 rR e7.kD) rfl<|au _ (gf _ _ _) ?_
  refine rW (B:=Unit) (R:=Int) (fun(i16:Nat) (s9:Unit) v UY=>v=[(AV.lbx (aL a1)),ah,ah,(AV.int .i64 (i16:Int))]∧σ=UY) (fun(Eo:Unit) (q:LS)=>∃u4 u6 u7 Kv,q=((AX.exit 2),([u4,u6,u7,Kv]:List AV),σ)) (fun(Eo:Int) (q:LS)=>∃u4 Kv,q=(AX.ret,([u4,(AV.int .i64 Eo),ah,Kv]:List AV),σ)) ?_ ?_ ⟨rfl,rfl⟩ ?_ ?_
  ·intro amP i16 NZ s9 v UY Tf hI
   obtain⟨rfl,rfl⟩:=hI
   refine au _ (jM Tf)<|sk<|au _ (jk Tf)<|au _ rfl<|au _ rfl<|au _ (Wy _ _ rfl)<|au _ rfl<|au _ rfl<|au _ (aaf _ _) ?_
   refine lP (p:=NZ.key=a1) (fun jP=>?_) (fun jP=>?_)
   ·refine au _ rfl ?_
    exact cD (iO (by simp) ⟨_,_,rfl⟩)
   refine au _ (gK Tf amP) ?_
   exact cD (rX ⟨rfl,rfl⟩)
  ·intro hl s9 v UY hI
   obtain⟨rfl,rfl⟩:=hI
   refine au _ (j0 _)<|sj ?_
   exact cD ⟨by simp,⟨_,_,_,_,rfl⟩⟩
  ·intro hl Eo q hq
   obtain⟨u4,u6,u7,Kv,rfl⟩:=hq
   refine kT rfl ?_
   exact cD (ak7 (by simp) ⟨_,_,_,_,_,rfl⟩)
  ·intro hl Eo q hq
   obtain⟨u4,Kv,rfl⟩:=hq
   refine xe rfl<|kT rfl ?_
   exact cD (iO (by simp) ⟨_,_,_,rfl⟩)
 ·intro hl s1 v w3 hI
  obtain⟨rfl,rfl⟩:=hI
  refine au _ (j0 _)<|sj ?_
  exact cD ⟨by simp,⟨_,_,_,_,_,rfl⟩⟩
 ·intro hl b2 q hq
  obtain⟨u4,u5,u6,u7,Ku,rfl⟩:=hq
  refine kT rfl ?_
  exact eE _ (br _ _) ⟨rfl,rfl⟩
 ·intro hl b2 q hq
  obtain⟨u4,u5,Ku,rfl⟩:=hq
  refine xe rfl<|kT rfl ?_
  exact eE _ (br _ _) ⟨rfl,rfl⟩
noncomputable def Fu (a0:dO) (a1:(List kE)) (a2:(List aY)):Option Int:=
 (De a0 a1).bind fun r1=>
 (FR a2).bind fun r2=>
 (tq (([r1,r2]:(List Int)).length≤aU) ((([r1,r2]:(List Int)).find? fun n=>decide (¬n=0)).getD 0)).bind fun r3=>
 if ¬(r3=0)then
  some r3
 else
 (tq (rZ a0) (((if gp a0=0 then nQ a0 else[]:List aB),gp a0))).bind fun r4=>
 lV r4.1 (fun(UF:Nat) NY (s7:(List (aB×Bool)))=>(show Option (Lr (List (aB×Bool)) (List (aB×Bool)) Unit)from
   some (.go (dz NY true s7)))) (fun s7=>some s7) ([]:List (aB×Bool)) (fun b8=>
  lV a2 (fun(UH:Nat) JF (wC:Unit)=>(show Option (Lr Unit Unit Int)from
    lV JF.dr (fun(i33:Nat) G4 (On:Unit)=>(show Option (Lr Unit Unit Int)from
      if(!((bM G4.key b8).getD false))=true then
       some (.ret 8)
      else
      (FG a1 G4.key G4.value).bind fun nM=>
      if ¬(nM.2=0)then
       some (.ret nM.2)
      else
      some (.go ()))) (fun On=>some ()) () (fun Eu=>
     some (.go ())) (fun Eu=>
     some (.ret Eu)))) (fun wC=>some ()) () (fun Et=>
   some 0) (fun Et=>
   some Et)) (fun b8=>
  none)
theorem ad7 {a0:dO} {a1:(List kE)} {a2:(List aY)} {σ:Heap} {r:Int} (h:Fu a0 a1 a2=some r):Pf [(AV.agg (eo a0)),(sl 3 dP a1),(sl 11 aX a2)] σ=some ((AV.int .i64 r),σ):=by
 refine Y2 (f:=Ph) (y0:=(AV.agg (eo a0))) (y1:=(sl 3 dP a1)) (y2:=(sl 11 aX a2)) (enc:=fun r:Int=>(AV.int .i64 r)) (T:=Fu a0 a1 a2) (ff (mA (ff (uD (fun _=>(ff rfl (ff rfl (ff (uD (fun _=>rfl) _) AG)))) _) (ff rfl AG))) (ff (uD (fun _=>rfl) _) (ff (uD (fun _=>rfl) _) rfl))) rfl ?_ r h
 unfold Ph Fu
 refine au _ rfl<|au _ rfl ?_
 refine lg (fun r1:Int=>((AV.int .i64 r1),σ)) (fun r1 jU=>Vg jU) (fun r1 jU=>?_)
 refine lg (fun r2:Int=>((AV.int .i64 r2),σ)) (fun r2 tO=>WS tO) (fun r2 tO=>?_)
 refine au (sl 1 qW ([r1,r2]:(List Int))) rfl ?_
 refine lg (fun r3:Int=>((AV.int .i64 r3),σ)) (fun r3 J4=>(vN (e:=fun r:Int=>((AV.int .i64 r),σ)) (fun hs=>Ab ([r1,r2]:(List Int)) hs σ)) J4) (fun r3 J4=>?_)
 refine au _ (fI _ _ _) ?_
 refine lP (p:=¬(r3=0)) (fun fJ=>?_) (fun fJ=>?_)
 ·exact eE _ (br _ _) ⟨rfl,rfl⟩
 refine au _ rfl ?_
 refine lg (fun r4:((List aB)×Int)=>((AV.aF [(sl 2 aL r4.1),(AV.int .i64 r4.2)]),σ)) (fun r4 hr4=>(vN (e:=fun r:((List aB)×Int)=>((AV.aF [(sl 2 aL r.1),(AV.int .i64 r.2)]),σ)) (fun hs=>Rp a0 hs σ)) hr4) (fun r4 hr4=>?_)
 refine au (sl 2 aL r4.1) rfl<|au _ rfl ?_
 have hp5:Hp σ σ []:=RZ σ
 have hp6:Hp σ (σ++[aK.map []]) [((AV.om σ.length),(Ct.m (List.map (fun p=>((fun x=>(AV.agg (aL x))) p.1,(fun x=>(AV.bool x)) p.2)) ([]:List (aB×Bool)))))]:=Sm hp5
 refine au _ (gf _ _ _) ?_
 refine rW (B:=(List (aB×Bool))) (R:=Unit) (fun(UF:Nat) (s7:(List (aB×Bool))) v w9=>v=[(AV.int .i64 (UF:Int))]∧Hp σ w9 [((AV.om σ.length),(Ct.m (List.map (fun p=>((fun x=>(AV.agg (aL x))) p.1,(fun x=>(AV.bool x)) p.2)) s7)))]) (fun(b8:(List (aB×Bool))) (q:LS)=>∃u37 UX,q=((AX.exit 0),([u37]:List AV),UX)∧Hp σ UX [((AV.om σ.length),(Ct.m (List.map (fun p=>((fun x=>(AV.agg (aL x))) p.1,(fun x=>(AV.bool x)) p.2)) b8)))]) (fun(b8:Unit) (q:LS)=>False) ?_ ?_ ⟨rfl,hp6⟩ ?_ ?_
 ·intro amO UF NY s7 v w9 Te hI
  obtain⟨rfl,Tr⟩:=hI
  refine au _ (jM Te)<|sk<|au _ (jk Te)<|au _ rfl<|au _ rfl<|au _ (MZ _ _ rfl)<|au _ rfl ?_
  obtain⟨w15,kK,NL⟩:=RB (ek:=(.s [0,2])) (eK:=(fun x=>(AV.agg (aL x)))) (eV:=(fun x=>(AV.bool x))) Tr 0 rfl pM NY true rfl
  change Hp σ w15 [((AV.om σ.length),(Ct.m (List.map (fun p=>((fun x=>(AV.agg (aL x))) p.1,(fun x=>(AV.bool x)) p.2)) (dz NY true s7))))]at NL
  refine au w15 kK<|au _ (gK Te amO) ?_
  exact cD (rX ⟨rfl,NL⟩)
 ·intro hl s7 v w9 hI
  obtain⟨rfl,Tr⟩:=hI
  refine au _ (j0 _)<|sj ?_
  exact cD ⟨by simp,⟨_,_,rfl,Tr⟩⟩
 ·intro hl b8 q hq
  obtain⟨u37,UX,rfl,aoE⟩:=hq
  refine kT rfl<|au _ (gf _ _ _) ?_
  refine rW (B:=Unit) (R:=Int) (fun(UH:Nat) (wC:Unit) v U3=>∃u6,v=[u6,(AV.int .i64 (UH:Int))]∧Hp σ U3 [((AV.om σ.length),(Ct.m (List.map (fun p=>((fun x=>(AV.agg (aL x))) p.1,(fun x=>(AV.bool x)) p.2)) b8)))]) (fun(Et:Unit) (q:LS)=>∃u6 Kw E9,q=((AX.exit 2),([u6,Kw]:List AV),E9)∧Hp σ E9 [((AV.om σ.length),(Ct.m (List.map (fun p=>((fun x=>(AV.agg (aL x))) p.1,(fun x=>(AV.bool x)) p.2)) b8)))]) (fun(Et:Int) (q:LS)=>∃Kw E9,q=(AX.ret,([(AV.int .i64 Et),Kw]:List AV),E9)∧Hp σ E9 []) ?_ ?_ ⟨_,rfl,aoE⟩ ?_ ?_
  ·intro amS UH JF wC v U3 Tj hI
   obtain⟨u6,rfl,Ts⟩:=hI
   refine au _ (jM Tj)<|sk<|au _ (jk Tj)<|au _ rfl<|au _ rfl<|au _ (IE _ _ rfl)<|au (sl 8 fG JF.dr) rfl<|au _ (gf _ _ _) ?_
   refine rW (B:=Unit) (R:=Int) (fun(i33:Nat) (On:Unit) v Ou=>∃u6,v=[u6,(AV.int .i64 (i33:Int))]∧Hp σ Ou [((AV.om σ.length),(Ct.m (List.map (fun p=>((fun x=>(AV.agg (aL x))) p.1,(fun x=>(AV.bool x)) p.2)) b8)))]) (fun(Eu:Unit) (q:LS)=>∃u6 Kx Fa,q=((AX.exit 4),([u6,Kx]:List AV),Fa)∧Hp σ Fa [((AV.om σ.length),(Ct.m (List.map (fun p=>((fun x=>(AV.agg (aL x))) p.1,(fun x=>(AV.bool x)) p.2)) b8)))]) (fun(Eu:Int) (q:LS)=>∃Kx Fa,q=(AX.ret,([(AV.int .i64 Eu),Kx]:List AV),Fa)∧Hp σ Fa []) ?_ ?_ ⟨_,rfl,Ts⟩ ?_ ?_
   ·intro amT i33 G4 On v Ou Tk hI
    obtain⟨u6,rfl,GL⟩:=hI
    refine au _ (jM Tk)<|sk<|au _ (jk Tk)<|au _ rfl<|au _ rfl<|au _ (MC _ _ rfl)<|au _ rfl<|au _ (aja (ek:=(.s [0,2])) (eK:=(fun x=>(AV.agg (aL x)))) (eV:=(fun x=>(AV.bool x))) GL 0 rfl pM G4.key false rfl)<|au _ rfl ?_
    refine jo (c:=(!((bM G4.key b8).getD false))) (fun gD=>?_) (fun gD=>?_)
    ·exact cD (iO (by simp) ⟨_,_,rfl,(RD GL)⟩)
    refine au _ rfl<|au _ rfl ?_
    refine lg (fun nM:(Int×Int)=>((AV.aF [(AV.int .i64 nM.1),(AV.int .i64 nM.2)]),Ou)) (fun nM abN=>V4 abN) (fun nM abN=>?_)
    refine au _ rfl<|au _ rfl<|au _ (fI _ _ _) ?_
    refine lP (p:=¬(nM.2=0)) (fun gC=>?_) (fun gC=>?_)
    ·exact cD (iO (by simp) ⟨_,_,rfl,(RD GL)⟩)
    refine au _ (gK Tk amT) ?_
    exact cD (rX ⟨_,rfl,GL⟩)
   ·intro hl On v Ou hI
    obtain⟨u6,rfl,GL⟩:=hI
    refine au _ (j0 _)<|sj ?_
    exact cD ⟨by simp,⟨_,_,_,rfl,GL⟩⟩
   ·intro hl Eu q hq
    obtain⟨u6,Kx,Fa,rfl,Tt⟩:=hq
    refine kT rfl<|au _ (gK Tj amS) ?_
    exact cD (rX ⟨_,rfl,Tt⟩)
   ·intro hl Eu q hq
    obtain⟨Kx,Fa,rfl,Tt⟩:=hq
    refine xe rfl<|kT rfl ?_
    exact cD (iO (by simp) ⟨_,_,rfl,(RD Tt)⟩)
  ·intro hl wC v U3 hI
   obtain⟨u6,rfl,Ts⟩:=hI
   refine au _ (j0 _)<|sj ?_
   exact cD ⟨by simp,⟨_,_,_,rfl,Ts⟩⟩
  ·intro hl Et q hq
   obtain⟨u6,Kw,E9,rfl,GK⟩:=hq
   refine kT rfl ?_
   exact eE _ (Nb GK (aak (dM _ _))) ⟨rfl,rfl⟩
  ·intro hl Et q hq
   obtain⟨Kw,E9,rfl,GK⟩:=hq
   refine xe rfl<|kT rfl ?_
   exact eE _ (Nb GK (aak (dM _ _))) ⟨rfl,rfl⟩
 ·intro hl b8 q hq
  exact False.elim hq
end
section
set_option maxRecDepth 100000
noncomputable def Po (a0:jl) (a1:Int):Option Bool:=
 some (decide (a0.number=a1))
theorem ad9 {a0:jl} {a1:Int} {σ:Heap} {r:Bool} (h:Po a0 a1=some r):HL [(AV.agg (dR a0)),(AV.rp [(AV.int .i64 a1)])] σ=some ((AV.bool r),σ):=by
 refine uc (f:=Pm) (y0:=(AV.agg (dR a0))) (y1:=(AV.rp [(AV.int .i64 a1)])) (enc:=fun r:Bool=>(AV.bool r)) (T:=Po a0 a1) rfl rfl ?_ r h
 unfold Pm Po
 refine au _ rfl<|au _ rfl<|au _ rfl<|au _ (gR _ _ _) ?_
 exact eE _ (br _ _) ⟨rfl,rfl⟩
noncomputable def FM (a0:gJ) (a1:Int):Option (jl×Bool):=
 (tq (a0.lists.length≤aU) (jI (fun x=>(decide (x.number=a1))) a0.lists)).bind fun r1=>
 if r1<0 then
  some ((⟨0,[]⟩:jl),false)
 else
 (vi a0.lists r1).bind fun x2=>
 some (x2,true)
theorem Wn {a0:gJ} {a1:Int} {σ:Heap} {r:(jl×Bool)} (h:FM a0 a1=some r):BS [(AV.agg (bl a0)),(AV.int .i64 a1)] σ=some ((AV.aF [(AV.agg (dR r.1)),(AV.bool r.2)]),σ):=by
 refine uc (f:=LL) (y0:=(AV.agg (bl a0))) (y1:=(AV.int .i64 a1)) (enc:=fun r:(jl×Bool)=>(AV.aF [(AV.agg (dR r.1)),(AV.bool r.2)])) (T:=FM a0 a1) rfl rfl ?_ r h
 unfold LL FM
 refine au _ rfl<|au _ rfl<|au (sl 2 dR a0.lists) rfl ?_
 refine lg (fun r1:Int=>((AV.int .i64 r1),σ)) (fun r1 jU=>(vN (e:=fun r:Int=>((AV.int .i64 r),σ)) (fun hs=>acv _ a0.lists hs _ _ (fun x=>(decide (x.number=a1))) σ (fun x hx=>ad9 (σ:=σ) (r:=(decide (x.number=a1))) rfl))) jU) (fun r1 jU=>?_)
 refine au _ rfl ?_
 refine lP (p:=r1<0) (fun c3=>?_) (fun c3=>?_)
 ·refine au [ah,AV.aq] rfl<|au [ah,AV.aq] rfl<|au _ rfl ?_
  exact eE _ (br _ _) ⟨(NP (ff (mA (ff rfl (ff (by first|rfl|exact ZC _ _) AG))) (ff rfl AG))),rfl⟩
 refine au (sl 2 dR a0.lists) rfl ?_
 refine lg (fun x2:jl=>(AV.rp (dR x2))) (fun x2 hx2=>Cs hx2) (fun x2 hx2=>?_)
 refine au _ rfl<|au _ rfl<|au _ (MB _ _ rfl)<|au _ rfl ?_
 exact eE _ (br _ _) ⟨(NP (ff (mA (ff rfl (ff (uD (fun _=>rfl) _) AG))) (ff rfl AG))),rfl⟩
noncomputable def HJ (a0:gJ):Option Int:=
 (De a0.aR a0.bJ).bind fun r1=>
 (tq (([r1,(if(decide (30<(a0.lists.length:Int)))=true then 2 else 0)]:(List Int)).length≤aU) ((([r1,(if(decide (30<(a0.lists.length:Int)))=true then 2 else 0)]:(List Int)).find? fun n=>decide (¬n=0)).getD 0)).bind fun r2=>
 if ¬(r2=0)then
  some r2
 else
 lV a0.lists (fun(ve:Nat) e9 (s3:Unit)=>(show Option (Lr Unit Unit Int)from
   if(!(aQ e9.number 1 999))=true then
    some (.ret 1)
   else
   (if decide (0<(ve:Int))=true then vi a0.lists (IntKind.i64.wrap ((ve:Int) -1))else some default).bind fun cg=>
   if((decide (0<(ve:Int)))&&(decide (e9.number≤cg.number)))=true then
    some (.ret 7)
   else
   (Fu a0.aR a0.bJ e9.bD).bind fun ga=>
   if ¬(ga=0)then
    some (.ret ga)
   else
   some (.go ()))) (fun s3=>some ()) () (fun b4=>
  if 40<(a0.bH.length:Int)then
   some 2
  else
  lV a0.bH (fun(i23:Nat) vY (kQ:Unit)=>(show Option (Lr Unit Unit Int)from
    if(!(aQ vY.number 1 40))=true then
     some (.ret 1)
    else
    (if decide (0<(i23:Int))=true then vi a0.bH (IntKind.i64.wrap ((i23:Int) -1))else some default).bind fun x24=>
    if((decide (0<(i23:Int)))&&(decide (vY.number≤x24.number)))=true then
     some (.ret 7)
    else
    (FM a0 vY.list).bind fun jV=>
    if(!jV.2)=true then
     some (.ret 8)
    else
    if(!(aQ vY.priority 0 100))=true then
     some (.ret 1)
    else
    some (.go ()))) (fun kQ=>some ()) () (fun Es=>
   some 0) (fun Es=>
   some Es)) (fun b4=>
  some b4)
theorem Vr {a0:gJ} {σ:Heap} {r:Int} (h:HJ a0=some r):KZ [(AV.agg (bl a0))] σ=some ((AV.int .i64 r),σ):=by
 refine yP (f:=O7) (y0:=(AV.agg (bl a0))) (enc:=fun r:Int=>(AV.int .i64 r)) (T:=HJ a0) rfl rfl ?_ r h
 unfold O7 HJ
 refine au _ rfl<|au _ rfl<|au (sl 3 dP a0.bJ) rfl ?_
 refine lg (fun r1:Int=>(AV.int .i64 r1)) (fun r1 jU=>(quiet_of (Vg jU))) (fun r1 jU=>?_)
 refine au (sl 2 dR a0.lists) rfl<|au _ (gf _ _ _)<|au _ rfl<|au _ (quiet_of (tg (decide (30<(a0.lists.length:Int))) 2 σ))<|au (sl 1 qW ([r1,(if(decide (30<(a0.lists.length:Int)))=true then 2 else 0)]:(List Int))) rfl ?_
 refine lg (fun r2:Int=>(AV.int .i64 r2)) (fun r2 tO=>(quiet_of ((vN (e:=fun r:Int=>((AV.int .i64 r),σ)) (fun hs=>Ab ([r1,(if(decide (30<(a0.lists.length:Int)))=true then 2 else 0)]:(List Int)) hs σ)) tO))) (fun r2 tO=>?_)
 refine au _ (fI _ _ _) ?_
 refine lP (p:=¬(r2=0)) (fun ru=>?_) (fun ru=>?_)
 ·exact eE _ (br _ _) ⟨rfl,rfl⟩
 refine au (sl 2 dR a0.lists) rfl<|au _ (gf _ _ _) ?_
 refine rW (B:=Unit) (R:=Int) (fun(ve:Nat) (s3:Unit) v w5=>v=[(AV.lbx (bl a0)),ah,(AV.int .i64 (ve:Int))]∧σ=w5) (fun(b4:Unit) (q:LS)=>∃u2 Kt,q=((AX.exit 0),([(AV.lbx (bl a0)),u2,Kt]:List AV),σ)) (fun(b4:Int) (q:LS)=>∃u1 Kt,q=(AX.ret,([u1,(AV.int .i64 b4),Kt]:List AV),σ)) ?_ ?_ ⟨rfl,rfl⟩ ?_ ?_
 ·intro To ve e9 s3 v w5 EI hI
  obtain⟨rfl,rfl⟩:=hI
  refine au _ (jM EI)<|sk<|au _ (jk EI)<|au _ rfl<|au _ rfl<|au _ (MB _ _ rfl)<|au _ rfl<|au _ (jY e9.number 1 999 σ)<|au _ rfl ?_
  refine jo (c:=(!(aQ e9.number 1 999))) (fun gV=>?_) (fun gV=>?_)
  ·exact cD (iO (by simp) ⟨_,_,rfl⟩)
  refine au _ rfl<|dV (AV.int .i64 e9.number) (fun hg=>rfl)<|au _ rfl<|dV (sl 2 dR a0.lists) (fun hg=>rfl)<|dV (AV.int .i64 (ve:Int)) (fun hg=>rfl)<|dV (AV.int .i64 (IntKind.i64.wrap ((ve:Int) -1))) (fun hg=>by(try rw[hg]);exact rfl) ?_
  refine zc (ω:=jl) (fun cg=>(AV.rp (dR cg))) (fun hg cg abS=>by(try rw[hg]);exact Cs abS) (fun cg abS=>?_)
  refine dV (AV.rp (dR cg)) (fun hg=>by(try rw[hg]);exact rfl)<|dV (AV.int .i64 cg.number) (fun hg=>by(try rw[hg]);exact rfl)<|dV (AV.bool (decide (e9.number≤cg.number))) (fun hg=>by(try rw[hg]);exact rfl)<|au _ (rV _ _) ?_
  refine jo (c:=((decide (0<(ve:Int)))&&(decide (e9.number≤cg.number)))) (fun i6=>?_) (fun i6=>?_)
  ·exact cD (iO (by simp) ⟨_,_,rfl⟩)
  refine au _ rfl<|au _ rfl<|au _ rfl<|au (sl 3 dP a0.bJ) rfl<|au (sl 11 aX e9.bD) rfl ?_
  refine lg (fun ga:Int=>((AV.int .i64 ga),σ)) (fun ga abJ=>ad7 abJ) (fun ga abJ=>?_)
  refine au _ (fI _ _ _) ?_
  refine lP (p:=¬(ga=0)) (fun fV=>?_) (fun fV=>?_)
  ·exact cD (iO (by simp) ⟨_,_,rfl⟩)
  refine au _ (gK EI To) ?_
  exact cD (rX ⟨rfl,rfl⟩)
 ·intro hl s3 v w5 hI
  obtain⟨rfl,rfl⟩:=hI
  refine au _ (j0 _)<|sj ?_
  exact cD ⟨by simp,⟨_,_,rfl⟩⟩
 ·intro hl b4 q hq
  obtain⟨u2,Kt,rfl⟩:=hq
  refine kT rfl<|au _ rfl<|au (sl 3 cC a0.bH) rfl<|au _ (gf _ _ _)<|au _ rfl ?_
  refine lP (p:=40<(a0.bH.length:Int)) (fun qn=>?_) (fun qn=>?_)
  ·exact eE _ (br _ _) ⟨rfl,rfl⟩
  refine au _ rfl<|au (sl 3 cC a0.bH) rfl<|au _ (gf _ _ _) ?_
  refine rW (B:=Unit) (R:=Int) (fun(i23:Nat) (kQ:Unit) v U2=>∃u2,v=[(AV.lbx (bl a0)),u2,(AV.int .i64 (i23:Int))]∧σ=U2) (fun(Es:Unit) (q:LS)=>∃u1 u2 Kz,q=((AX.exit 2),([u1,u2,Kz]:List AV),σ)) (fun(Es:Int) (q:LS)=>∃u1 Kz,q=(AX.ret,([u1,(AV.int .i64 Es),Kz]:List AV),σ)) ?_ ?_ ⟨_,rfl,rfl⟩ ?_ ?_
  ·intro hle22 i23 vY kQ v U2 Ti hI
   obtain⟨u2,rfl,rfl⟩:=hI
   refine au _ (jM Ti)<|sk<|au _ (jk Ti)<|au _ rfl<|au _ rfl<|au _ (Wa _ _ rfl)<|au _ rfl<|au _ (jY vY.number 1 40 σ)<|au _ rfl ?_
   refine jo (c:=(!(aQ vY.number 1 40))) (fun tL=>?_) (fun tL=>?_)
   ·exact cD (iO (by simp) ⟨_,_,rfl⟩)
   refine au _ rfl<|dV (AV.int .i64 vY.number) (fun hg=>rfl)<|au _ rfl<|dV (sl 3 cC a0.bH) (fun hg=>rfl)<|dV (AV.int .i64 (i23:Int)) (fun hg=>rfl)<|dV (AV.int .i64 (IntKind.i64.wrap ((i23:Int) -1))) (fun hg=>by(try rw[hg]);exact rfl) ?_
   refine zc (ω:=mq) (fun x24=>(AV.rp (cC x24))) (fun hg x24 abV=>by(try rw[hg]);exact Cs abV) (fun x24 abV=>?_)
   refine dV (AV.rp (cC x24)) (fun hg=>by(try rw[hg]);exact rfl)<|dV (AV.int .i64 x24.number) (fun hg=>by(try rw[hg]);exact rfl)<|dV (AV.bool (decide (vY.number≤x24.number))) (fun hg=>by(try rw[hg]);exact rfl)<|au _ (rV _ _) ?_
   refine jo (c:=((decide (0<(i23:Int)))&&(decide (vY.number≤x24.number)))) (fun qm=>?_) (fun qm=>?_)
   ·exact cD (iO (by simp) ⟨_,_,rfl⟩)
   refine au _ rfl<|au _ rfl ?_
   refine lg (fun jV:(jl×Bool)=>((AV.aF [(AV.agg (dR jV.1)),(AV.bool jV.2)]),σ)) (fun jV abM=>Wn abM) (fun jV abM=>?_)
   refine au _ rfl<|au _ rfl<|au _ rfl<|au _ (MB _ _ rfl)<|au _ rfl ?_
   refine jo (c:=(!jV.2)) (fun jR=>?_) (fun jR=>?_)
   ·exact cD (iO (by simp) ⟨_,_,rfl⟩)
   refine au _ rfl<|au _ (jY vY.priority 0 100 σ)<|au _ rfl ?_
   refine jo (c:=(!(aQ vY.priority 0 100))) (fun fW=>?_) (fun fW=>?_)
   ·exact cD (iO (by simp) ⟨_,_,rfl⟩)
   refine au _ (gK Ti hle22) ?_
   exact cD (rX ⟨_,rfl,rfl⟩)
  ·intro hl kQ v U2 hI
   obtain⟨u2,rfl,rfl⟩:=hI
   refine au _ (j0 _)<|sj ?_
   exact cD ⟨by simp,⟨_,_,_,rfl⟩⟩
  ·intro hl Es q hq
   obtain⟨u1,u2,Kz,rfl⟩:=hq
   refine kT rfl ?_
   exact eE _ (br _ _) ⟨rfl,rfl⟩
  ·intro hl Es q hq
   obtain⟨u1,Kz,rfl⟩:=hq
   refine xe rfl<|kT rfl ?_
   exact eE _ (br _ _) ⟨rfl,rfl⟩
 ·intro hl b4 q hq
  obtain⟨u1,Kt,rfl⟩:=hq
  refine xe rfl<|kT rfl ?_
  exact eE _ (br _ _) ⟨rfl,rfl⟩
end
section
section
variable {κ ν : Type} [DecidableEq κ]
theorem QE (k a:κ) (v:ν):∀(l:List (κ×ν)),bM k (dz a v l)=if k=a then some v else bM k l
 |[]=>by simp [dz,bM]
 |(b,w)::l=>by
  rw[dz]
  by_cases h:a=b
  ·subst h
   rw[if_pos rfl,bM,bM]
   split<;>rfl
  ·rw[if_neg h,bM,bM,QE k a v l]
   by_cases h2:k=b
   ·subst h2;rw[if_pos rfl,if_pos rfl,if_neg (fun e=>h e.symm)]
   ·rw[if_neg h2,if_neg h2]
theorem Q6 (k:κ):∀(l:List κ) (s:List (κ×Bool)),(bM k (l.foldl (fun s x=>dz x true s) s)).getD false=(decide (k∈l)||(bM k s).getD false)
 |[],s=>by simp
 |x::l,s=>by
  rw[List.foldl_cons,Q6 k l,QE]
  by_cases h:k=x
  ·simp [h]
  ·simp [h]
end
theorem af8 {l:List Int} {n:Int} (h:l.Pairwise (·<·)) (k:Ed l n=false):(l++[n]).Pairwise (·<·):=by
 rw[List.pairwise_append]
 refine⟨h,by simp,fun a ha b hb=>?_⟩
 simp at hb
 subst hb
 unfold Ed at k
 cases hl:l.getLast? with
 |none=>rw[List.getLast?_eq_none_iff]at hl;subst hl;simp at ha
 |some m=>
  rw[hl]at k
  simp at k
  obtain⟨ys,rfl⟩:=List.getLast?_eq_some_iff.1 hl
  rw[List.pairwise_append]at h
  rcases List.mem_append.1 ha with ha|ha
  ·have:=h.2.2 a ha m (by simp);omega
  ·simp at ha;omega
theorem Wf {gq:List cm}:∀(rest pre:List ey),CI gq pre rest=0→(pre.map (·.number)).Pairwise (·<·)→((pre++rest).map (·.number)).Pairwise (·<·)
 |[],pre,_,h=>by simpa using h
 |u::rest,pre,hc,h=>by
  rw[CI]at hc
  split at hc
  ·cases hc
  split at hc
  ·cases hc
  rename_i ho
  split at hc
  ·cases hc
  split at hc
  ·cases hc
  split at hc
  ·cases hc
  have:=Wf rest (pre++[u]) hc (by rw[List.map_append];exact af8 h (by simpa using ho))
  simpa using this
theorem Qc {r:dO} (h:gp r=0):(r.units.map (·.number)).Pairwise (·<·):=by
 unfold gp at h
 split at h
 ·split at h
  ·cases h
  ·simpa using Wf r.units [] h (by simp)
 ·rename_i h2;exact absurd h h2
theorem agY (p:cm) (nm:ByteArray):(Av p nm).2=true↔∃x∈p.params,x.name=nm:=by
 unfold Av
 cases h:p.params.find? fun x=>decide (x.name=nm)with
 |none=>
  simp only[Option.elim_none,Bool.false_eq_true,false_iff]
  rintro⟨x,hx,e⟩
  have:=List.find?_eq_none.1 h x hx
  simp [e]at this
 |some x=>
  simp only[Option.elim_some,true_iff]
  exact⟨x,List.mem_of_find?_eq_some h,by simpa using List.find?_some h⟩
theorem aiA {l:List ey} (h:(l.map (·.number)).Pairwise (·<·)) {u v:ey} (hu:u∈l) (hv:v∈l) (e:u.number=v.number):u=v:=by
 induction l with
 |nil=>simp at hu
 |cons x l ih=>
  rw[List.map_cons,List.pairwise_cons]at h
  rcases List.mem_cons.1 hu with J6|J6<;>rcases List.mem_cons.1 hv with J7|J7
  ·rw[J6,J7]
  ·have:=h.1 v.number (List.mem_map.2 ⟨v,J7,rfl⟩);rw[←J6]at this;omega
  ·have:=h.1 u.number (List.mem_map.2 ⟨u,J6,rfl⟩);rw[←J7]at this;omega
  ·exact ih h.2 J6 J7
def CN (r:dO) (k:aB):Bool:=(jj r k).2
theorem YE {r:dO} (h:gp r=0) (k:aB):CN r k=decide (k∈nQ r):=by
 rw[Bool.eq_iff_iff,decide_eq_true_iff]
 unfold CN jj nQ
 rw[List.mem_flatMap]
 cases hf:r.units.find? fun u=>decide (u.number=k.unit)with
 |none=>
  simp only[Option.elim_none,Bool.false_eq_true,false_iff]
  rintro⟨u,hu,hk⟩
  obtain⟨x,_,rfl⟩:=List.mem_map.1 hk
  have:=List.find?_eq_none.1 hf u hu
  simp at this
 |some u=>
  have hu:=List.mem_of_find?_eq_some hf
  have hn:u.number=k.unit:=by simpa using List.find?_some hf
  simp only[Option.elim_some,agY]
  constructor
  ·rintro⟨x,hx,e⟩
   exact⟨u,hu,List.mem_map.2 ⟨x,hx,by rw[hn,e]⟩⟩
  ·rintro⟨v,hv,hk⟩
   obtain⟨x,hx,rfl⟩:=List.mem_map.1 hk
   obtain rfl:=aiA (Qc h) hu hv hn
   exact⟨x,hx,rfl⟩
theorem YH {r:dO} (h:gp r=0):(nQ r).length≤16000:=by
 have h1:=P4 h r.units
 have h2:=W9 h
 show(r.units.flatMap (rT r.aS)).length≤_
 omega
theorem ajc {α:Type} {p:Prop} [Decidable p] (a b:α):(if p then some a else some b)=some (if p then a else b):=by split<;>rfl
theorem QG {α β:Type} {p:Prop} [Decidable p] (a b:α) (f:α→Option β):(if p then some a else some b).bind f=f (if p then a else b):=by split<;>rfl
theorem before_eq (a b:aB):FC a b=some (fq a b):=by
 unfold FC fq
 by_cases h:a.unit=b.unit
 ·simp [h,MD,Rv]
 ·by_cases h2:a.unit<b.unit<;>simp [h,h2]
theorem compare_eq (a b:aB):FB a b=some (vO a b):=by
 unfold FB vO
 by_cases h:a.unit=b.unit
 ·simp [h]
 ·by_cases h2:a.unit<b.unit<;>simp [h,h2]
def Nw (has:aB→Bool) (l:List yM) (i:Nat) (x:yM):Int:=
 if(!has x.key)=true then 8
 else if(!(aQ x.level 0 65535))=true then 1
 else if(decide (0<(i:Int))&&!fq (pv l i).key x.key)=true then 7 else 0
def MY (has:aB→Bool) (l:List kE) (i:Nat) (p:kE):Int:=
 if(!(aQ p.number 1 999))=true then 1
 else if(decide (0<(i:Int))&&decide (p.number≤(pv l i).number))=true then 7
 else if(!(DD p.title))=true then 3
 else if 2000<(p.kD.length:Int)then 2
 else iH (Nw has p.kD) p.kD 0
def rS (r:dO) (l:List kE):Int:=
 if ¬(gp r=0)then gp r else if 200<(l.length:Int)then 2 else iH (MY (CN r) l) l 0
theorem ae8 (c:Bool) (a b:aB):(c&&!(if c=true then fq a b else(default:Bool)))=(c&&!fq a b):=by cases c<;>rfl
theorem ahV (c:Bool) (a b:aB):(c&&decide (0≤(if c=true then vO a b else(default:Int))))=(c&&!fq a b):=by
 cases c
 ·rfl
 ·simp only[if_true,Bool.true_and];exact aj5 a b
theorem afH (s:ByteArray):(decide (¬(s=(⟨#[]⟩:ByteArray)))&&!(if decide (¬(s=(⟨#[]⟩:ByteArray)))=true then IP s else(default:Bool)))=!DD s:=by
 unfold DD
 by_cases h:s=⟨#[]⟩<;>simp [h]
theorem VJ (r:dO) (l:List kE) (hr:rZ r) (hl:fE BY l):De r l=some (rS r l):=by
 unfold De rS
 simp only[uf hr,Option.bind_some]
 rw[uf (by show 2≤aU;unfold aU;omega)]
 simp only[Sg,Option.bind_some]
 by_cases h0:gp r=0
 case neg=>simp [h0]
 by_cases h1:200<(l.length:Int)
 ·simp [h0,h1]
 have hk:FL r=some ((nQ r).foldl (fun s x=>dz x true s) []):=by
  unfold FL
  have:=YH h0
  simp only[uf hr,Option.bind_some,h0,if_true]
  rw[L5 (fun s x=>dz x true s) (fun _ _=>True) (by unfold aU;omega) trivial (fun _ _ _ _ _=>trivial) (fun _ _ _ _ _=>rfl)]
  rfl
 simp only[h0,h1,not_true_eq_false,if_false,decide_false,Bool.false_eq_true,hk,Option.bind_some]
 have has:∀k,(bM k ((nQ r).foldl (fun s x=>dz x true s) [])).getD false=CN r k:=by
  intro k;rw[Q6,YE h0];simp [bM]
 rw[BW (f:=MY (CN r) l) hl.1 ?_]
 ·split
  ·rename_i h;rw[h]
  ·rfl
 intro i p hp
 have J3:=hl.2 p (List.mem_of_getElem? hp)
 obtain⟨_,ht,hs⟩:=J3
 simp only[Gi hp hl.1,Option.bind_some,uf ht,has]
 rw[BW (f:=Nw (CN r) p.kD) hs.1 ?_]
 ·unfold MY
  repeat first|exact Yq _|exact go_ret|refine Gg (by decide) ?_
 intro j x hx
 simp only[Gi hx hs.1,Option.bind_some,before_eq,QG,ae8]
 unfold Nw
 repeat first|exact go_ret|refine Gg (by decide) ?_
def vA (l:List kE) (k:aB) (v:mu):Int×Int:=
 if(decide (¬(v.level=0))&&decide (¬(v.gh=0)))=true then(0,3)
 else if(!(aQ v.level 0 65535))=true then(0,1)
 else if v.gh=0 then(v.level,0)
 else match l.find? fun p=>decide (p.number=v.gh)with
  |none=>(0,8)
  |some p=>match p.kD.find? fun s=>decide (s.key=k)with|none=>(0,8)|some s=>(s.level,0)
theorem agw {α γ R:Type} {p:α→Bool} {l:List α} {body:Nat→α→Unit→Option (Lr Unit Unit R)} {r:α→Option R} {fin:Unit→Option Unit} {s:Unit} {K1:Unit→Option γ} {K2:R→Option γ} (hl:l.length≤aU) (hb:∀i x,l[i]? =some x→body i x ()=if p x=true then some (match r x with|some q=>.ret q|none=>.brk ())else some (.go ())) (hf:fin ()=some ():=by rfl):lV l body fin s K1 K2=match l.find? p with|some x=>(match r x with|some q=>K2 q|none=>K1 ())|none=>K1 ():=by
 rw[Iy hl]
 have key:∀(rest pre:List α),l=pre++rest→mO body fin rest pre.length ()=some (match rest.find? p with|some x=>(match r x with|some q=>.inr q|none=>.inl ())|none=>.inl ()):=by
  intro rest
  induction rest with
  |nil=>intro pre _;simp [mO,hf]
  |cons x rest ih=>
   intro pre hp
   rw[mO,hb pre.length x (by rw[hp];simp),List.find?_cons]
   cases h:p x
   ·simp only[Bool.false_eq_true,if_false,Option.bind_some]
    have:=ih (pre++[x]) (by simpa using hp)
    simpa using this
   ·simp only[if_true,Option.bind_some]
    cases r x<;>rfl
 have k:=key l [] rfl
 rw[List.length_nil]at k
 rw[show s=()from rfl,k,Option.bind_some]
 cases l.find? p with
 |none=>rfl
 |some x=>
  simp only
  cases r x<;>rfl
theorem Zh (l:List kE) (hl:fE BY l) (k:aB) (v:mu):FG l k v=some (vA l k v):=by
 unfold FG vA
 split
 ·rfl
 split
 ·rfl
 split
 ·rfl
 rw[agw (p:=fun p=>decide (p.number=v.gh)) (r:=fun p=>(p.kD.find? fun s=>decide (s.key=k)).map (·.level)) hl.1 ?_]
 ·cases hf:l.find? fun p=>decide (p.number=v.gh)with
  |none=>rfl
  |some p=>
   simp only
   cases p.kD.find? fun s=>decide (s.key=k)<;>rfl
 intro i p hp
 have J3:=hl.2 p (List.mem_of_getElem? hp)
 by_cases hn:p.number=v.gh
 ·simp only[hn,not_true_eq_false,if_false,decide_true,if_true]
  rw[ahQ (p:=fun s=>decide (s.key=k)) (r:=fun s=>s.level) J3.2.2.1 (by intro i x _;simp only[decide_eq_true_eq,ajc])]
  cases p.kD.find? fun s=>decide (s.key=k)<;>rfl
 ·simp [hn]
def GA (l:List fF) (i:Nat) (m:fF):Int:=
 if(!(aQ m.key.unit 1 9999))=true then 1
 else if(!(uk m.key.param))=true then 5
 else if((m.release&&(decide (¬(m.value=(⟨0,0⟩:mu)))))||((decide (¬(m.value.level=0)))&&(decide (¬(m.value.gh=0)))))=true then 3
 else if((!(aQ m.value.level 0 65535))||(!(aQ m.value.gh 0 999)))=true then 1
 else if((!m.zm)&&((decide (¬(m.delay=0)))||(decide (¬(m.time=0)))))=true then 3
 else if((!(aQ m.delay 0 36000000))||(!(aQ m.time 0 36000000)))=true then 1
 else if(decide (0<(i:Int))&&!fq (pv l i).key m.key)=true then 7 else 0
def DI (l:List fF):Int:=iH (GA l) l 0
theorem ae6 (l:List fF) (hl:fE Nd l):Fq l=some (DI l):=by
 unfold Fq DI
 rw[BW (f:=GA l) hl.1 ?_]
 ·split
  ·rename_i h;rw[h]
  ·rfl
 intro i m hm
 have hmm:=hl.2 m (List.mem_of_getElem? hm)
 simp only[Gi hm hl.1,Option.bind_some,uf hmm.1.2,compare_eq,QG,ahV]
 unfold GA
 repeat first|exact go_ret|refine Gg (by decide) ?_
def uz (l:List aY) (i:Nat) (c:aY):Int:=
 if(!(aQ c.number 1 9999999))=true then 1
 else if(decide (0<(i:Int))&&decide (c.number≤(pv l i).number))=true then 7
 else if(!(DD c.title))=true then 3
 else if(((((!(aQ c.delay 0 36000000))||(!(aQ c.up 0 36000000)))||(!(aQ c.down 0 36000000)))||(!(aQ c.other 0 36000000)))||(!(aQ c.follow (-1) 36000000)))=true then 1
 else if ¬(pP c.dS=0)then pP c.dS
 else if 2000<(c.dr.length:Int)then 2
 else DI c.dr
def Su (l:List aY):Int:=l.foldl (fun s c=>IntKind.i64.wrap (s+(c.dr.length:Int))) 0
def oS (l:List aY):Int:=
 if 300<(l.length:Int)then 2 else if ¬(iH (uz l) l 0=0)then iH (uz l) l 0 else if 10000<Su l then 2 else 0
theorem ahP {α γ S B:Type} {f:Nat→α→Int} {g:S→α→S} {l:List α} {body:Nat→α→S→Option (Lr S B Int)} {fin:S→Option B} {s:S} {K1:B→Option γ} {K2:Int→Option γ} (hl:l.length≤aU) (hb:∀i x s,l[i]? =some x→body i x s=some (if f i x=0 then .go (g s x)else .ret (f i x))):lV l body fin s K1 K2=if iH f l 0=0 then(fin (l.foldl g s)).bind K1 else K2 (iH f l 0):=by
 rw[Iy hl]
 have key:∀(rest pre:List α) (s:S),l=pre++rest→mO body fin rest pre.length s=if iH f rest pre.length=0 then(fin (rest.foldl g s)).map .inl else some (.inr (iH f rest pre.length)):=by
  intro rest
  induction rest with
  |nil=>intro pre s _;simp [mO,iH]
  |cons x rest ih=>
   intro pre s hp
   rw[mO,hb pre.length x s (by rw[hp];simp),Option.bind_some,iH]
   by_cases h:f pre.length x=0
   ·simp only[h,if_true]
    have:=ih (pre++[x]) (g s x) (by simpa using hp)
    simpa using this
   ·simp only[h,if_false]
 have k:=key l [] s rfl
 rw[List.length_nil]at k
 rw[k]
 split
 ·cases fin (l.foldl g s)<;>rfl
 ·rfl
theorem ajd {S B:Type} {p:Prop} [Decidable p] {k f:Int} {t:S} {Y:Option (Lr S B Int)} (hk:k≠0) (h:Y=some (if f=0 then .go t else .ret f)):(if p then some (.ret k)else Y)=some (if(if p then k else f)=0 then .go t else .ret (if p then k else f)):=by
 by_cases hp:p
 ·simp [hp,hk]
 ·simp [hp,h]
theorem ahZ {S B:Type} {k f:Int} {t:S} {Y:Option (Lr S B Int)} (h:Y=some (if f=0 then .go t else .ret f)):(if ¬(k=0)then some (.ret k)else Y)=some (if(if ¬(k=0)then k else f)=0 then .go t else .ret (if ¬(k=0)then k else f)):=by
 by_cases hp:k=0
 ·simp [hp,h]
 ·simp [hp]
theorem QU {S B:Type} {k:Int} {t:S}:(if ¬(k=0)then some (.ret k)else some (.go t):Option (Lr S B Int))=some (if k=0 then .go t else .ret k):=by
 by_cases hp:k=0<;>simp [hp]
theorem aaj (l:List aY) (hl:fE um l):FR l=some (oS l):=by
 unfold FR oS
 split
 ·rfl
 rw[ahP (f:=uz l) (g:=fun s c=>IntKind.i64.wrap (s+(c.dr.length:Int))) hl.1 ?_]
 ·show(if iH (uz l) l 0=0 then some (if decide (10000<Su l)=true then(2:Int)else 0)else some (iH (uz l) l 0))=_
  by_cases h:iH (uz l) l 0=0
  ·by_cases h2:10000<Su l<;>simp [h,h2]
  ·simp [h]
 intro i c s hc
 obtain⟨_,ht,_,_,_,_,_,_,hm⟩:=hl.2 c (List.mem_of_getElem? hc)
 simp only[Gi hc hl.1,Option.bind_some,uf ht,ae6 _ hm,QG,afH]
 unfold uz
 repeat first|exact QU|refine ajd (by decide) ?_|refine ahZ ?_
def NT (r:dO) (bJ:List kE) (m:fF):Int:=
 if(!CN r m.key)=true then 8 else(vA bJ m.key m.value).2
def SC (r:dO) (bJ:List kE) (l:List aY):Int:=iH (fun _ c=>iH (fun _ m=>NT r bJ m) c.dr 0) l 0
def Ns (r:dO) (bJ:List kE) (l:List aY):Int:=
 if ¬(rS r bJ=0)then rS r bJ else if ¬(oS l=0)then oS l else SC r bJ l
theorem PS {r:dO} {l:List kE} (h:rS r l=0):gp r=0:=by
 unfold rS at h
 by_cases h0:gp r=0
 ·exact h0
 ·rw[if_pos h0]at h;exact h
theorem Ws {c:aY} (h:um c):fE Nd c.dr:=by
 obtain⟨_,_,_,_,_,_,_,_,hm⟩:=h;exact hm
theorem afv (r:dO) (bJ:List kE) (l:List aY) (hr:rZ r) (hp:fE BY bJ) (hl:fE um l):Fu r bJ l=some (Ns r bJ l):=by
 unfold Fu Ns
 simp only[VJ r bJ hr hp,aaj l hl,Option.bind_some]
 rw[uf (by show 2≤aU;unfold aU;omega)]
 simp only[Sg,Option.bind_some]
 by_cases h0:rS r bJ=0
 case neg=>simp [h0]
 by_cases h1:oS l=0
 case neg=>simp [h0,h1]
 have GM:=PS h0
 have Bw:=YH GM
 simp only[h0,h1,not_true_eq_false,if_false,uf hr,Option.bind_some,GM,if_true]
 rw[L5 (fun s x=>dz x true s) (fun _ _=>True) (by unfold aU;omega) trivial (fun _ _ _ _ _=>trivial) (fun _ _ _ _ _=>rfl)]
 simp only[Option.bind_some]
 have has:∀k,(bM k ((nQ r).foldl (fun s x=>dz x true s) [])).getD false=CN r k:=by
  intro k;rw[Q6,YE GM];simp [bM]
 rw[BW (f:=fun _ c=>iH (fun _ m=>NT r bJ m) c.dr 0) hl.1 ?_]
 ·show(if SC r bJ l=0 then some (0:Int)else some (SC r bJ l))=_
  split
  ·rename_i h;rw[h]
  ·rfl
 intro i c hc
 rw[BW (f:=fun _ m=>NT r bJ m) (Ws (hl.2 c (List.mem_of_getElem? hc))).1 ?_]
 ·exact Yq _
 intro j m hm
 simp only[has,Zh bJ hp,Option.bind_some]
 unfold NT
 repeat first|exact QU|refine Gg (by decide) ?_
def tu (l:List jl) (n:Int):jl×Bool:=match l.find? fun x=>decide (x.number=n)with|some x=>(x,true)|none=>(⟨0,[]⟩,false)
theorem aav (s:gJ) (hl:s.lists.length≤aU) (n:Int):FM s n=some (tu s.lists n):=by
 unfold FM tu
 rw[uf hl,Option.bind_some]
 rcases zY (fun x:jl=>decide (x.number=n)) s.lists with⟨h1,_,h3⟩|⟨k,x,h1,h2,h3,h4,_⟩
 ·rw[h1,h3];rfl
 ·rw[h3,h4,if_neg (by omega),RS (x:=x) (by omega) (by simpa using h1)];rfl
def DH (s:gJ) (i:Nat) (x:jl):Int:=
 if(!(aQ x.number 1 999))=true then 1
 else if(decide (0<(i:Int))&&decide (x.number≤(pv s.lists i).number))=true then 7
 else Ns s.aR s.bJ x.bD
def Nt (s:gJ) (i:Nat) (p:mq):Int:=
 if(!(aQ p.number 1 40))=true then 1
 else if(decide (0<(i:Int))&&decide (p.number≤(pv s.bH i).number))=true then 7
 else if(!(tu s.lists p.list).2)=true then 8
 else if(!(aQ p.priority 0 100))=true then 1 else 0
def qP (s:gJ):Int:=
 if ¬(rS s.aR s.bJ=0)then rS s.aR s.bJ
 else if 30<(s.lists.length:Int)then 2
 else if ¬(iH (DH s) s.lists 0=0)then iH (DH s) s.lists 0
 else if 40<(s.bH.length:Int)then 2
 else iH (Nt s) s.bH 0
theorem VY (s:gJ) (hs:Aj s):HJ s=some (qP s):=by
 obtain⟨hr,hp,hl,hb⟩:=hs
 unfold HJ qP
 simp only[VJ _ _ hr hp,Option.bind_some]
 rw[uf (by show 2≤aU;unfold aU;omega)]
 simp only[Sg,Option.bind_some]
 by_cases h0:rS s.aR s.bJ=0
 case neg=>simp [h0]
 by_cases h1:30<(s.lists.length:Int)
 ·simp [h0,h1]
 simp only[h0,h1,not_true_eq_false,if_false,decide_false,Bool.false_eq_true]
 rw[BW (f:=DH s) hl.1 ?_]
 ·by_cases h2:iH (DH s) s.lists 0=0
  case neg=>simp [h2]
  simp only[h2,if_true,not_true_eq_false,if_false]
  split
  ·rfl
  rw[BW (f:=Nt s) hb.1 ?_]
  ·split
   ·rename_i h;rw[h]
   ·rfl
  intro i p Bx
  simp only[Gi Bx hb.1,Option.bind_some,aav s hl.1]
  unfold Nt
  repeat first|exact go_ret|refine Gg (by decide) ?_
 intro i x hx
 simp only[Gi hx hl.1,Option.bind_some,afv _ _ _ hr hp (hl.2 x (List.mem_of_getElem? hx)).2]
 unfold DH
 repeat first|exact QU|refine Gg (by decide) ?_
end
section
set_option maxRecDepth 100000
noncomputable def Pn (a0:aY) (a1:Int):Option Int:=
 some (IntKind.i64.wrap (a0.number-a1))
theorem ad8 {a0:aY} {a1:Int} {σ:Heap} {r:Int} (h:Pn a0 a1=some r):Di [(AV.agg (aX a0)),(AV.int .i64 a1)] σ=some ((AV.int .i64 r),σ):=by
 refine uc (f:=Pj) (y0:=(AV.agg (aX a0))) (y1:=(AV.int .i64 a1)) (enc:=fun r:Int=>(AV.int .i64 r)) (T:=Pn a0 a1) (ff (mA rfl) rfl) rfl ?_ r h
 unfold Pj Pn
 refine au _ rfl<|au _ rfl<|au _ rfl ?_
 exact eE _ (br _ _) ⟨rfl,rfl⟩
noncomputable def Ib (a0:(List aY)):Option (List (aB×bk)):=
 lV a0 (fun(ve:Nat) e9 (s3:(List (aB×bk)))=>(show Option (Lr (List (aB×bk)) (List (aB×bk)) Unit)from
   lV e9.dr (fun(UG:Nat) kK (tV:(List (aB×bk)))=>(show Option (Lr (List (aB×bk)) (List (aB×bk)) Unit)from
     (show Option (List (aB×bk))from
       if kK.release=true then
        some (qh kK.key tV)
       else
       some (dz kK.key (⟨(⟨kK.key.unit,kK.key.param⟩:aB),(⟨kK.value.level,kK.value.gh⟩:mu),e9.number⟩:bk) tV)).bind fun Od=>
     some (.go Od))) (fun tV=>some tV) s3 (fun Ep=>
    some (.go Ep)) (fun Ep=>
    none))) (fun s3=>some s3) ([]:List (aB×bk)) (fun b4=>
  some b4) (fun b4=>
  none)
theorem afI {a0:(List aY)} {σ:Heap} {r:(List (aB×bk))} (h:Ib a0=some r):HZ [(sl 11 aX a0)] σ=some ((uS (fun x=>(AV.agg (aL x))) (fun x=>(AV.agg (cL x))) r),σ):=by
 refine yP (f:=P8) (y0:=(sl 11 aX a0)) (enc:=fun r:(List (aB×bk))=>(uS (fun x=>(AV.agg (aL x))) (fun x=>(AV.agg (cL x))) r)) (T:=Ib a0) (ff (uD (fun _=>rfl) _) rfl) rfl ?_ r h
 unfold P8 Ib
 have hp1:Hp σ σ []:=RZ σ
 have hp2:Hp σ (σ++[aK.map []]) [((AV.om σ.length),(Ct.m (List.map (fun p=>((fun x=>(AV.agg (aL x))) p.1,(fun x=>(AV.agg (cL x))) p.2)) ([]:List (aB×bk)))))]:=Sm hp1
 refine au _ (gf _ _ _) ?_
 refine rW (B:=(List (aB×bk))) (R:=Unit) (fun(ve:Nat) (s3:(List (aB×bk))) v w5=>v=[(AV.int .i64 (ve:Int))]∧Hp σ w5 [((AV.om σ.length),(Ct.m (List.map (fun p=>((fun x=>(AV.agg (aL x))) p.1,(fun x=>(AV.agg (cL x))) p.2)) s3)))]) (fun(b4:(List (aB×bk))) (q:LS)=>∃u11 w6,q=((AX.exit 0),([u11]:List AV),w6)∧Hp σ w6 [((AV.om σ.length),(Ct.m (List.map (fun p=>((fun x=>(AV.agg (aL x))) p.1,(fun x=>(AV.agg (cL x))) p.2)) b4)))]) (fun(b4:Unit) (q:LS)=>False) ?_ ?_ ⟨rfl,hp2⟩ ?_ ?_
 ·intro To ve e9 s3 v w5 EI hI
  obtain⟨rfl,Uu⟩:=hI
  refine au _ (jM EI)<|sk<|au _ (jk EI)<|au _ rfl<|au _ rfl<|au _ (IE _ _ rfl)<|au (sl 8 fG e9.dr) rfl<|au _ (gf _ _ _) ?_
  refine rW (B:=(List (aB×bk))) (R:=Unit) (fun(UG:Nat) (tV:(List (aB×bk))) v UZ=>v=[(AV.lbx (aX e9)),(AV.int .i64 (UG:Int))]∧Hp σ UZ [((AV.om σ.length),(Ct.m (List.map (fun p=>((fun x=>(AV.agg (aL x))) p.1,(fun x=>(AV.agg (cL x))) p.2)) tV)))]) (fun(Ep:(List (aB×bk))) (q:LS)=>∃u5 u18 U0,q=((AX.exit 2),([u5,u18]:List AV),U0)∧Hp σ U0 [((AV.om σ.length),(Ct.m (List.map (fun p=>((fun x=>(AV.agg (aL x))) p.1,(fun x=>(AV.agg (cL x))) p.2)) Ep)))]) (fun(Ep:Unit) (q:LS)=>False) ?_ ?_ ⟨rfl,Uu⟩ ?_ ?_
  ·intro amQ UG kK tV v UZ Tg hI
   obtain⟨rfl,NK⟩:=hI
   refine au _ (jM Tg)<|sk<|au _ (jk Tg)<|au _ rfl<|au _ rfl<|au _ (MC _ _ rfl)<|au _ rfl ?_
   refine NS (ω:=(List (aB×bk))) (fun Od a=>∃U4,a=(([(AV.lbx (aX e9))]:List AV),U4)∧Hp σ U4 [((AV.om σ.length),(Ct.m (List.map (fun p=>((fun x=>(AV.agg (aL x))) p.1,(fun x=>(AV.agg (cL x))) p.2)) Od)))]) (
     by
      refine jo (c:=kK.release) (fun iK=>?_) (fun iK=>?_)
      ·refine au _ rfl ?_
       obtain⟨w19,e21,abH⟩:=akw (ek:=(.s [0,2])) (eK:=(fun x=>(AV.agg (aL x)))) (eV:=(fun x=>(AV.agg (cL x)))) NK 0 rfl pM kK.key rfl
       change Hp σ w19 [((AV.om σ.length),(Ct.m (List.map (fun p=>((fun x=>(AV.agg (aL x))) p.1,(fun x=>(AV.agg (cL x))) p.2)) (qh kK.key tV))))]at abH
       refine au w19 e21 ?_
       exact cD ⟨_,rfl,abH⟩
      refine au _ rfl<|au _ rfl<|au _ rfl<|au _ rfl<|au _ rfl<|au (AV.agg (cL (⟨(⟨kK.key.unit,kK.key.param⟩:aB),(⟨kK.value.level,kK.value.gh⟩:mu),e9.number⟩:bk))) rfl ?_
      obtain⟨w22,JF,GK⟩:=RB (ek:=(.s [0,2])) (eK:=(fun x=>(AV.agg (aL x)))) (eV:=(fun x=>(AV.agg (cL x)))) NK 0 rfl pM kK.key (⟨(⟨kK.key.unit,kK.key.param⟩:aB),(⟨kK.value.level,kK.value.gh⟩:mu),e9.number⟩:bk) rfl
      change Hp σ w22 [((AV.om σ.length),(Ct.m (List.map (fun p=>((fun x=>(AV.agg (aL x))) p.1,(fun x=>(AV.agg (cL x))) p.2)) (dz kK.key (⟨(⟨kK.key.unit,kK.key.param⟩:aB),(⟨kK.value.level,kK.value.gh⟩:mu),e9.number⟩:bk) tV))))]at GK
      refine au w22 JF ?_
      exact cD ⟨_,rfl,GK⟩
     ) (fun Od a ha=>?_)
   obtain⟨U4,rfl,aoF⟩:=ha
   refine au _ (gK Tg amQ) ?_
   exact cD (rX ⟨rfl,aoF⟩)
  ·intro hl tV v UZ hI
   obtain⟨rfl,NK⟩:=hI
   refine au _ (j0 _)<|sj ?_
   exact cD ⟨by simp,⟨_,_,_,rfl,NK⟩⟩
  ·intro hl Ep q hq
   obtain⟨u5,u18,U0,rfl,NL⟩:=hq
   refine kT rfl<|au _ (gK EI To) ?_
   exact cD (rX ⟨rfl,NL⟩)
  ·intro hl Ep q hq
   exact False.elim hq
 ·intro hl s3 v w5 hI
  obtain⟨rfl,Uu⟩:=hI
  refine au _ (j0 _)<|sj ?_
  exact cD ⟨by simp,⟨_,_,rfl,Uu⟩⟩
 ·intro hl b4 q hq
  obtain⟨u11,w6,rfl,wm⟩:=hq
  refine kT rfl ?_
  exact eE _ (Nb wm (aal wm (k:=0) rfl (by intro p hp;obtain⟨x,_,rfl⟩:=List.mem_map.1 hp;exact⟨(vE (yV _)),(vE (XI _))⟩))) ⟨rfl,rfl⟩
 ·intro hl b4 q hq
  exact False.elim hq
end
theorem MQ {i j:Nat} (h:i+j<9223372036854775808):A.shr (.int .u64 ((i+j:Nat):Int)) (.int .u64 1)=some (.int .u64 (((i+j) / 2:Nat):Int)):=by
 simp only[A.shr]
 rw[if_neg (by decide)]
 congr 2
 rw[show(2:Int) ^ (min (Int.toNat 1) IntKind.u64.bits)=2 from rfl,Int.fdiv_eq_ediv_of_nonneg _ (by decide)]
 omega
theorem M8 {n:Nat} (h:n<9223372036854775808):A.conv .u64 (.int .i64 (n:Int))=some (.int .u64 (n:Int)):=by
 simp only[A.conv]
 congr 2
 unfold IntKind.wrap
 simp [IntKind.bits,IntKind.signed]
 omega
theorem M7 {n:Nat} (h:n<9223372036854775808):A.conv .i64 (.int .u64 (n:Int))=some (.int .i64 (n:Int)):=by
 simp only[A.conv]
 rw[wrap64 (by unfold aM;omega)]
theorem Jt {a b:Nat} (h:a+b<9223372036854775808):A.add (.int .i64 (a:Int)) (.int .i64 (b:Int))=some (.int .i64 ((a+b:Nat):Int)):=by
 rw[kU,wrap64 (by unfold aM;omega)];simp
theorem GC {a:Nat} (h:a+1<9223372036854775808):A.add (.int .i64 (a:Int)) (.int .i64 1)=some (.int .i64 ((a+1:Nat):Int)):=Jt (b:=1) h
theorem vU (a b:Nat):A.lss (.int .i64 (a:Int)) (.int .i64 (b:Int))=some (.bool (decide (a<b))):=by
 rw[kV]
 have:((a:Int)<(b:Int))=(a<b):=propext ⟨fun h=>by omega,fun h=>by omega⟩
 simp only[this]
theorem Nz (a:Int):A.lss (.int .i64 a) (.int .i64 0)=some (.bool (decide (a<0))):=by rw[kV]
theorem JG {α:Type} {X Y:α}:(bif (AX.exit 0==AX.exit 0)then X else Y)=X:=rfl
theorem Zl {f:List AV→Heap→Option (AX×List AV×Heap)} {σ:Heap} (pv:Nat→Nat→List AV) {v0:List AV} {n p:Nat} (hp:p≤n) (h0:v0=pv 0 n)
  (hs:∀i j,i<j→j≤n→f (pv i j) σ=some (.normal,if(i+j) / 2<p then pv ((i+j) / 2+1) j else pv i ((i+j) / 2),σ))
  (he:∀i,i≤n→f (pv i i) σ=some (.exit 0,pv i i,σ)):A.loop f v0 σ=some (.exit 0,pv p p,σ):=by
 subst h0
 have key:∀k i j,j-i≤k→i≤p→p≤j→j≤n→∃m,A.iter f m (pv i j) σ=some (.exit 0,pv p p,σ):=by
  intro k
  induction k with
  |zero=>
   intro i j hk h1 h2 h3
   have:i=p:=by omega
   have:j=p:=by omega
   subst i;subst j
   exact vu (he p h3) (by simp)
  |succ k ih=>
   intro i j hk h1 h2 h3
   by_cases hij:i<j
   ·have hstep:=hs i j hij h3
    by_cases hh:(i+j) / 2<p
    ·rw[if_pos hh]at hstep
     exact Dv hstep (ih _ _ (by omega) (by omega) h2 h3)
    ·rw[if_neg hh]at hstep
     exact Dv hstep (ih _ _ (by omega) h1 (by omega) (by omega))
   ·have:i=p:=by omega
    have:j=p:=by omega
    subst i;subst j
    exact vu (he p h3) (by simp)
 obtain⟨m,hm⟩:=key n 0 n (by omega) (by omega) hp (Nat.le_refl _)
 exact Dm hm
theorem bsC {dyn:Nat→List AV→Heap→Option (AV×Heap)} {l:List aY} {fn:Nat} {k:Int} {cv:aY→Int} {p:Nat} {σ:Heap} (hl:l.length<4611686018427387904) (hp:p≤l.length)
  (hd:∀x∈l,dyn fn [.agg (aX x),.int .i64 k] σ=some (.int .i64 (cv x),σ)) (hc:∀h x,l[h]? =some x→(cv x<0↔h<p)):
  Fe dyn [sl 11 aX l,.int .i64 k,.fn fn []] σ=some (.aF [.int .i64 (p:Int),.bool ((l[p]?).any fun x=>decide (cv x=0))],σ):=by
 refine wrap_eq rfl ?_ rfl
 show Ff dyn (sl 11 aX l) (.int .i64 k) (.fn fn []) σ=_
 unfold Ff
 rw[gf,Option.bind_some]
 rw[Zl (v0:=[.int .i64 0,.int .i64 (l.length:Int)]) (fun i j=>[.int .i64 (i:Int),.int .i64 (j:Int)]) hp rfl ?_ ?_,Option.bind_some]
 ·simp only[JG,List.getD_cons_succ,List.getD_cons_zero]
  rw[vU,Option.bind_some]
  by_cases hpl:p<l.length
  ·have hx:l[p]? =some l[p]:=List.getElem?_eq_getElem hpl
   have jT:=hd _ (List.mem_of_getElem? hx)
   have gO:=jZ 11 aX l hx
   have hq:=quiet_of (by show A.fR dyn (.fn fn []) [.agg (aX l[p]),.int .i64 k] σ=_;simp only[A.fR,List.append_nil];exact jT)
   simp only[decide_eq_true hpl,A.guard,beq_self_eq_true,cond_true,Option.bind_some,List.getD_cons_succ,List.getD_cons_zero,gO,A.deref,IC,A.lb,A.aj,A.ay,A.pick,hx,Option.any_some]
   show((A.quiet (A.fR dyn (.fn fn []) [.agg (aX l[p]),.int .i64 k] σ) σ).bind _)=_
   rw[hq,Option.bind_some,gR]
   exact br _ _
  ·have hx:l[p]? =none:=List.getElem?_eq_none (by omega)
   simp only[decide_eq_false hpl,A.guard,Option.bind_some,A.pick,hx,Option.any_none]
   exact br _ _
 ·intro i j hij hj
  have hlt:(i+j) / 2<l.length:=by omega
  have hx:l[(i+j) / 2]? =some l[(i+j) / 2]:=List.getElem?_eq_getElem hlt
  have jT:=hd _ (List.mem_of_getElem? hx)
  have gO:=jZ 11 aX l hx
  have hq:A.fR dyn (.fn fn []) [.agg (aX l[(i+j) / 2]),.int .i64 k] σ=some (.int .i64 (cv l[(i+j) / 2]),σ):=by simp only[A.fR,List.append_nil];exact jT
  simp only[List.getD_cons_succ,List.getD_cons_zero]
  rw[vU,Option.bind_some,decide_eq_true hij]
  simp only[A.cond,cond_true]
  rw[Jt (by omega),Option.bind_some,M8 (by omega),Option.bind_some,MQ (by omega),Option.bind_some,M7 (by omega),Option.bind_some,gO,Option.bind_some]
  simp only[A.deref,Option.bind_some,IC,A.lb]
  rw[hq,Option.bind_some,Nz,Option.bind_some]
  by_cases hh:(i+j) / 2<p
  ·have:=(hc _ _ hx).2 hh
   rw[decide_eq_true this,if_pos hh]
   simp only[cond_true,GC (show(i+j) / 2+1<9223372036854775808 by omega),Option.bind_some]
   rfl
  ·have:¬(cv l[(i+j) / 2]<0):=fun e=>hh ((hc _ _ hx).1 e)
   rw[decide_eq_false this,if_neg hh]
   rfl
 ·intro i hi
  simp only[List.getD_cons_succ,List.getD_cons_zero]
  rw[vU,Option.bind_some,decide_eq_false (Nat.lt_irrefl i)]
  rfl
def TG (l:List fF):Prop:=l.Pairwise fun a b=>fq a.key b.key=true
structure Good (l : List aY) : Prop where
 len:l.length≤300
 num:∀c∈l,1≤c.number∧c.number≤9999999
 Kp:l.Pairwise fun a b=>a.number<b.number
 mv:∀c∈l,c.dr.length≤2000∧TG c.dr
 pts:∀c∈l,c.dS.points.length≤20
theorem Qh {α:Type} [Inhabited α] {r:α→α→Prop} (tr:∀a b c,r a b→r b c→r a c):∀(l:List α),(∀i x,l[i+1]? =some x→r (l[i]?.getD default) x)→l.Pairwise r
 |[],_=>List.Pairwise.nil
 |[a],_=>by simp
 |a::b::l,h=>by
  have ih:=Qh tr (b::l) (fun i x hx=>h (i+1) x hx)
  have hab:r a b:=h 0 b rfl
  refine List.pairwise_cons.2 ⟨fun x hx=>?_,ih⟩
  rcases List.mem_cons.1 hx with rfl|hx
  ·exact hab
  ·exact tr _ _ _ hab ((List.pairwise_cons.1 ih).1 x hx)
section
theorem ZR {α:Type} [Inhabited α] (l:List α) (i:Nat):pv l (i+1)=l[i]?.getD default:=by
 simp [pv,List.getD_eq_getElem?_getD]
theorem agz {l:List fF} (h:DI l=0):TG l:=by
 unfold DI at h
 refine Qh (r:=fun a b:fF=>fq a.key b.key=true) (fun a b c=>FV) l fun i x hx=>?_
 have:=(wM l 0).1 h (i+1) x hx
 rw[Nat.zero_add]at this
 unfold GA at this
 rw[←ZR]
 by_cases hq:fq (pv l (i+1)).key x.key=true
 ·exact hq
 ·exfalso
  have e:(decide (0<((i+1:Nat):Int))&&!fq (pv l (i+1)).key x.key)=true:=by
   rw[Bool.and_eq_true];exact⟨decide_eq_true (by omega),by simpa using hq⟩
  rw[e]at this
  repeat (first|(split at this;· cases this)|(simp at this;done)|(rename_i q;exact q rfl))
theorem RA {l:List aY} (h:oS l=0):Good l:=by
 unfold oS at h
 by_cases h1:300<(l.length:Int)
 ·simp [h1]at h
 rw[if_neg h1]at h
 by_cases h2:iH (uz l) l 0=0
 case neg=>rw[if_pos h2]at h;exact absurd h h2
 have hc:∀i x,l[i]? =some x→(1≤x.number∧x.number≤9999999)∧(0<i→(pv l i).number<x.number)∧x.dr.length≤2000∧DI x.dr=0∧x.dS.points.length≤20:=by
  intro i x hx
  have:=(wM l 0).1 h2 i x hx
  rw[Nat.zero_add]at this
  unfold uz at this
  split at this
  ·cases this
  rename_i a1
  split at this
  ·cases this
  rename_i a2
  split at this
  ·cases this
  split at this
  ·cases this
  split at this
  ·rename_i a5;exact absurd this a5
  rename_i a5
  split at this
  ·cases this
  rename_i a6
  have hpt:x.dS.points.length≤20:=by
   have a5:pP x.dS=0:=by simpa using a5
   unfold pP at a5
   split at a5
   ·cases a5
   split at a5
   ·split at a5
    ·cases a5
    split at a5
    ·cases a5
    omega
   ·split at a5
    ·cases a5
    omega
  refine⟨by simpa [aQ]using a1,fun hi=>?_,by omega,this,hpt⟩
  have hi':decide (0<(i:Int))=true:=decide_eq_true (by omega)
  rw[hi',Bool.true_and,decide_eq_true_eq]at a2
  omega
 refine⟨by omega,fun c ya=>?_,?_,fun c ya=>?_,fun c ya=>?_⟩
 ·obtain⟨i,hi⟩:=List.mem_iff_getElem?.1 ya
  exact(hc i c hi).1
 ·refine Qh (r:=fun a b:aY=>a.number<b.number) (fun a b c=>Int.lt_trans) l fun i x hx=>?_
  rw[←ZR]
  exact(hc (i+1) x hx).2.1 (by omega)
 ·obtain⟨i,hi⟩:=List.mem_iff_getElem?.1 ya
  exact⟨(hc i c hi).2.2.1,agz (hc i c hi).2.2.2.1⟩
 ·obtain⟨i,hi⟩:=List.mem_iff_getElem?.1 ya
  exact(hc i c hi).2.2.2.2
def kZ (l:List aY) (n:Int):Nat:=(l.takeWhile fun c=>decide (c.number<n)).length
def uA (l:List aY) (n:Int):Bool:=l.any fun c=>decide (c.number=n)
theorem ZQ (l:List aY) (n:Int):kZ l n≤l.length:=(List.takeWhile_prefix _).length_le
theorem RL {l:List aY} {n:Int} (h:l.Pairwise fun a b=>a.number<b.number):∀{i:Nat} {x:aY},l[i]? =some x→(x.number<n↔i<kZ l n):=by
 induction l with
 |nil=>intro i x hx;simp at hx
 |cons a l ih=>
  intro i x hx
  have hs:=List.pairwise_cons.1 h
  unfold kZ
  rw[List.takeWhile_cons]
  by_cases ha:a.number<n
  ·rw[decide_eq_true ha]
   simp only[if_true,List.length_cons]
   cases i with
   |zero=>simp at hx;subst hx;simp [ha]
   |succ i=>
    simp only[List.getElem?_cons_succ]at hx
    rw[ih hs.2 hx]
    unfold kZ
    omega
  ·rw[decide_eq_false ha]
   simp only[Bool.false_eq_true,if_false,List.length_nil,Nat.not_lt_zero,iff_false]
   cases i with
   |zero=>simp at hx;subst hx;exact ha
   |succ i=>
    simp only[List.getElem?_cons_succ]at hx
    have:=hs.1 x (List.mem_of_getElem? hx)
    omega
theorem ak0 {l:List aY} {n:Int} (h:l.Pairwise fun a b=>a.number<b.number) {i:Nat} {x:aY} (hx:l[i]? =some x) (hn:x.number=n):kZ l n=i:=by
 have h1:¬i<kZ l n:=fun q=>by have:=(RL h hx).2 q;omega
 have h2:¬kZ l n<i:=fun q=>by
  have hp:kZ l n<l.length:=Nat.lt_trans q (List.getElem?_eq_some_iff.1 hx).1
  have hy:l[kZ l n]? =some l[kZ l n]:=List.getElem?_eq_getElem hp
  have h3:¬l[kZ l n].number<n:=fun q'=>Nat.lt_irrefl _ ((RL h hy).1 q')
  have h4:=List.pairwise_iff_getElem.1 h (kZ l n) i hp (List.getElem?_eq_some_iff.1 hx).1 q
  rw[(List.getElem?_eq_some_iff.1 hx).2,hn]at h4
  exact h3 h4
 omega
theorem YT {l:List aY} {n:Int} (h:l.Pairwise fun a b=>a.number<b.number):((l[kZ l n]?).any fun x=>decide (x.number=n))=uA l n:=by
 rw[Bool.eq_iff_iff]
 constructor
 ·intro e
  cases hx:l[kZ l n]? with
  |none=>rw[hx]at e;cases e
  |some x=>rw[hx]at e;exact List.any_eq_true.2 ⟨x,List.mem_of_getElem? hx,e⟩
 ·intro e
  obtain⟨x,hm,hk⟩:=List.any_eq_true.1 e
  have hk:=of_decide_eq_true hk
  obtain⟨i,hi⟩:=List.mem_iff_getElem?.1 hm
  rw[ak0 h hi hk,hi];simp [hk]
theorem ajZ {f:List AV→Heap→Option (AX×List AV×Heap)} {σ:Heap} (pv:Nat→Nat→List AV) {v0:List AV} {n:Nat} (h0:v0=pv 0 n) (q:Nat→Bool)
  (hs:∀i j,i<j→j≤n→f (pv i j) σ=some (.normal,if q ((i+j) / 2)=true then pv ((i+j) / 2+1) j else pv i ((i+j) / 2),σ))
  (he:∀i,i≤n→f (pv i i) σ=some (.exit 0,pv i i,σ)):∃p,p≤n∧A.loop f v0 σ=some (.exit 0,pv p p,σ):=by
 subst h0
 have key:∀k i j,j-i≤k→i≤j→j≤n→∃p,p≤n∧∃m,A.iter f m (pv i j) σ=some (.exit 0,pv p p,σ):=by
  intro k
  induction k with
  |zero=>
   intro i j hk h1 h3
   have:i=j:=by omega
   subst i
   exact⟨j,h3,vu (he j h3) (by simp)⟩
  |succ k ih=>
   intro i j hk h1 h3
   by_cases hij:i<j
   ·have hstep:=hs i j hij h3
    by_cases hh:q ((i+j) / 2)=true
    ·rw[if_pos hh]at hstep
     obtain⟨p,hp,hm⟩:=ih _ _ (by omega) (show(i+j) / 2+1≤j by omega) h3
     exact⟨p,hp,Dv hstep hm⟩
    ·rw[if_neg hh]at hstep
     obtain⟨p,hp,hm⟩:=ih i ((i+j) / 2) (by omega) (by omega) (by omega)
     exact⟨p,hp,Dv hstep hm⟩
   ·have:i=j:=by omega
    subst i
    exact⟨j,h3,vu (he j h3) (by simp)⟩
 obtain⟨p,hp,m,hm⟩:=key n 0 n (by omega) (by omega) (Nat.le_refl _)
 exact⟨p,hp,Dm hm⟩
theorem Zk {β:Type} {f:List AV→Heap→Option (AX×List AV×Heap)} {σ:Heap} {K:AX×List AV×Heap→Option β} {r:Nat→β} (pv:Nat→Nat→List AV) {v0:List AV} {n:Nat} (h0:v0=pv 0 n) (q:Nat→Bool)
  (hs:∀i j,i<j→j≤n→f (pv i j) σ=some (.normal,if q ((i+j) / 2)=true then pv ((i+j) / 2+1) j else pv i ((i+j) / 2),σ))
  (he:∀i,i≤n→f (pv i i) σ=some (.exit 0,pv i i,σ)) (hK:∀p,p≤n→K (.exit 0,pv p p,σ)=some (r p)):∃p,p≤n∧(A.loop f v0 σ).bind K=some (r p):=by
 obtain⟨p,hp,h⟩:=ajZ pv h0 q hs he
 exact⟨p,hp,by rw[h,Option.bind_some,hK p hp]⟩
theorem alC {dyn:Nat→List AV→Heap→Option (AV×Heap)} {l:List aY} {fn:Nat} {k:Int} {cv:aY→Int} {σ:Heap} (hl:l.length<4611686018427387904)
  (hd:∀x∈l,dyn fn [.agg (aX x),.int .i64 k] σ=some (.int .i64 (cv x),σ)) (hc:∀x∈l,cv x≠0):
  ∃p:Nat,p≤l.length∧Fe dyn [sl 11 aX l,.int .i64 k,.fn fn []] σ=some (.aF [.int .i64 (p:Int),.bool false],σ):=by
 suffices h:∃p:Nat,p≤l.length∧Ff dyn (sl 11 aX l) (.int .i64 k) (.fn fn []) σ=some (.aF [.int .i64 (p:Int),.bool false],σ) by
  obtain⟨p,hp,h⟩:=h
  exact⟨p,hp,wrap_eq rfl h rfl⟩
 unfold Ff
 rw[gf,Option.bind_some]
 refine Zk (v0:=[.int .i64 0,.int .i64 (l.length:Int)]) (r:=fun p=>((AV.aF [.int .i64 (p:Int),.bool false],σ):AV×Heap)) (fun i j=>[.int .i64 (i:Int),.int .i64 (j:Int)]) rfl (fun h=>((l[h]?).any fun x=>decide (cv x<0))) (fun i j hij hj=>?_) (fun i hi=>?_) (fun p hp=>?_)
 ·have hlt:(i+j) / 2<l.length:=by omega
  have hx:l[(i+j) / 2]? =some l[(i+j) / 2]:=List.getElem?_eq_getElem hlt
  have jT:=hd _ (List.mem_of_getElem? hx)
  have gO:=jZ 11 aX l hx
  have hq:A.fR dyn (.fn fn []) [.agg (aX l[(i+j) / 2]),.int .i64 k] σ=some (.int .i64 (cv l[(i+j) / 2]),σ):=by simp only[A.fR,List.append_nil];exact jT
  simp only[List.getD_cons_succ,List.getD_cons_zero]
  rw[vU,Option.bind_some,decide_eq_true hij]
  simp only[A.cond,cond_true]
  rw[Jt (by omega),Option.bind_some,M8 (by omega),Option.bind_some,MQ (by omega),Option.bind_some,M7 (by omega),Option.bind_some,gO,Option.bind_some]
  simp only[A.deref,Option.bind_some,IC,A.lb]
  rw[hq,Option.bind_some,Nz,Option.bind_some]
  simp only[hx,Option.any_some]
  by_cases hh:cv l[(i+j) / 2]<0
  ·rw[decide_eq_true hh]
   simp only[cond_true,if_true,GC (show(i+j) / 2+1<9223372036854775808 by omega),Option.bind_some]
   rfl
  ·rw[decide_eq_false hh]
   rfl
 ·simp only[List.getD_cons_succ,List.getD_cons_zero]
  rw[vU,Option.bind_some,decide_eq_false (Nat.lt_irrefl i)]
  rfl
 ·simp only[JG,List.getD_cons_succ,List.getD_cons_zero]
  rw[vU,Option.bind_some]
  by_cases hpl:p<l.length
  ·have hx:l[p]? =some l[p]:=List.getElem?_eq_getElem hpl
   have jT:=hd _ (List.mem_of_getElem? hx)
   have hne:=hc _ (List.mem_of_getElem? hx)
   have gO:=jZ 11 aX l hx
   have hq:=quiet_of (by show A.fR dyn (.fn fn []) [.agg (aX l[p]),.int .i64 k] σ=_;simp only[A.fR,List.append_nil];exact jT)
   simp only[decide_eq_true hpl,A.guard,beq_self_eq_true,cond_true,Option.bind_some,List.getD_cons_succ,List.getD_cons_zero,gO,A.deref,IC,A.lb,A.aj,A.ay,A.pick]
   show((A.quiet (A.fR dyn (.fn fn []) [.agg (aX l[p]),.int .i64 k] σ) σ).bind _)=_
   rw[hq,Option.bind_some,gR,decide_eq_false hne]
   exact br _ _
  ·simp only[decide_eq_false hpl,A.guard,Option.bind_some,A.pick]
   exact br _ _
structure aaR (l : List aY) : Prop where
 len:l.length≤300
 num:∀c∈l,1≤c.number∧c.number≤9999999
 Kp:l.Pairwise fun a b=>a.number<b.number
theorem Good.n {l:List aY} (h:Good l):aaR l:=⟨h.len,h.num,h.Kp⟩
theorem akY {l:List aY} (hg:aaR l) {n:Int} (hn:aM n) (σ:Heap):∃p:Nat,FI [sl 11 aX l,.int .i64 n] σ=some (.aF [.int .i64 (p:Int),.bool (uA l n)],σ)∧p≤l.length∧((1≤n∨uA l n=true)→p=kZ l n):=by
 have hlen:l.length<4611686018427387904:=by have:=hg.len;omega
 have hd:∀x∈l,A.tab (fun _ _=>none) [(177,Di)] 177 [.agg (aX x),.int .i64 n] σ=some (.int .i64 (IntKind.i64.wrap (x.number-n)),σ):=fun x _=>ad8 (r:=IntKind.i64.wrap (x.number-n)) rfl
 have wr:∀{p:Nat} {b:Bool},Fe (A.tab (fun _ _=>none) [(177,Di)]) [sl 11 aX l,.int .i64 n,.fn 177 []] σ=some (.aF [.int .i64 (p:Int),.bool b],σ)→
   FI [sl 11 aX l,.int .i64 n] σ=some (.aF [.int .i64 (p:Int),.bool b],σ):=by
  intro p b h
  refine wrap_eq rfl ?_ rfl
  rw[show A.bT [Sh.e 11 [.k,.k,.k,.k,.k,.k,.k,.s 2,.k,.k,.s 8]] [sl 11 aX l,.int .i64 n]=[sl 11 aX l,.int .i64 n]from ff (uD (fun _=>rfl) _) rfl]
  show LJ (sl 11 aX l) (.int .i64 n) σ=_
  unfold LJ
  rw[h,Option.bind_some]
  exact br _ _
 by_cases aqt:-4611686018427387904≤n
 ·refine⟨kZ l n,wr ?_,ZQ _ _,fun _=>rfl⟩
  have hw:∀x∈l,IntKind.i64.wrap (x.number-n)=x.number-n:=fun x hx=>by
   have:=hg.num x hx
   unfold aM at hn
   exact wrap64 (by unfold aM;omega)
  rw[bsC (cv:=fun x=>IntKind.i64.wrap (x.number-n)) (p:=kZ l n) hlen (ZQ _ _) hd ?_]
  ·rw[←YT hg.Kp]
   congr 4
   cases hx:l[kZ l n]? with
   |none=>rfl
   |some x=>
    simp only[Option.any_some]
    rw[hw x (List.mem_of_getElem? hx),show decide (x.number-n=0)=decide (x.number=n)from decide_eq_decide.2 (by omega)]
  ·intro h x hx
   rw[hw x (List.mem_of_getElem? hx),←RL hg.Kp hx]
   omega
 ·have hno:uA l n=false:=by
   rw[Bool.eq_false_iff]
   intro e
   obtain⟨x,hx,hk⟩:=List.any_eq_true.1 e
   have:=hg.num x hx
   have:=of_decide_eq_true hk
   omega
  obtain⟨p,hp,h⟩:=alC hlen hd (fun x hx e=>by
   have NJ:=hg.num x hx
   unfold aM at hn
   have h2:IntKind.i64.wrap (x.number-n)=x.number-n∨IntKind.i64.wrap (x.number-n)=x.number-n-18446744073709551616:=by
    by_cases hh:x.number-n<9223372036854775808
    ·exact .inl (wrap64 (by unfold aM;omega))
    ·right
     unfold IntKind.wrap
     simp [IntKind.bits,IntKind.signed]
     omega
   rcases h2 with h2|h2<;>rw[h2]at e<;>omega)
  exact⟨p,by rw[hno];exact wr h,hp,fun q=>by
   rcases q with q|q
   ·omega
   ·rw[hno]at q;cases q⟩
theorem akZ {l:List aY} (hg:Good l) {n:Int} (hn:aM n) (σ:Heap):∃p:Nat,FI [sl 11 aX l,.int .i64 n] σ=some (.aF [.int .i64 (p:Int),.bool (uA l n)],σ)∧p≤l.length∧((1≤n∨uA l n=true)→p=kZ l n):=akY hg.n hn σ
section
variable {α R γ S B : Type}
end
end
section
open HP
def Lt (σ:Heap) (sh:Sh) (v t:AV):Prop:=(∃v',A.bw σ 0 8 v=some v'∧A.own v'=false∧A.nn sh v'=A.nn sh t)∧A.own t=false∧(A.own v=false→A.nn sh v=A.nn sh t)
def NW (σ:Heap):List Sh→List AV→List AV→Prop
 |_,[],[]=>True
 |[],a::cO,t::ts=>Lt σ .k a t∧NW σ [] cO ts
 |s::ss,a::cO,t::ts=>Lt σ s a t∧NW σ ss cO ts
 |_,_,_=>False
theorem gQ (v:AV):A.nn .k v=v:=by simp [A.nn]
theorem UK {σ:Heap}:∀{ss:List Sh} {cO ts:List AV},NW σ ss cO ts→(∃CG,A.eG σ 0 8 cO=some CG∧CG.any A.own=false∧A.bT ss CG=A.bT ss ts)∧ts.any A.own=false∧(cO.any A.own=false→A.bT ss cO=A.bT ss ts)
 |ss,[],[],_=>⟨⟨[],by simp [A.eG],rfl,rfl⟩,rfl,fun _=>rfl⟩
 |[],a::cO,t::ts,h=>by
  obtain⟨⟨⟨v',h1,h2,h3⟩,h4,h5⟩,h6⟩:=h
  obtain⟨⟨CG,k1,k2,k3⟩,k4,k5⟩:=UK h6
  rw[gQ,gQ]at h3
  simp only[A.bT]at k3 k5
  refine⟨⟨v'::CG,by simp [A.eG,h1,k1],by simp [h2,k2],by simp [A.bT,h3,k3]⟩,by simp [h4,k4],fun h=>?_⟩
  simp only[List.any_cons,Bool.or_eq_false_iff]at h
  have:=h5 h.1
  rw[gQ,gQ]at this
  simp [A.bT,this,k5 h.2]
 |s::ss,a::cO,t::ts,h=>by
  obtain⟨⟨⟨v',h1,h2,h3⟩,h4,h5⟩,h6⟩:=h
  obtain⟨⟨CG,k1,k2,k3⟩,k4,k5⟩:=UK h6
  refine⟨⟨v'::CG,by simp [A.eG,h1,k1],by simp [h2,k2],by simp [A.bT,h3,k3]⟩,by simp [h4,k4],fun h=>?_⟩
  simp only[List.any_cons,Bool.or_eq_false_iff]at h
  simp [A.bT,h5 h.1,k5 h.2]
 |_,[],_::_,h=>by cases h
 |[],_::_,[],h=>by cases h
 |_::_,_::_,[],h=>by cases h
theorem CR {eS:List Sh} {fH:Sh} {r:List AV→Heap→Option (AV×Heap)} {cO ts:List AV} {σ:Heap} {v:AV} (h:NW σ eS cO ts) (e:∀σ,A.wrap true eS fH r ts σ=some (v,σ)) (hs:A.Eh v=true):A.wrap true eS fH r cO σ=some (v,σ):=by
 obtain⟨⟨CG,k1,k2,k3⟩,k4,k5⟩:=UK h
 cases ho:cO.any A.own
 ·rw[M3 (k5 ho) ho k4];exact e σ
 ·exact Zf ho k1 k2 (by rw[M3 k3 k2 k4];exact e []) hs
theorem IX {σ:Heap} {sh:Sh} {v:AV} (h:Fz v) (ho:A.own v=false):Lt σ sh v v:=⟨⟨v,h σ 0 8,ho,rfl⟩,ho,fun _=>rfl⟩
theorem R3 {σ:Heap} (n:Int):Lt σ .k (.int .i64 n) (.int .i64 n):=IX (dM _ _) rfl
section
variable {α : Type} {c : α → List AV} {sz : Nat} {B : aK → Prop} {aD σ : Heap} {R : HP} {v : AV} {l : List α}
theorem yK (H:Hs B aD σ (Sl (fl c) sz v l*R)):(l=[]∧(v=.aq∨v=.ez)∧Hs B aD σ R)∨∃id g,v=.os id g sz 0 l.length∧Hs B aD σ (blk id (.arr g sz (l.map c))*R):=by
 rcases Af H with h|⟨id,g,seg,rfl,hl,H⟩
 ·exact .inl h
 ·have K:=M9.1 (hs_eq (show _=els (fl c) seg l*(blk id (.arr g sz seg)*R) by ac_rfl) H)
  obtain⟨rfl,K⟩:=K
  exact .inr ⟨id,g,rfl,K⟩
theorem Sa {id g:Nat} {n:Nat} (H:Hs B aD σ (blk id (.arr g sz (l.map c))*R)) (hn:n=l.length:=by rfl):Hs B aD σ (Sl (fl c) sz (.os id g sz 0 n) l*R):=
 Ny (id:=id) (g:=g) (seg:=l.map c) (hs_eq (show els (fl c) (l.map c) l*(blk id (.arr g sz (l.map c))*R)=_ by ac_rfl) (M9.2 ⟨rfl,H⟩)) hn
theorem Na (hc:∀x,jt (c x)) {id g:Nat} (h:σ[id]? =some (.arr g sz (l.map c))) {n:Nat} (hn:¬id<n) (d:Nat):A.bw σ n (d+1) (.os id g sz 0 l.length)=some (sl sz c l):=by
 simp only[A.bw,if_neg hn,h]
 rw[if_pos (by simp),List.drop_zero,List.take_of_length_le (by simp),F2,S8 hc]
 rfl
theorem IN (H:Hs B aD σ (Sl (fl c) sz v l*R)) (hc:∀x,jt (c x)) {n:Nat} (hn:n≤aD.length) (d:Nat):∃v',A.bw σ n (d+1) v=some v'∧A.Tz v'=false∧A.nn (.s sz) v'=sl sz c l:=by
 rcases yK H with⟨rfl,rfl|rfl,_⟩|⟨id,g,rfl,K⟩
 ·exact⟨.aq,by simp [A.bw],rfl,rfl⟩
 ·exact⟨.ez,by simp [A.bw],rfl,rfl⟩
 ·obtain⟨h1,h2⟩:=iW K
  exact⟨_,Na hc h2 (by omega) d,rfl,rfl⟩
theorem R1 {P:HP} (H:Hs B aD σ P):Hs bY aD σ P:=⟨by obtain⟨bs,h,_⟩:=H.pre;exact⟨bs,h,fun _ _=>trivial⟩,H.own⟩
end
section
variable {α : Type} {E : List AV → α → HP} {sz : Nat} {aD σ : Heap} {R : HP} {v : AV} {l : List α}
end
def amx (x:aY) (vp vm:AV):List AV:=[.int .i64 x.number,.str x.title,.int .i64 x.delay,.int .i64 x.up,.int .i64 x.down,.int .i64 x.other,.int .i64 x.dS.kind,vp,.bool x.block,.int .i64 x.follow,vm]
def GB:List Sh:=[.k,.k,.k,.k,.k,.k,.k,.s 2,.k,.k,.s 8]
section
variable {B : aK → Prop} {aD σ : Heap} {R : HP} {M : AV → List fF → HP} {e : List AV} {x : aY}
variable {v : AV} {l : List aY}
theorem afg (l:List aY):A.nn (.e 11 GB) (sl 11 aX l)=sl 11 aX l:=uD (fun _=>rfl) l
end
end
section
open HP
theorem Gp {β:Type} {f:List AV→Heap→Option LS} {K:LS→Option β} {v0:List AV} {σ:Heap} {P:β→Prop} {Q:LS→Prop} (h:∃q,A.loop f v0 σ=some q∧Q q) (k:∀q,Q q→∃b,K q=some b∧P b):∃b,(A.loop f v0 σ).bind K=some b∧P b:=by
 obtain⟨q,h1,h2⟩:=h
 obtain⟨b,h3,h4⟩:=k q h2
 exact⟨b,by rw[h1];exact h3,h4⟩
section
variable {α : Type} {c : α → List AV} {sz : Nat} {B : aK → Prop} {aD σ : Heap} {R : HP} {v : AV} {l : List α}
theorem MH {most:Nat} {m r:List AV→Heap→Option (AV×Heap)} {r0:AV→Heap→Option (AV×Heap)} (hm:m=A.ue (A.wrap true [(.s sz)] .k (A.dH r0))) (hr:∀a σ,r0 a σ=(A.tN a .aq).bind fun x1=>A.cond x1 (some (.aq,σ)) ((A.append sz most .ez a σ).bind fun r2=>some (r2.1,r2.2)))
  (hl:l.length≤most) (hB:∀g g' seg,(seg=[]∨B (.arr g sz seg))→B (.arr g' sz (seg++l.map c))) (H:Hs B aD σ R):∃v σ',m [sl sz c l] σ=some (v,σ')∧A.cell v=some v∧Hs B aD σ' (Sl (fl c) sz v l*R):=by
 subst hm
 cases l with
 |nil=>exact⟨.ez,σ,rfl,rfl,yA H (.inr rfl)⟩
 |cons x l=>
  obtain⟨v',σ',e1,H2⟩:=Nh (B:=B) (E:=fl c) (sz:=sz) (v:=.ez) (l:=[]) (ys:=(x::l).map c) (xs:=x::l) (most:=most) (yA (M9.2 ⟨rfl,H⟩) (.inr rfl)) (by simpa using hl) hB
  have hv:A.cell v'=some v':=by
   rcases yK H2 with⟨h,_,_⟩|⟨id,g,rfl,_⟩
   ·cases h
   ·rfl
  refine⟨v',σ',?_,hv,H2⟩
  show A.wrap true [(.s sz)] .k (A.dH r0) [sl sz c (x::l)] σ=_
  refine wrap_eq rfl ?_ rfl
  show r0 (sl sz c (x::l)) σ=_
  rw[hr,show A.tN (sl sz c (x::l)) .aq=some (.bool false)from rfl,Option.bind_some,cz,show sl sz c (x::l)=.sl sz ((x::l).map c)from rfl,e1]
  rfl
end
section
variable {aD σ : Heap} {R : HP}
theorem aob {l:List aY} (hl:l.length≤1099511627776) (H:Hs bY aD σ R):∃v σ',Dd [sl 11 aX l] σ=some (v,σ')∧A.cell v=some v∧Hs bY aD σ' (Sl (fl aX) 11 v l*R):=
 MH (most:=140737488355328 / 128) (r:=fun _ _=>none) rfl (fun _ _=>rfl) (by simpa using hl) (fun _ _ _ _=>trivial) H
end
end
section
open HP
theorem nO {f:List AV→Heap→Option LS} {Q:LS→Prop} (I:Nat→List AV→Heap→Prop) (hstep:∀n v σ,I n v σ→(∃m v' σ',m<n∧f v σ=some (.normal,v',σ')∧I m v' σ')∨∃q,f v σ=some q∧q.1≠.normal∧Q q) {n:Nat} {v0:List AV} {σ:Heap} (h0:I n v0 σ):∃q,A.loop f v0 σ=some q∧Q q:=by
 have key:∀(k n:Nat) v σ,n≤k→I n v σ→∃q,(∃m,A.iter f m v σ=some q)∧Q q:=by
  intro k
  induction k with
  |zero=>
   intro n v σ hn hI
   rcases hstep n v σ hI with⟨m,_,_,hm,_⟩|⟨q,h1,h2,h3⟩
   ·omega
   ·exact⟨q,vu h1 h2,h3⟩
  |succ k ih=>
   intro n v σ hn hI
   rcases hstep n v σ hI with⟨m,v',σ',hm,h1,h2⟩|⟨q,h1,h2,h3⟩
   ·obtain⟨q,hq,hQ⟩:=ih m v' σ' (by omega) h2
    exact⟨q,Dv h1 hq,hQ⟩
   ·exact⟨q,vu h1 h2,h3⟩
 obtain⟨q,⟨m,hm⟩,hQ⟩:=key n n v0 σ (Nat.le_refl _) h0
 exact⟨q,Dm hm,hQ⟩
theorem gT (X d:Option AV):A.guard (.bool true) true X d=X:=by have h:A.guard (.bool true) true X d=X:=rfl;exact h.trans (Eq.refl X)
theorem gF (X d:Option AV):A.guard (.bool false) false X d=X:=by have h:A.guard (.bool false) false X d=X:=rfl;exact h.trans (Eq.refl X)
theorem we (X d:Option AV):A.guard (.bool false) true X d=d:=by have h:A.guard (.bool false) true X d=d:=rfl;exact h.trans (Eq.refl d)
theorem vZ (X d:Option AV):A.guard (.bool true) false X d=d:=by have h:A.guard (.bool true) false X d=d:=rfl;exact h.trans (Eq.refl d)
theorem bS {α β:Type} (a:α) (f:α→Option β):(some a).bind f=f a:=by have h:(some a).bind f=f a:=rfl;exact h.trans (Eq.refl (f a))
theorem oq (cs:List AV) (σ:Heap):A.deref (.rp cs) σ=some cs:=by have h:A.deref (.rp cs) σ=some cs:=rfl;exact h.trans (Eq.refl _)
theorem nG (n:Nat) {α:Type} {X Y:α}:(bif (AX.exit n==AX.exit n)then X else Y)=X:=by rw[show(AX.exit n==AX.exit n)=true from beq_self_eq_true _];rfl
theorem nh (x y:AV):A.pick (.bool false) x y=some y:=rfl
theorem lq (x y:AV):A.pick (.bool true) x y=some x:=rfl
theorem aoT:A.not (.bool true)=some (.bool false):=rfl
theorem aoS:A.not (.bool false)=some (.bool true):=rfl
end
section
open HP
section
variable {aD σ : Heap} {R : HP}
theorem IJ {v v':AV} (H:Hs bY aD σ R) (h:A.bw σ aD.length 8 v=some v') (hv:σ=aD→v'=v):A.fin aD v σ=some (v',aD):=by
 obtain⟨⟨bs,rfl,_⟩,_⟩:=H
 by_cases ng:bs=[]
 ·subst ng
  rw[List.append_nil]at h ⊢
  rw[br,hv (by simp)]
 ·unfold A.fin
  rw[if_neg (by simpa using ng),if_pos (by simp),h];rfl
end
end
section
open HP
def Inv (k:Nat) (l:List aY):Prop:=l.length≤1000∧∀c∈l,TG c.dr∧c.dr.length≤2000+k
theorem Inv.mono {k k':Nat} {l:List aY} (h:Inv k l) (hk:k≤k'):Inv k' l:=⟨h.1,fun c hc=>⟨(h.2 c hc).1,by have:=(h.2 c hc).2;omega⟩⟩
theorem Inv.erase {k:Nat} {l:List aY} (h:Inv k l) (i:Nat):Inv k (l.eraseIdx i):=
 ⟨by have:=List.length_eraseIdx_le l i;have:=h.1;omega,fun c hc=>h.2 c (List.mem_of_mem_eraseIdx hc)⟩
section
variable {aD σ : Heap} {R : HP}
end
end
section
open HP
theorem akv {l:List aY} {n:Int} (hg:Good l) (h:uA l n=true):∃x,l[kZ l n]? =some x∧x.number=n:=by
 rw[←YT hg.Kp]at h
 cases hx:l[kZ l n]? with
 |none=>rw[hx]at h;cases h
 |some x=>rw[hx]at h;exact⟨x,rfl,by simpa using h⟩
theorem iQ (a b:AV):A.ext 0 (.aF [a,b])=some a:=rfl
theorem ext1 (a b:AV):A.ext 1 (.aF [a,b])=some b:=rfl
theorem akQ (l:List aY) (cO:List AV):A.bT [Sh.e 11 GB] (sl 11 aX l::cO)=sl 11 aX l::cO:=ff (afg l) rfl
theorem SI (a:Int):A.neq .i (.int .i64 a) (.int .i64 0)=some (.bool (decide (¬(a=0)))):=by rw[fI]
end
section
open HP
section
variable {α : Type} {c : α → List AV} {sz : Nat} {aD σ : Heap} {R : HP}
theorem alU {B:aK→Prop} (H:Hs B aD σ R) (bs:Heap) (ng:∀b∈bs,B b):Hs B aD (σ++bs) R:=by
 obtain⟨⟨b0,rfl,hb0⟩,h,hr,h2⟩:=H
 exact⟨⟨b0++bs,by simp,fun b hb=>(List.mem_append.1 hb).elim (hb0 b) (ng b)⟩,h,hr,fun i b hb=>⟨(h2 i b hb).1,by rw[List.getElem?_append_left (List.getElem?_eq_some_iff.1 (h2 i b hb).2).1];exact(h2 i b hb).2⟩⟩
end
def mP (l:List bk):Prop:=l.Pairwise fun a b=>fq a.key b.key=true
def pg (l:List bk) (k:aB):Nat:=(l.takeWhile fun m=>fq m.key k).length
def NI (l:List bk) (k:aB):Bool:=l.any fun m=>decide (m.key=k)
theorem ak1 (l:List bk) (k:aB):pg l k≤l.length:=(List.takeWhile_prefix _).length_le
theorem MX {l:List bk} {k:aB} (h:mP l):∀{i:Nat} {x:bk},l[i]? =some x→(fq x.key k=true↔i<pg l k):=by
 induction l with
 |nil=>intro i x hx;simp at hx
 |cons a l ih=>
  intro i x hx
  have hs:=List.pairwise_cons.1 h
  unfold pg
  rw[List.takeWhile_cons]
  cases ha:fq a.key k
  ·simp only[Bool.false_eq_true,if_false,List.length_nil,Nat.not_lt_zero,iff_false,Bool.not_eq_true]
   cases i with
   |zero=>simp at hx;subst hx;exact ha
   |succ i=>
    simp only[List.getElem?_cons_succ]at hx
    have:=hs.1 x (List.mem_of_getElem? hx)
    cases hq:fq x.key k
    ·rfl
    ·rw[FV this hq]at ha;cases ha
  ·simp only[if_true,List.length_cons]
   cases i with
   |zero=>simp at hx;subst hx;simp [ha]
   |succ i=>
    simp only[List.getElem?_cons_succ]at hx
    rw[ih hs.2 hx]
    unfold pg
    omega
theorem MW {l:List bk} {k:aB} (h:mP l) {i:Nat} {x:bk} (hi:l[i]? =some x) (hk:x.key=k):pg l k=i:=by
 have h1:¬i<pg l k:=fun q=>by
  have:=(MX h hi).2 q
  rw[hk,B8]at this;cases this
 have h2:¬pg l k<i:=fun q=>by
  have hp:pg l k<l.length:=Nat.lt_trans q (List.getElem?_eq_some_iff.1 hi).1
  have hy:l[pg l k]? =some l[pg l k]:=List.getElem?_eq_getElem hp
  have h3:¬fq l[pg l k].key k=true:=fun q'=>Nat.lt_irrefl _ ((MX h hy).1 q')
  have h4:=List.pairwise_iff_getElem.1 h (pg l k) i hp (List.getElem?_eq_some_iff.1 hi).1 q
  rw[(List.getElem?_eq_some_iff.1 hi).2,hk]at h4
  exact h3 h4
 omega
theorem YU {l:List bk} {k:aB} (h:mP l):((l[pg l k]?).any fun x=>decide (x.key=k))=NI l k:=by
 rw[Bool.eq_iff_iff]
 constructor
 ·intro e
  cases hx:l[pg l k]? with
  |none=>rw[hx]at e;cases e
  |some x=>rw[hx]at e;exact List.any_eq_true.2 ⟨x,List.mem_of_getElem? hx,e⟩
 ·intro e
  obtain⟨x,hm,hk⟩:=List.any_eq_true.1 e
  have hk:=of_decide_eq_true hk
  obtain⟨i,hi⟩:=List.mem_iff_getElem?.1 hm
  rw[MW h hi hk,hi];simp [hk]
def zk (n:Int) (st:List bk) (m:fF):List bk:=
 let st1:=if NI st m.key=true then st.eraseIdx (pg st m.key)else st
 if m.release=true then st1 else st1.take (pg st m.key)++[⟨m.key,m.value,n⟩]++st1.drop (pg st m.key)
def II (st:List bk) (c:aY):List bk:=c.dr.foldl (zk c.number) st
def B3 (l:List aY):List bk:=l.foldl II []
def lN (st:List bk) (k:aB):Option bk:=st.find? fun e=>decide (e.key=k)
theorem Xm {n:Int} {st:List bk} (h:mP st) (m:fF):mP (zk n st m)∧(∀k,lN (zk n st m) k=if k=m.key then(if m.release=true then none else some ⟨m.key,m.value,n⟩)else lN st k)∧(zk n st m).length≤st.length+1:=by
 obtain⟨p,hp⟩:∃p,p=pg st m.key:=⟨_,rfl⟩
 obtain⟨st1,GO⟩:∃st1,st1=if NI st m.key=true then st.eraseIdx p else st:=⟨_,rfl⟩
 have aqw:p≤st.length:=by rw[hp];exact ak1 _ _
 have e1:st1.take p=st.take p:=by
  rw[GO];split
  ·rw[List.eraseIdx_eq_take_drop_succ,List.take_append_of_le_length (by simp;omega),List.take_take,Nat.min_self]
  ·rfl
 have e2:st1.drop p=if NI st m.key=true then st.drop (p+1)else st.drop p:=by
  rw[GO];split
  ·rw[List.eraseIdx_eq_take_drop_succ,List.drop_append_of_le_length (by simp;omega),List.drop_of_length_le (by simp;omega),List.nil_append]
  ·rfl
 have hlt:∀x∈st.take p,fq x.key m.key=true:=fun x hx=>by
  obtain⟨i,hi⟩:=List.mem_iff_getElem?.1 hx
  rw[List.getElem?_take]at hi
  split at hi
  ·rename_i q;exact(MX h hi).2 (by omega)
  ·cases hi
 have hgt:∀x∈st1.drop p,fq m.key x.key=true:=fun x hx=>by
  rw[e2]at hx
  have key:∀i,p≤i→st[i]? =some x→x.key≠m.key→fq m.key x.key=true:=by
   intro i hpi hi hne
   cases hq:fq m.key x.key
   ·exfalso
    have h1:fq x.key m.key=false:=by
     cases wo:fq x.key m.key
     ·rfl
     ·have:=(MX h hi).1 wo;omega
    exact hne (RF h1 hq)
   ·rfl
  split at hx
  ·rename_i hh
   obtain⟨i,hi⟩:=List.mem_iff_getElem?.1 hx
   rw[List.getElem?_drop]at hi
   refine key _ (by omega) hi fun e=>?_
   have:=MW h hi e
   omega
  ·rename_i hh
   obtain⟨i,hi⟩:=List.mem_iff_getElem?.1 hx
   rw[List.getElem?_drop]at hi
   refine key _ (by omega) hi fun e=>?_
   exact hh (List.any_eq_true.2 ⟨x,List.mem_of_getElem? hi,by simp [e]⟩)
 have hs1:mP st1:=by
  rw[GO];split
  ·exact h.sublist (List.eraseIdx_sublist _ _)
  ·exact h
 have wk:st1.length≤st.length:=by
  rw[GO];split
  ·exact List.length_eraseIdx_le _ _
  ·exact Nat.le_refl _
 have hno:∀k,k=m.key→lN st1 k=none:=by
  rintro k rfl
  unfold lN
  rw[List.find?_eq_none]
  intro x hx hk
  have hk:=of_decide_eq_true hk
  rw[←List.take_append_drop p st1,List.mem_append]at hx
  rcases hx with hx|hx
  ·rw[e1]at hx
   have:=hlt x hx
   rw[hk,B8]at this;cases this
  ·have:=hgt x hx
   rw[hk,B8]at this;cases this
 have abF:∀k,k≠m.key→lN st1 k=lN st k:=by
  intro k hk
  rw[GO];split
  ·rename_i hh
   unfold lN
   rw[List.eraseIdx_eq_take_drop_succ]
   have hx:st[p]? ≠none:=fun e=>by
    have:=YU (k:=m.key) h
    rw[hh,←hp,e]at this;cases this
   obtain⟨x,hx⟩:=Option.ne_none_iff_exists'.1 hx
   have hxk:x.key=m.key:=by
    have:=YU (k:=m.key) h
    rw[hh,←hp,hx]at this
    simpa using this
   have e:st=st.take p++x::st.drop (p+1):=by
    rw[←(List.getElem?_eq_some_iff.1 hx).2,List.getElem_cons_drop,List.take_append_drop]
   conv=>rhs;rw[e]
   rw[List.find?_append,List.find?_append,List.find?_cons,decide_eq_false (fun q=>hk (by rw[←q,hxk]))]
  ·rfl
 have aot:zk n st m=if m.release=true then st1 else st1.take p++[⟨m.key,m.value,n⟩]++st1.drop p:=by
  unfold zk
  rw[←hp,←GO]
 rw[aot]
 split
 ·rename_i hr
  refine⟨hs1,fun k=>?_,by omega⟩
  by_cases hk:k=m.key
  ·rw[if_pos hk];exact hno k hk
  ·rw[if_neg hk];exact abF k hk
 ·rename_i hr
  refine⟨?_,fun k=>?_,by simp;omega⟩
  ·unfold mP
   rw[List.append_assoc,List.pairwise_append]
   refine⟨hs1.sublist (List.take_sublist _ _),?_,fun x hx y hy=>?_⟩
   ·rw[List.singleton_append,List.pairwise_cons]
    exact⟨fun y hy=>hgt y hy,hs1.sublist (List.drop_sublist _ _)⟩
   ·rw[e1]at hx
    rcases List.mem_append.1 hy with hy|hy
    ·simp at hy;subst hy;exact hlt x hx
    ·exact FV (hlt x hx) (hgt y hy)
  ·by_cases hk:k=m.key
   ·rw[if_pos hk]
    subst hk
    unfold lN
    rw[List.append_assoc,List.find?_append]
    have:(st1.take p).find? (fun e=>decide (e.key=m.key))=none:=by
     rw[List.find?_eq_none]
     intro x hx q
     rw[e1]at hx
     have:=hlt x hx
     rw[of_decide_eq_true q,B8]at this;cases this
    rw[this]
    simp
   ·rw[if_neg hk,←abF k hk]
    unfold lN
    rw[List.append_assoc,List.find?_append,List.singleton_append,List.find?_cons,decide_eq_false (fun q=>hk q.symm)]
    conv=>rhs;rw[←List.take_append_drop p st1,List.find?_append]
end
section
open HP
section
variable {B : aK → Prop} {aD σ : Heap} {R : HP}
theorem agv {n:Int} (ms:List fF):∀{st:List bk},mP st→mP (ms.foldl (zk n) st)∧(ms.foldl (zk n) st).length≤st.length+ms.length:=by
 induction ms with
 |nil=>intro st h;exact⟨h,Nat.le_refl _⟩
 |cons m ms ih=>
  intro st h
  obtain⟨h1,_,h3⟩:=Xm (n:=n) h m
  obtain⟨h4,h5⟩:=ih h1
  exact⟨h4,by simp only[List.foldl_cons,List.length_cons];omega⟩
theorem agk {l:List aY} (hl:∀c∈l,c.dr.length≤2000000):∀(k:Nat) (st:List bk),mP st→st.length≤k*2000000→mP (l.foldl II st)∧(l.foldl II st).length≤(k+l.length)*2000000:=by
 induction l with
 |nil=>intro k st h1 h2;exact⟨h1,h2⟩
 |cons c l ih=>
  intro k st h1 h2
  obtain⟨h3,h4⟩:=agv (n:=c.number) c.dr h1
  have hc:=hl c (by simp)
  obtain⟨h5,h6⟩:=ih (fun x hx=>hl x (by simp [hx])) (k+1) (II st c) h3 (by show(c.dr.foldl _ st).length≤_;omega)
  refine⟨h5,?_⟩
  rw[List.length_cons,show k+(l.length+1)=k+1+l.length from by omega]
  exact h6
end
def pZ (n:Int) (s:List (aB×bk)) (m:fF):List (aB×bk):=if m.release=true then qh m.key s else dz m.key ⟨m.key,m.value,n⟩ s
def DL (l:List aY):List (aB×bk):=l.foldl (fun s c=>c.dr.foldl (pZ c.number) s) []
def qg (s:List (aB×bk)):Prop:=(s.map (·.1)).Nodup
theorem Yb {ν:Type} (k k':aB) (v:ν):∀s:List (aB×ν),bM k (dz k' v s)=if k=k' then some v else bM k s
 |[]=>by by_cases h:k=k'<;>simp [dz,bM,h]
 |(a,b)::s=>by
  rw[dz]
  by_cases h1:k'=a
  ·subst h1
   simp only[if_true,bM]
   by_cases h:k=k'<;>simp [h]
  ·rw[if_neg h1,bM,bM,Yb k k' v s]
   by_cases h2:k=a
   ·have:k≠k':=fun e=>h1 (by rw[←e,h2])
    simp [h2,this]
    intro e;exact absurd (e.symm) h1
   ·simp [h2]
theorem RG {ν:Type} {k:aB}:∀{s:List (aB×ν)} {x:aB×ν},x∈qh k s→x∈s
 |[],x,h=>h
 |(a,b)::s,x,h=>by
  rw[qh]at h
  split at h
  ·exact List.mem_cons_of_mem _ h
  ·rcases List.mem_cons.1 h with rfl|h
   ·exact List.mem_cons_self
   ·exact List.mem_cons_of_mem _ (RG h)
theorem Xo {ν:Type} {k:aB}:∀{s:List (aB×ν)},(∀p∈s,p.1≠k)→bM k s=none
 |[],_=>rfl
 |(a,b)::s,h=>by
  rw[bM,if_neg (fun e=>h (a,b) (by simp) e.symm)]
  exact Xo (fun p hp=>h p (by simp [hp]))
theorem Ya (k k':aB):∀{s:List (aB×bk)},qg s→bM k (qh k' s)=if k=k' then none else bM k s
 |[],_=>by simp [qh,bM]
 |(a,b)::s,h=>by
  unfold qg at h
  rw[List.map_cons,List.nodup_cons]at h
  rw[qh]
  by_cases h1:k'=a
  ·subst h1
   rw[if_pos rfl]
   by_cases h2:k=k'
   ·subst h2
    rw[if_pos rfl]
    exact Xo fun p hp e=>h.1 (List.mem_map.2 ⟨p,hp,e⟩)
   ·rw[if_neg h2,bM,if_neg h2]
  ·rw[if_neg h1,bM,bM,Ya k k' (s:=s) h.2]
   by_cases h2:k=a
   ·have:k≠k':=fun e=>h1 (by rw[←e,h2])
    rw[if_pos h2,if_pos h2,if_neg this]
   ·rw[if_neg h2,if_neg h2]
theorem ZF {k:aB} {v:bk}:∀{s:List (aB×bk)},qg s→qg (dz k v s)∧∀x∈(dz k v s).map (·.1),x∈s.map (·.1)∨x=k
 |[],_=>⟨by simp [qg,dz],by simp [dz]⟩
 |(a,b)::s,h=>by
  unfold qg at h
  rw[List.map_cons,List.nodup_cons]at h
  rw[dz]
  split
  ·rename_i e
   subst e
   exact⟨by unfold qg;rw[List.map_cons,List.nodup_cons];exact h,fun x hx=>.inl hx⟩
  ·rename_i e
   obtain⟨h1,h2⟩:=ZF (k:=k) (v:=v) h.2
   refine⟨?_,fun x hx=>?_⟩
   ·unfold qg
    rw[List.map_cons,List.nodup_cons]
    refine⟨fun hm=>?_,h1⟩
    rcases h2 _ hm with h3|h3
    ·exact h.1 h3
    ·exact e h3.symm
   ·rw[List.map_cons]at hx ⊢
    rcases List.mem_cons.1 hx with rfl|hx
    ·exact .inl List.mem_cons_self
    ·rcases h2 x hx with h3|h3
     ·exact .inl (List.mem_cons_of_mem _ h3)
     ·exact .inr h3
theorem ZE {k:aB}:∀{s:List (aB×bk)},qg s→qg (qh k s)
 |[],h=>h
 |(a,b)::s,h=>by
  unfold qg at h
  rw[List.map_cons,List.nodup_cons]at h
  rw[qh]
  split
  ·exact h.2
  ·unfold qg
   rw[List.map_cons,List.nodup_cons]
   refine⟨fun hm=>?_,ZE h.2⟩
   obtain⟨p,hp,e⟩:=List.mem_map.1 hm
   exact h.1 (List.mem_map.2 ⟨p,RG hp,e⟩)
def AA (s:List (aB×bk)) (st:List bk):Prop:=qg s∧mP st∧∀k,bM k s=lN st k
theorem ait {n:Int} {s:List (aB×bk)} {st:List bk} (h:AA s st) (m:fF):AA (pZ n s m) (zk n st m):=by
 obtain⟨h1,h2,h3⟩:=h
 obtain⟨k1,k2,_⟩:=Xm (n:=n) h2 m
 unfold pZ
 refine⟨?_,k1,fun k=>?_⟩
 ·split
  ·exact ZE h1
  ·exact(ZF h1).1
 ·rw[k2 k]
  split
  ·rw[Ya k m.key h1,h3 k]
  ·rw[Yb,h3 k]
theorem XW {n:Int}:∀(ms:List fF) {s:List (aB×bk)} {st:List bk},AA s st→AA (ms.foldl (pZ n) s) (ms.foldl (zk n) st)
 |[],_,_,h=>h
 |m::ms,_,_,h=>XW ms (ait h m)
theorem Y5:∀(l:List aY) {s:List (aB×bk)} {st:List bk},AA s st→AA (l.foldl (fun s c=>c.dr.foldl (pZ c.number) s) s) (l.foldl II st)
 |[],_,_,h=>h
 |c::l,_,_,h=>Y5 l (XW c.dr h)
theorem ahb (l:List aY):AA (DL l) (B3 l):=Y5 l ⟨List.Pairwise.nil,List.Pairwise.nil,fun k=>rfl⟩
theorem alf {l:List aY} (hl:l.length≤aU) (hm:∀c∈l,c.dr.length≤aU):Ib l=some (DL l):=by
 unfold Ib DL
 rw[L5 (g:=fun s c=>c.dr.foldl (pZ c.number) s) (P:=fun _ _=>True) hl trivial (fun _ _ _ _ _=>trivial) ?_]
 ·rfl
 intro i c s hc _
 rw[L5 (g:=fun s m=>pZ c.number s m) (P:=fun _ _=>True) (hm c (List.mem_of_getElem? hc)) trivial (fun _ _ _ _ _=>trivial) ?_]
 ·rfl
 intro j m s hm _
 unfold pZ
 by_cases hr:m.release=true<;>simp [hr]
end
section
open HP
def alW (n:Int):aY:=⟨n,⟨#[]⟩,0,0,0,0,⟨1,[]⟩,false,-1,[]⟩
def newRow (n:Int):List AV:=amx (alW n) .aq .aq
section
variable {aD σ : Heap} {R : HP}
end
end
section
open HP
section
variable {aD σ : Heap} {R : HP}
theorem aki {α:Type} {c:α→List AV} {sz:Nat} {B:aK→Prop} {v:AV} {l:List α} (hc:∀x,jt (c x)) (H:Hs B aD σ (Sl (fl c) sz v l*R)):∃v',A.fin aD v σ=some (v',aD)∧A.nn (.s sz) v'=sl sz c l:=by
 obtain⟨v',h1,h2,h3⟩:=IN H hc (Nat.le_refl _) 7
 refine⟨v',IJ (R1 H) h1 (fun e=>?_),h3⟩
 rcases yK H with⟨rfl,rfl|rfl,_⟩|⟨id,g,rfl,K⟩
 ·simp [A.bw]at h1;rw[h1]
 ·simp [A.bw]at h1;rw[h1]
 ·obtain⟨k1,k2⟩:=iW K
  have:=(List.getElem?_eq_some_iff.1 k2).1
  subst e;omega
end
end
section
open HP
theorem amH {f:Nat} {l:List AV} (h:jt l):Fz (.fn f l):=fun σ n d=>by cases d<;>simp [A.bw,h σ n]
theorem amJ {l:List AV} (h:jt l):Fz (.rp l):=fun σ n d=>by cases d<;>simp [A.bw,h σ n]
def fmS (st:List (aB×bk)):AV:=uS (fun x=>(AV.agg (aL x))) (fun x=>(AV.agg (cL x))) st
section
variable {aD σ : Heap} {R : HP}
end
end
section
open HP
theorem ajk {R:Type} {f:List AV→Heap→(AX×List AV×Heap→Option R)→Option R} {v:List AV} {σ:Heap} {K:AX×List AV×Heap→Option R} {r:R} (h:∃n,∀m,n≤m→A.wZ f m v σ K=some r):A.AE f v σ K=some r:=by
 have hx:∃r,∃n,∀m,n≤m→A.wZ f m v σ K=some r:=⟨r,h⟩
 unfold A.AE
 rw[dif_pos hx]
 obtain⟨n,hn⟩:=h
 obtain⟨n',hn'⟩:=Classical.choose_spec hx
 have a:=hn (n+n') (by omega)
 have b:=hn' (n+n') (by omega)
 rw[a]at b;exact b.symm
theorem bounds {P:Nat→Nat→Prop}:∀(n:Nat),(∀j,j<n→∃N,∀m,N≤m→P j m)→∃N,∀j,j<n→∀m,N≤m→P j m
 |0,_=>⟨0,fun j h=>by omega⟩
 |n+1,h=>by
  obtain⟨N,hN⟩:=bounds n (fun j hj=>h j (by omega))
  obtain⟨M,hM⟩:=h n (by omega)
  refine⟨N+M,fun j hj m hm=>?_⟩
  by_cases e:j=n
  ·subst e;exact hM m (by omega)
  ·exact hN j (by omega) m (by omega)
theorem map_erase {α β:Type} (f:α→β) (l:List α) (j:Nat):(l.map f).eraseIdx j=(l.eraseIdx j).map f:=by
 rw[List.eraseIdx_eq_take_drop_succ,List.eraseIdx_eq_take_drop_succ,List.map_append,List.map_take,List.map_drop]
theorem akW {α:Type} {l:List α} {j:Nat} (hj:j<l.length):(l[j]::l.eraseIdx j).Perm l:=by
 have e:l=l.take j++l[j]::l.drop (j+1):=by rw[List.getElem_cons_drop,List.take_append_drop]
 rw[List.eraseIdx_eq_take_drop_succ]
 conv=>rhs;rw[e]
 exact List.perm_middle.symm
theorem QA {α R:Type} {ex:Nat} {enc:α→AV×AV} {it:Nat} {f:List AV→Heap→(AX×List AV×Heap→Option R)→Option R} {K:AX×List AV×Heap→Option R} {r:R} {es:List α}
  (body:List AV→Heap→(AX×List AV×Heap→Option R)→Option R) (ev:List AV→List AV)
  (hf:∀v s k,f v s k=A.tC (.op it 0) s fun x s'=>(A.ext 0 x).bind fun c=>A.cond c (body v s' k) (k (.exit ex,ev v,s')))
  (I:List α→List α→List AV→Heap→Prop) (kj:∀d l v s,I d l v s→∃c,s[it]? =some (.it c (l.map enc)))
  (hstep:∀d l v s j p,(d++l).Perm es→I d l v s→l[j]? =some p→∃v' s',(∀k,body v (s.set it (.it [enc p] ((l.eraseIdx j).map enc))) k=k (.normal,v',s'))∧I (d++[p]) (l.eraseIdx j) v' s')
  (hend:∀d v s,d.Perm es→I d [] v s→K (.exit ex,ev v,s)=some r) {v0:List AV} {s0:Heap} (h0:I [] es v0 s0):A.AE f v0 s0 K=some r:=by
 have key:∀(n:Nat) (d l:List α) v s,l.length=n→(d++l).Perm es→I d l v s→∃N,∀m,N≤m→A.wZ f m v s K=some r:=by
  intro n
  induction n with
  |zero=>
   intro d l v s hl hp hI
   have:l=[]:=List.eq_nil_of_length_eq_zero hl
   subst this
   refine⟨1,fun m hm=>?_⟩
   obtain⟨m',rfl⟩:∃m',m=m'+1:=⟨m-1,by omega⟩
   obtain⟨c,hc⟩:=kj _ _ _ _ hI
   rw[A.wZ,hf]
   simp only[A.tC,hc,List.map_nil]
   exact hend d v s (by simpa using hp) hI
  |succ n ih=>
   intro d l v s hl hp hI
   obtain⟨c,hc⟩:=kj _ _ _ _ hI
   have hb:∀j,j<l.length→∃N,∀m,N≤m→∀p,l[j]? =some p→body v (s.set it (.it [enc p] ((l.eraseIdx j).map enc))) (fun q=>match q.1 with|.normal=>A.wZ f m q.2.1 q.2.2 K|_=>K q)=some r:=by
    intro j hj
    have hx:l[j]? =some l[j]:=List.getElem?_eq_getElem hj
    obtain⟨v',s',h1,h2⟩:=hstep d l v s j _ hp hI hx
    have hp2:((d++[l[j]])++l.eraseIdx j).Perm es:=by
     rw[List.append_assoc,List.singleton_append]
     exact((akW hj).append_left d).trans hp
    obtain⟨N,hN⟩:=ih _ _ _ _ (by rw[List.length_eraseIdx,if_pos hj];omega) hp2 h2
    refine⟨N,fun m hm p Bx=>?_⟩
    rw[hx]at Bx;injection Bx with Bx;subst Bx
    rw[h1]
    exact hN m hm
   obtain⟨N,hN⟩:=bounds l.length hb
   refine⟨N+1,fun m hm=>?_⟩
   obtain⟨m',rfl⟩:∃m',m=m'+1:=⟨m-1,by omega⟩
   rw[A.wZ,hf]
   cases l with
   |nil=>simp at hl
   |cons e l=>
    simp only[A.tC,hc,List.map_cons]
    refine alA 0 (by simp) fun j hj=>?_
    have hj':j<(e::l).length:=by simpa using hj
    have hx:(e::l)[j]? =some (e::l)[j]:=List.getElem?_eq_getElem hj'
    have hx2:(enc e::l.map enc)[j]? =some (enc (e::l)[j]):=by
     rw[←List.map_cons,List.getElem?_map,hx];rfl
    have:=hN j hj' m' (by omega) _ hx
    simp only[hx2]
    rw[←List.map_cons,map_erase]
    exact this
 exact ajk (key _ [] es v0 s0 rfl (List.Perm.refl _) h0)
def xD (p:aB×bk):AV×AV:=(.agg (aL p.1),.agg (cL p.2))
section
variable {aD σ : Heap} {R : HP}
end
end
section
open HP
theorem Zb {ν:Type} (k:aB) (v:ν):∀s:List (aB×ν),(dz k v s).length≤s.length+1
 |[]=>by simp [dz]
 |(a,b)::s=>by
  rw[dz]
  split
  ·simp
  ·have:=Zb k v s;simp;omega
theorem Za {ν:Type} (k:aB):∀s:List (aB×ν),(qh k s).length≤s.length
 |[]=>by simp [qh]
 |(a,b)::s=>by
  rw[qh]
  split
  ·simp
  ·have:=Za k s;simp;omega
theorem aix (n:Int) (s:List (aB×bk)) (m:fF):(pZ n s m).length≤s.length+1:=by
 unfold pZ
 split
 ·have:=Za m.key s;omega
 ·exact Zb _ _ _
theorem Xn (n:Int):∀(ms:List fF) (s:List (aB×bk)),(ms.foldl (pZ n) s).length≤s.length+ms.length
 |[],s=>Nat.le_refl _
 |m::ms,s=>by
  rw[List.foldl_cons]
  have:=Xn n ms (pZ n s m)
  have:=aix n s m
  simp;omega
theorem aiw {l:List aY} (hm:∀c∈l,c.dr.length≤2000):(DL l).length≤l.length*2000:=by
 unfold DL
 have key:∀(l:List aY) (s:List (aB×bk)),(∀c∈l,c.dr.length≤2000)→(l.foldl (fun s c=>c.dr.foldl (pZ c.number) s) s).length≤s.length+l.length*2000:=by
  intro l
  induction l with
  |nil=>intro s _;simp
  |cons c l ih=>
   intro s h
   rw[List.foldl_cons]
   have h1:=ih (c.dr.foldl (pZ c.number) s) (fun x hx=>h x (by simp [hx]))
   have h2:=Xn c.number c.dr s
   have h3:=h c (by simp)
   simp only[List.length_cons,Nat.add_mul]
   omega
 have:=key l [] hm
 simpa using this
section
variable {aD σ : Heap} {R : HP}
end
end
section
open HP
section
variable {aD σ : Heap} {R : HP}
theorem ai4 {α:Type} {c:α→List AV} {sz:Nat} {B:aK→Prop} {v:AV} {l:List α} {e:Int} (hc:∀x,jt (c x)) (H:Hs B aD σ (Sl (fl c) sz v l*R)):∃v',A.fin aD (.aF [v,.int .i64 e]) σ=some (.aF [v',.int .i64 e],aD)∧A.nn (.s sz) v'=sl sz c l:=by
 obtain⟨v',h1,h2,h3⟩:=IN H hc (Nat.le_refl _) 7
 refine⟨v',IJ (R1 H) (by simp [A.bw,A.eG,h1]) (fun e=>?_),h3⟩
 rcases yK H with⟨rfl,rfl|rfl,_⟩|⟨id,g,rfl,K⟩
 ·simp [A.bw]at h1;rw[h1]
 ·simp [A.bw]at h1;rw[h1]
 ·obtain⟨k1,k2⟩:=iW K
  have:=(List.getElem?_eq_some_iff.1 k2).1
  subst e;omega
theorem MT {α:Type} {c:α→List AV} {sz:Nat} {v:AV} {l:List α} {e:Int} (h:A.nn (.s sz) v=sl sz c l):A.nn (.t [(.s sz),.k]) (.aF [v,.int .i64 e])=.aF [sl sz c l,.int .i64 e]:=by
 simp only[A.nn,A.bT]at h ⊢
 rw[h]
def yQ (l:List aY) (n:Int):List bk×Int:=
 if ¬(oS l=0)then([],oS l)else if uA l n=false then([],8)else(B3 (l.take (kZ l n+1)),0)
theorem aeJ {l:List aY} (hlen:l.length≤300) (hm:∀c∈l,c.dr.length≤2000):mP (B3 l)∧(B3 l).length≤600000000:=by
 obtain⟨b1,b2⟩:=agk (l:=l) (fun c hc=>by have:=hm c hc;omega) 0 [] List.Pairwise.nil (Nat.zero_le _)
 exact⟨b1,by unfold B3;omega⟩
end
end
section
open HP Go.Sort
theorem aaG {α:Type} {r:α→α→Prop} (Ob:∀x,¬r x x) (tr:∀x y z,r x y→r y z→r x z):∀{a b:List α},a.Pairwise r→b.Pairwise r→(∀x,x∈a↔x∈b)→a=b
 |[],[],_,_,_=>rfl
 |[],y::b,_,_,h=>by have:=(h y).2 (by simp);simp at this
 |x::a,[],_,_,h=>by have:=(h x).1 (by simp);simp at this
 |x::a,y::b,ha,hb,h=>by
  have ha':=List.pairwise_cons.1 ha
  have hb':=List.pairwise_cons.1 hb
  have hxy:x=y:=by
   rcases List.mem_cons.1 ((h x).1 (by simp))with e|m1
   ·exact e
   rcases List.mem_cons.1 ((h y).2 (by simp))with e|m2
   ·exact e.symm
   exact(Ob y (tr _ _ _ (hb'.1 x m1) (ha'.1 y m2))).elim
  subst hxy
  congr 1
  refine aaG Ob tr ha'.2 hb'.2 fun z=>⟨fun hz=>?_,fun hz=>?_⟩
  ·rcases List.mem_cons.1 ((h z).1 (by simp [hz]))with e|m
   ·exact(Ob x (e▸ha'.1 z hz)).elim
   ·exact m
  ·rcases List.mem_cons.1 ((h z).2 (by simp [hz]))with e|m
   ·exact(Ob x (e▸hb'.1 z hz)).elim
   ·exact m
theorem Md {α:Type} [Inhabited α] {cf:α→α→Int} (hS:SWO (fun x y=>decide (cf x y<0))) (l:List α):(uF cf l).Perm l∧(uF cf l).Pairwise fun x y=>¬cf y x<0:=by
 obtain⟨⟨h1,_,h3⟩,h2⟩:=pdq_sorts (fun x y=>decide (cf x y<0)) hS l.toArray 0 l.length (Lib.bitLen l.length) true true (Nat.zero_le _) (by simp) (Or.inl rfl)
 unfold uF
 generalize pdq (fun x y=>decide (cf x y<0)) l.toArray 0 l.length (Lib.bitLen l.length) true true=d' at h1 h2 h3
 have hs:d'.size=l.length:=by simpa using h1
 refine⟨?_,?_⟩
 ·have e1:d'.extract 0 l.length=d':=by rw[←hs];simp
  have e2:l.toArray.extract 0 l.length=l.toArray:=by simp
  rw[e1,e2]at h3
  exact h3
 ·rw[List.pairwise_iff_getElem]
  intro i j hi hj hij
  simp only[Array.length_toList]at hi hj
  have:=h2 i j (Nat.zero_le _) hij (by omega)
  simp only[getElem!_pos d' i hi,getElem!_pos d' j hj]at this
  simpa using this
theorem ajt {α:Type} [Inhabited α] (f:α→aB) {l:List α} (hn:∀x∈l,∀y∈l,f x=f y→x=y) (hd:l.Nodup):(uF (fun a b=>qN (f a) (f b)) l).Pairwise fun a b=>fq (f a) (f b)=true:=by
 obtain⟨h1,h2⟩:=Md (Gj f) l
 have hnd:(uF (fun a b=>qN (f a) (f b)) l).Pairwise (fun x y=>x≠y):=(h1.nodup_iff).2 hd
 refine List.Pairwise.imp_of_mem (R:=fun x y=>(¬qN (f y) (f x)<0)∧x≠y) ?_ (h2.and hnd)
 rintro x y hx hy ⟨q1,q2⟩
 cases e:fq (f x) (f y)
 ·exfalso
  have e2:fq (f y) (f x)=false:=by
   cases e2:fq (f y) (f x)
   ·rfl
   ·exact absurd ((BU _ _).2 e2) q1
  exact q2 (hn x (h1.mem_iff.1 hx) y (h1.mem_iff.1 hy) (RF e e2))
 ·rfl
theorem WU {l:List bk} (h:mP l) {k:aB} {x:bk}:lN l k=some x↔x∈l∧x.key=k:=by
 constructor
 ·intro e
  exact⟨List.mem_of_find?_eq_some e,of_decide_eq_true (List.find?_some (p:=fun m:bk=>decide (m.key=k)) e)⟩
 ·rintro⟨hm,hk⟩
  cases e:lN l k with
  |none=>
   have:=List.find?_eq_none.1 e x hm
   simp [hk]at this
  |some y=>
   have hy:=List.mem_of_find?_eq_some e
   have hyk:y.key=k:=of_decide_eq_true (List.find?_some (p:=fun m:bk=>decide (m.key=k)) e)
   obtain⟨i,hi⟩:=List.mem_iff_getElem?.1 hm
   obtain⟨j,hj⟩:=List.mem_iff_getElem?.1 hy
   have e1:=MW h hi hk
   have e2:=MW h hj hyk
   rw[←e1,e2,hj]at hi
   exact hi
theorem Q5 {k:aB} {v:bk}:∀{s:List (aB×bk)},qg s→(bM k s=some v↔(k,v)∈s)
 |[],_=>by simp [bM]
 |(a,b)::s,h=>by
  unfold qg at h
  rw[List.map_cons,List.nodup_cons]at h
  rw[bM]
  by_cases e:k=a
  ·subst e
   rw[if_pos rfl]
   constructor
   ·intro q;injection q with q;simp [q]
   ·intro q
    rcases List.mem_cons.1 q with q|q
    ·injection q with _ q;rw[q]
    ·exact(h.1 (List.mem_map.2 ⟨_,q,rfl⟩)).elim
  ·rw[if_neg e,Q5 h.2]
   constructor
   ·intro q;exact List.mem_cons_of_mem _ q
   ·intro q
    rcases List.mem_cons.1 q with q|q
    ·injection q with q _;exact(e q).elim
    ·exact q
def CT (s:List (aB×bk)):Prop:=∀p∈s,p.2.key=p.1
theorem YO {ν:Type} {k:aB} {v:ν}:∀{s:List (aB×ν)} {x:aB×ν},x∈dz k v s→x∈s∨x=(k,v)
 |[],x,h=>by simp [dz]at h;exact .inr h
 |(a,b)::s,x,h=>by
  rw[dz]at h
  split at h
  ·rcases List.mem_cons.1 h with rfl|h
   ·exact .inr rfl
   ·exact .inl (List.mem_cons_of_mem _ h)
  ·rcases List.mem_cons.1 h with rfl|h
   ·exact .inl List.mem_cons_self
   ·rcases YO h with h|h
    ·exact .inl (List.mem_cons_of_mem _ h)
    ·exact .inr h
theorem agJ (l:List aY):CT (DL l):=by
 have inner:∀(n:Int) (ms:List fF) (s:List (aB×bk)),CT s→CT (ms.foldl (pZ n) s):=by
  intro n ms
  induction ms with
  |nil=>intro s h;exact h
  |cons m ms ih=>
   intro s hs
   refine ih _ (fun p hp=>?_)
   unfold pZ at hp
   split at hp
   ·exact hs p (RG hp)
   ·rcases YO hp with hp|hp
    ·exact hs p hp
    ·rw[hp]
 have key:∀(l:List aY) (s:List (aB×bk)),CT s→CT (l.foldl (fun s c=>c.dr.foldl (pZ c.number) s) s):=by
  intro l
  induction l with
  |nil=>intro s h;exact h
  |cons c l ih=>intro s hs;exact ih _ (inner c.number c.dr s hs)
 exact key l [] (by intro p hp;cases hp)
theorem afu {s d:List (aB×bk)} {st:List bk} (hS:AA s st) (hk:CT s) (hp:d.Perm s) [Inhabited bk]:uF (fun a b:bk=>qN a.key b.key) (d.map (·.2))=st:=by
 obtain⟨h1,h2,h3⟩:=hS
 have C1:qg d:=by
  unfold qg at h1 ⊢
  exact((hp.map (·.1)).nodup_iff).2 h1
 have hkd:CT d:=fun p hp'=>hk p (hp.mem_iff.1 hp')
 have he:d.map (·.1)=(d.map (·.2)).map (·.key):=by
  rw[List.map_map]
  exact(List.map_congr_left fun p hp'=>(hkd p hp').symm)
 have hnk:((d.map (·.2)).map (·.key)).Nodup:=by rw[←he];exact C1
 have hinj:∀x∈d.map (·.2),∀y∈d.map (·.2),x.key=y.key→x=y:=by
  intro x hx y hy e
  obtain⟨i,hi⟩:=List.mem_iff_getElem?.1 hx
  obtain⟨j,hj⟩:=List.mem_iff_getElem?.1 hy
  have hi':=(List.getElem?_eq_some_iff.1 hi).1
  have hij:i=j:=by
   refine(List.getElem?_inj (l:=(d.map (·.2)).map (·.key)) (by simpa using hi') hnk).1 ?_
   have q1:((d.map (·.2)).map (·.key))[i]? =some x.key:=by rw[List.getElem?_map,hi];rfl
   have q2:((d.map (·.2)).map (·.key))[j]? =some y.key:=by rw[List.getElem?_map,hj];rfl
   rw[q1,q2,e]
  subst hij
  rw[hi]at hj;injection hj
 have hs:=ajt (f:=fun e:bk=>e.key) hinj ((List.pairwise_map.1 hnk).imp fun h e=>h (congrArg _ e))
 refine aaG (r:=fun a b:bk=>fq a.key b.key=true) (fun x q=>by rw[B8]at q;cases q) (fun x y z=>FV) hs h2 fun x=>?_
 have hmem:=(Md (Gj fun e:bk=>e.key) (d.map (·.2))).1.mem_iff (a:=x)
 rw[hmem,(hp.map (·.2)).mem_iff]
 constructor
 ·intro hx
  obtain⟨p,hp1,hp2⟩:=List.mem_map.1 hx
  have hpk:=hk p hp1
  have:bM p.1 s=some p.2:=(Q5 h1).2 hp1
  rw[h3]at this
  rw[←hp2]
  exact((WU h2).1 this).1
 ·intro hx
  have:lN st x.key=some x:=(WU h2).2 ⟨hx,rfl⟩
  rw[←h3]at this
  exact List.mem_map.2 ⟨_,(Q5 h1).1 this,rfl⟩
section
variable {aD σ : Heap} {R : HP}
theorem ajI {α:Type} [Inhabited α] {c:α→List AV} {sz:Nat} {cf:α→α→Int} (hinj:∀x y,c x=c y→x=y) {v:AV} {l:List α} (hl:l≠[]) (hlen:l.length<4611686018427387904) (hS:SWO (fun x y=>decide (cf x y<0))) (H:Hs bY aD σ (Sl (fl c) sz v l*R)):
  ∃σ',A.IY sz c cf v σ=some (.aF [],σ')∧Hs bY aD σ' (Sl (fl c) sz v (uF cf l)*R):=by
 rcases yK H with⟨h,_,_⟩|⟨id,g,rfl,K⟩
 ·exact absurd h hl
 obtain⟨_,h2⟩:=iW K
 have hp:0<l.length:=List.length_pos_iff.2 hl
 have hc:(g=g∧sz=sz∧sz=sz∧0+l.length≤(l.map c).length∧0<l.length∧l.length<4611686018427387904)∧∃l':List α,((l.map c).drop 0).take l.length=l'.map c:=
  ⟨⟨rfl,rfl,rfl,by simp,hp,hlen⟩,l,by rw[List.drop_zero,List.take_of_length_le (by simp)]⟩
 have hch:Classical.choose hc.2=l:=by
  have h9:=Classical.choose_spec hc.2
  have e9:((l.map c).drop 0).take l.length=l.map c:=by rw[List.drop_zero,List.take_of_length_le (by simp)]
  exact((List.map_inj_right hinj).1 (e9.symm.trans h9)).symm
 refine⟨σ.set id (.arr g sz ((uF cf l).map c)),?_,?_⟩
 ·unfold A.IY
  simp only[h2]
  rw[dif_pos hc,hch,List.take_zero,List.nil_append,List.drop_of_length_le (by simp),List.append_nil]
 ·have hle:(uF cf l).length=l.length:=(Md hS l).1.length_eq
  exact Sa (Aq (b':=.arr g sz ((uF cf l).map c)) K trivial) hle.symm
theorem ais (e:bk):(((A.cells 5 (.agg (cL e))).bind fun gB=>(A.splice 0 gB [ah,bg,ah,ah,ah]).bind fun fk=>some fk).bind fun cs=>some (AV.sl 5 (chunks 5 1 cs)))=some (.sl 5 [cL e]):=rfl
theorem ani {B:aK→Prop} {v:AV} {l:List bk} (k:bk) (hl:l.length<1000000) (hB:∀g g' seg,(seg=[]∨B (.arr g 5 seg))→B (.arr g' 5 (seg++[cL k]))) (H:Hs B aD σ (Sl (fl cL) 5 v l*R)):
  ∃v' σ',A.append 5 (140737488355328 / 48) v (.sl 5 [cL k]) σ=some (v',σ')∧Hs B aD σ' (Sl (fl cL) 5 v' (l++[k])*R):=
 Nh (ys:=[cL k]) (xs:=[k]) (hs_eq (show pr (cL k=cL k)*(Sl (fl cL) 5 v l*R)=_ by
  rw[show els (fl cL) [cL k] [k]=pr (cL k=cL k)*emp from rfl,tZ,Ad];ac_rfl) (nR.2 ⟨rfl,H⟩)) (by simp;omega) hB
theorem ajU {l:List aY} (hl:fE um l) {n:Int} (hn:aM n) (σ:Heap):Lw [sl 11 aX l,.int .i64 n] σ=some (.aF [sl 5 cL (yQ l n).1,.int .i64 (yQ l n).2],σ):=by
 have run:LI (sl 11 aX l) (.int .i64 n) σ=some (.aF [sl 5 cL (yQ l n).1,.int .i64 (yQ l n).2],σ):=by
  unfold LI yQ
  rw[WS (aaj l hl),Option.bind_some,SI,Option.bind_some]
  by_cases hf:oS l=0
  case neg=>
   rw[decide_eq_true hf,cA,if_pos hf,br,Option.map_some]
   exact congrArg (fun z=>some (z,σ)) (MT rfl)
  have hg:=RA hf
  have hlen:=hg.len
  rw[decide_eq_false (by simp [hf]),cz,if_neg (by simp [hf])]
  obtain⟨p,e1,e2,e3⟩:=akZ hg hn σ
  rw[e1,Option.bind_some,iQ,Option.bind_some,ext1,Option.bind_some,show A.not (.bool (uA l n))=some (.bool (!uA l n))from rfl,Option.bind_some]
  cases hh:uA l n
  ·rw[show(!false)=true from rfl,cA,if_pos rfl,br,Option.map_some]
   exact congrArg (fun z=>some (z,σ)) (MT rfl)
  rw[show(!true)=false from rfl,cz,if_neg (by decide)]
  have e4:=e3 (.inr hh)
  subst e4
  obtain⟨x,hx,hxn⟩:=akv hg hh
  generalize kZ l n=a at hx ⊢
  have He:=(List.getElem?_eq_some_iff.1 hx).1
  obtain⟨st,hst⟩:∃st,st=DL (l.take (a+1)):=⟨_,rfl⟩
  have hS:AA st (B3 (l.take (a+1))):=hst▸ahb _
  have hk:CT st:=hst▸agJ _
  have rE:st.length≤600000:=by
   have h1:=aiw (l:=l.take (a+1)) (fun c hc=>(hg.mv c (List.mem_of_mem_take hc)).1)
   have h2:(l.take (a+1)).length≤300:=by simp;omega
   rw[hst]
   exact Nat.le_trans h1 (Nat.mul_le_mul_right 2000 h2)
  have hcs:HZ [sl 11 aX (l.take (a+1))] σ=some (fmS st,σ):=by
   rw[hst]
   exact afI (alf (by simp;unfold aU;omega) (fun c hc=>by have:=(hg.mv c (List.mem_of_mem_take hc)).1;unfold aU;omega))
  rw[GC (by omega),Option.bind_some,show A.DK 11 (sl 11 aX l) none (some (.int .i64 ((a+1:Nat):Int))) σ=some (sl 11 aX (l.take (a+1)))from af7 11 aX l (by omega),Option.bind_some,hcs,Option.bind_some]
  rw[show A.Cj (fmS st)=some (st.map xD)from rfl,Option.bind_some]
  simp only
  refine QA (α:=aB×bk) (enc:=xD) (it:=σ.length) (es:=st) _ _ (fun _ _ _=>rfl) (fun d lf w s=>∃h c,w=[h]∧(d=[]→h=.aq)∧Hs bY σ s (blk σ.length (.it c (lf.map xD))*(Sl (fl cL) 5 h (d.map (·.2))*emp))) ?_ ?_ ?_ ?_
  ·rintro d lf w s ⟨h,c,rfl,_,K⟩
   exact⟨c,(iW K).2⟩
  ·rintro d lf w s j p hp ⟨h,c,rfl,_,K⟩ hj
   have K':=Aq (b':=.it [xD p] ((lf.eraseIdx j).map xD)) K trivial
   obtain⟨_,hgt⟩:=iW K'
   generalize s.set σ.length (aK.it [xD p] ((lf.eraseIdx j).map xD))=kQ at K' hgt ⊢
   have mH:d.length≤st.length:=by have:=hp.length_eq;simp at this;omega
   obtain⟨h',s',g1,K2⟩:=ani p.2 (by simp;omega) (fun _ _ _ _=>trivial) (hs_eq (show _=Sl (fl cL) 5 h (d.map (·.2))*(blk σ.length (.it [xD p] ((lf.eraseIdx j).map xD))*emp) by ac_rfl) K')
   have Jj:A.vD (.op σ.length 0) kQ=some (.aF [.agg (aL p.1),.agg (cL p.2)]):=by simp only[A.vD,hgt];rfl
   refine⟨[h'],s',fun k=>?_,h',_,rfl,fun q=>by simp at q,hs_eq (by rw[List.map_append];show Sl (fl cL) 5 h' (d.map (·.2)++[p.2])*_=_;ac_rfl) K2⟩
   rw[Jj,Option.bind_some,ext1,Option.bind_some,show A.cells 5 (.agg (cL p.2))=some (cL p.2)from rfl,Option.bind_some,aiv p.2 _ rfl,Option.bind_some,show A.ay 0 5 (cL p.2)=some (.agg (cL p.2))from rfl,Option.bind_some,ais,Option.bind_some]
   simp only[List.getD_cons_zero]
   rw[g1,Option.bind_some]
  ·rintro d w s hp ⟨h,c,rfl,aoC,K⟩
   have K2:=wT K
   simp only[JG,List.getD_cons_zero]
   letI:Inhabited bk:=⟨⟨⟨0,⟨#[]⟩⟩,⟨0,0⟩,0⟩⟩
   have hsort:∃s',Hx [h,.fn 297 []] s=some (.aF [],s')∧Hs bY σ s' (Sl (fl cL) 5 h (B3 (l.take (a+1)))*emp):=by
    have hres:=afu hS hk hp
    by_cases hd:d=[]
    ·subst hd
     rw[aoC rfl]at K2 ⊢
     refine⟨s,rfl,?_⟩
     rw[List.map_nil]at hres K2
     have:B3 (l.take (a+1))=[]:=by
      rw[←hres]
      exact List.eq_nil_of_length_eq_zero (by rw[(Md (Gj fun e:bk=>e.key) []).1.length_eq];rfl)
     rw[this];exact K2
    ·have mH:d.length≤st.length:=by have:=hp.length_eq;omega
     obtain⟨s',g1,K3⟩:=ajI (cf:=fun a b:bk=>qN a.key b.key) WE (by simpa using hd) (by simp;omega) (Gj fun e:bk=>e.key) K2
     rw[hres]at K3
     exact⟨s',g1,K3⟩
   obtain⟨s',g1,K3⟩:=hsort
   rw[g1,Option.bind_some]
   obtain⟨v',j1,j2⟩:=ai4 (e:=0) XI K3
   rw[j1,Option.map_some]
   exact congrArg (fun z=>some (z,σ)) (MT j2)
  ·have K2:=IM (b:=aK.it [] (st.map xD)) (Gn (B:=bY) σ) trivial
   refine⟨.aq,[],rfl,fun _=>rfl,?_⟩
   rw[List.map_nil]
   exact hs_eq (show _=blk σ.length (aK.it [] (st.map xD))*(Sl (fl cL) 5 .aq []*emp) by ac_rfl) (yA (v:=.aq) (E:=fl cL) (sz:=5) K2 (.inl rfl))
 refine wrap_eq rfl ?_ (MT (v:=sl 5 cL (yQ l n).1) rfl)
 rw[show A.bT [Sh.e 11 [.k,.k,.k,.k,.k,.k,.k,.s 2,.k,.k,.s 8]] [sl 11 aX l,.int .i64 n]=[sl 11 aX l,.int .i64 n]from akQ l _]
 exact run
end
end
def nH {κ ν:Type} (eK:κ→AV) (eV:ν→AV):Option (List (κ×ν))→AV
 |none=>.nm
 |some l=>uS eK eV l
theorem akp {κ ν:Type} {eK:κ→AV} {eV:ν→AV} (hk:∀k,Fz (eK k)) (hv:∀v,Fz (eV v)) (l:List (κ×ν)):Fz (uS eK eV l):=by
 intro σ n d
 have:A.qc σ n d (l.map fun p=>(eK p.1,eV p.2))=some (l.map fun p=>(eK p.1,eV p.2)):=by
  induction l with
  |nil=>simp [A.qc]
  |cons x l ih=>simp [A.qc,hk x.1 σ n d,hv x.2 σ n d,ih]
 cases d<;>simp [A.bw,uS,this]
theorem amI:Fz .nm:=fun _ _ d=>by cases d<;>simp [A.bw]
theorem alN {κ ν:Type} {eK:κ→AV} {eV:ν→AV} (hk:∀k,Fz (eK k)) (hv:∀v,Fz (eV v)) (o:Option (List (κ×ν))):Fz (nH eK eV o):=by
 cases o with
 |none=>exact amI
 |some l=>exact akp hk hv l
structure Am where
 shown:Int
 since:Int
 lC:Bool
def vB (x:Am):List AV:=[.int .i64 x.shown,.int .i64 x.since,.bool x.lC]
theorem Wt (x:Am):A.aj 0 (vB x)=some (.int .i64 x.shown):=rfl
theorem afQ (x:Am):A.aj 1 (vB x)=some (.int .i64 x.since):=rfl
theorem afR (x:Am):A.aj 2 (vB x)=some (.bool x.lC):=rfl
theorem QK (x:Am):A.cells 3 (.agg (vB x))=some (vB x):=rfl
structure ct where
 jH:gm
 mw:Int
 ending:Bool
def fc (x:ct):List AV:=[.int .i64 x.jH.dD,.int .i64 x.jH.to,.int .i64 x.jH.start,.int .i64 x.jH.delay,.int .i64 x.jH.time,.int .i64 x.jH.dS.kind,sl 2 iu x.jH.dS.points,.int .i64 x.mw,.bool x.ending]
theorem ahC (x:ct):(fc x).length=9:=rfl
theorem agU (x:ct):A.aj 1 (fc x)=some (.int .i64 x.jH.to):=rfl
theorem agV (x:ct):A.aj 2 (fc x)=some (.int .i64 x.jH.start):=rfl
theorem agW (x:ct):A.aj 3 (fc x)=some (.int .i64 x.jH.delay):=rfl
theorem agX (x:ct):A.aj 4 (fc x)=some (.int .i64 x.jH.time):=rfl
theorem Ii (x:ct):A.aj 7 (fc x)=some (.int .i64 x.mw):=rfl
theorem LR (x:ct):A.aj 8 (fc x)=some (.bool x.ending):=rfl
theorem aeP (x:ct):A.ay 0 7 (fc x)=some (.agg (ew x.jH)):=rfl
theorem vw (x:ct):A.ay 0 9 (fc x)=some (.agg (fc x)):=rfl
theorem yN (x:ct):A.cells 9 (.agg (fc x))=some (fc x):=rfl
theorem B0 (x:ct) (l:List AV) (h:l.length=9):A.splice 0 (fc x) l=some (fc x):=by
 simp [A.splice,ahC,h]
theorem YD (x:ct):jt (fc x):=(bV (dM _ _) (bV (dM _ _) (bV (dM _ _) (bV (dM _ _) (bV (dM _ _) (bV (dM _ _) (bV (pW QS _) (bV (dM _ _) (bV (B5 _) pN)))))))))
structure bh where
 clock:Am
 number:Int
 priority:Int
 bD:(List aY)
 bZ:Int
 iX:Int
 follow:Int
 runs:(Option (List (aB×ct)))
def aP (x:bh):List AV:=[.int .i64 x.clock.shown,.int .i64 x.clock.since,.bool x.clock.lC,.int .i64 x.number,.int .i64 x.priority,sl 11 aX x.bD,.int .i64 x.bZ,.int .i64 x.iX,.int .i64 x.follow,nH (fun x=>AV.agg (aL x)) (fun x=>AV.agg (fc x)) x.runs]
theorem afP (x:bh):A.aj 3 (aP x)=some (.int .i64 x.number):=rfl
theorem aik (x:bh):A.ay 0 10 (aP x)=some (.agg (aP x)):=rfl
theorem ahF (x:bh):A.cells 10 (.agg (aP x))=some (aP x):=rfl
theorem Du (x:bh):jt (aP x):=(bV (dM _ _) (bV (dM _ _) (bV (B5 _) (bV (dM _ _) (bV (dM _ _) (bV (pW MP _) (bV (dM _ _) (bV (dM _ _) (bV (dM _ _) (bV (alN (fun x=>vE (yV x)) (fun x=>vE (YD x)) _) pN))))))))))
theorem afA (x:bh) {σ:Heap}:((A.deref (.rp ((aP x).drop 1)) σ).bind fun c=>A.aj 0 c)=some (.int .i64 x.clock.since):=rfl
theorem afB (x:bh) {σ:Heap}:((A.deref (.rp ((aP x).drop 2)) σ).bind fun c=>A.aj 0 c)=some (.bool x.clock.lC):=rfl
theorem Ls (x:bh) {σ:Heap}:((A.deref (.rp ((aP x).drop 3)) σ).bind fun c=>A.aj 0 c)=some (.int .i64 x.number):=rfl
theorem HY (x:bh) {σ:Heap}:((A.deref (.rp ((aP x).drop 4)) σ).bind fun c=>A.aj 0 c)=some (.int .i64 x.priority):=rfl
theorem afC (x:bh) {σ:Heap}:((A.deref (.rp ((aP x).drop 7)) σ).bind fun c=>A.aj 0 c)=some (.int .i64 x.iX):=rfl
theorem Wg (x:bh) {σ:Heap}:((A.deref (.rp ((aP x).drop 8)) σ).bind fun c=>A.aj 0 c)=some (.int .i64 x.follow):=rfl
theorem Lu (x:bh) {σ:Heap}:((A.deref (.rp ((aP x).drop 9)) σ).bind fun c=>A.aj 0 c)=some (nH (fun x=>AV.agg (aL x)) (fun x=>AV.agg (fc x)) x.runs):=(by unfold aP;cases x.runs<;>rfl)
structure bW where
 az:(List bh)
 number:Int
 mz:Int
 black:Bool
def rU (x:bW):List AV:=[sl 10 aP x.az,.int .i64 x.number,.int .i64 x.mz,.bool x.black]
theorem Wi (x:bW) {σ:Heap}:((A.deref (.rp ((rU x).drop 0)) σ).bind fun c=>A.aj 0 c)=some (sl 10 aP x.az):=rfl
theorem afD (x:bW) {σ:Heap}:((A.deref (.rp ((rU x).drop 2)) σ).bind fun c=>A.aj 0 c)=some (.int .i64 x.mz):=rfl
theorem afE (x:bW) {σ:Heap}:((A.deref (.rp ((rU x).drop 3)) σ).bind fun c=>A.aj 0 c)=some (.bool x.black):=rfl
structure bI where
 state:bW
 setup:gJ
 keys:(List aB)
 params:(Option (List (aB×cI)))
 actions:(List fC)
def pU (x:bI):List AV:=[sl 10 aP x.state.az,.int .i64 x.state.number,.int .i64 x.state.mz,.bool x.state.black,sl 3 bP x.setup.aR.aS,sl 4 bB x.setup.aR.units,sl 3 dP x.setup.bJ,sl 2 dR x.setup.lists,sl 3 cC x.setup.bH,sl 2 aL x.keys,nH (fun x=>AV.agg (aL x)) (fun x=>AV.agg (bU x)) x.params,sl 5 bG x.actions]
theorem P5 (x:bI) {σ:Heap}:((A.deref (.rp ((pU x).drop 10)) σ).bind fun c=>A.aj 0 c)=some (nH (fun x=>AV.agg (aL x)) (fun x=>AV.agg (bU x)) x.params):=(by unfold pU;cases x.params<;>rfl)
theorem Wh (x:bI) {σ:Heap}:((A.deref (.rp ((pU x).drop 11)) σ).bind fun c=>A.aj 0 c)=some (sl 5 bG x.actions):=rfl
section
set_option maxRecDepth 100000
open HP
def wd (n:Nat):List AV:=[.int .u64 ((n / 18446744073709551616:Nat):Int),.int .u64 ((n % 18446744073709551616:Nat):Int)]
theorem NU {n:Nat} (h:n<18446744073709551616):IntKind.u64.wrap (n:Int)=(n:Int):=by rw[IntKind.wrap_u64];omega
theorem IG {r:AV→AV→Heap→Option (AV×Heap)} {x y v:AV} {σ:Heap} (h:[x,y].any A.own=false) (e:r x y σ=some (v,σ)):A.wrap true [] .k (A.bQ r) [x,y] σ=some (v,σ):=by
 refine wrap_eq h ?_ (gQ _)
 rw[show A.bT [] [x,y]=[x,y] by simp [A.bT]]
 exact e
theorem zB {n:Nat} (h:n<9223372036854775808) (σ:Heap):oG [.int .i64 (n:Int)] σ=some (.agg (wd n),σ):=by
 refine wrap_eq rfl ?_ (gQ _)
 show Qy (.int .i64 (n:Int)) σ=_
 unfold Qy
 rw[show A.conv .u64 (.int .i64 (n:Int))=some (.int .u64 (IntKind.u64.wrap (n:Int)))from rfl,bS,NU (by omega)]
 have e:wd n=[.int .u64 0,.int .u64 (n:Int)]:=by
  unfold wd
  rw[Nat.div_eq_of_lt (by omega),Nat.mod_eq_of_lt (by omega)];rfl
 rw[e]
 exact br _ _
theorem akK {x y:Nat} (hx:x<18446744073709551616) (hy:y<18446744073709551616) (σ:Heap):HV [.int .u64 (x:Int),.int .u64 (y:Int)] σ=some (.aF [.int .u64 ((x*y / 18446744073709551616:Nat):Int),.int .u64 ((x*y % 18446744073709551616:Nat):Int)],σ):=by
 have h:0≤(x:Int)∧(x:Int)<18446744073709551616∧0≤(y:Int)∧(y:Int)<18446744073709551616:=by omega
 have e:∀(a b:Int),HV [.int .u64 a,.int .u64 b] σ=if 0≤a∧a<18446744073709551616∧0≤b∧b<18446744073709551616 then some (.aF [.int .u64 ((a.toNat*b.toNat / 18446744073709551616:Nat):Int),.int .u64 ((a.toNat*b.toNat % 18446744073709551616:Nat):Int)],σ)else none:=fun a b=>rfl
 rw[e,if_pos h,Int.toNat_natCast,Int.toNat_natCast]
theorem Zi {x y c:Nat} (hx:x<18446744073709551616) (hy:y<18446744073709551616) (hc:c≤1) (σ:Heap):FF [.int .u64 (x:Int),.int .u64 (y:Int),.int .u64 (c:Int)] σ=some (.aF [.int .u64 (((x+y+c) % 18446744073709551616:Nat):Int),.int .u64 (((x+y+c) / 18446744073709551616:Nat):Int)],σ):=by
 have h:0≤(x:Int)∧(x:Int)<18446744073709551616∧0≤(y:Int)∧(y:Int)<18446744073709551616∧0≤(c:Int)∧(c:Int)≤1:=by omega
 have e:∀(a b d:Int),FF [.int .u64 a,.int .u64 b,.int .u64 d] σ=if 0≤a∧a<18446744073709551616∧0≤b∧b<18446744073709551616∧0≤d∧d≤1 then some (.aF [.int .u64 (((a.toNat+b.toNat+d.toNat) % 18446744073709551616:Nat):Int),.int .u64 (((a.toNat+b.toNat+d.toNat) / 18446744073709551616:Nat):Int)],σ)else none:=fun a b d=>rfl
 rw[e,if_pos h,Int.toNat_natCast,Int.toNat_natCast,Int.toNat_natCast]
theorem wU {a n:Nat} (h:a*n<340282366920938463463374607431768211456) (ha:a<340282366920938463463374607431768211456) (hn:n<9223372036854775808) (σ:Heap):qB [.agg (wd a),.int .i64 (n:Int)] σ=some (.agg (wd (a*n)),σ):=by
 have e0:OY (.agg (wd a)) (.int .i64 (n:Int)) σ=some (.agg (wd (a*n)),σ)→qB [.agg (wd a),.int .i64 (n:Int)] σ=some (.agg (wd (a*n)),σ):=fun q=>IG rfl q
 refine e0 ?_
 unfold OY
 have hlo:a % 18446744073709551616<18446744073709551616:=Nat.mod_lt _ (by decide)
 have e1:a*n=(a / 18446744073709551616*n)*18446744073709551616+a % 18446744073709551616*n:=by
  have q:=Nat.div_add_mod a 18446744073709551616
  generalize a / 18446744073709551616=hi at q
  generalize a % 18446744073709551616=lo at q
  subst q
  rw[Nat.add_mul,Nat.mul_assoc,Nat.mul_comm]
 generalize hp:a / 18446744073709551616*n=p at e1
 generalize hq:a % 18446744073709551616*n=q at e1
 have hhi:p+q / 18446744073709551616<18446744073709551616:=by omega
 have hd:(a*n) / 18446744073709551616=p+q / 18446744073709551616:=by omega
 have hm:(a*n) % 18446744073709551616=q % 18446744073709551616:=by omega
 rw[show A.cells 2 (.agg (wd a))=some (wd a)from rfl,bS,show A.aj 1 (wd a)=some (.int .u64 ((a % 18446744073709551616:Nat):Int))from rfl,bS,show A.conv .u64 (.int .i64 (n:Int))=some (.int .u64 (IntKind.u64.wrap (n:Int)))from rfl,bS,NU (by omega),akK hlo (by omega),bS,iQ,bS,ext1,bS,show A.aj 0 (wd a)=some (.int .u64 ((a / 18446744073709551616:Nat):Int))from rfl,bS,bS]
 rw[show A.mul (.int .u64 ((a / 18446744073709551616:Nat):Int)) (.int .u64 (n:Int))=some (.int .u64 (IntKind.u64.wrap (((a / 18446744073709551616:Nat):Int)*(n:Int))))from rfl,bS,←Int.natCast_mul,hp,hq,NU (by omega)]
 rw[show A.add (.int .u64 (p:Int)) (.int .u64 ((q / 18446744073709551616:Nat):Int))=some (.int .u64 (IntKind.u64.wrap ((p:Int)+((q / 18446744073709551616:Nat):Int))))from rfl,bS,←Int.natCast_add,NU hhi]
 have e:wd (a*n)=[.int .u64 ((p+q / 18446744073709551616:Nat):Int),.int .u64 ((q % 18446744073709551616:Nat):Int)]:=by unfold wd;rw[hd,hm]
 rw[e]
 exact br _ _
theorem al7 {a b:Nat} (h:a+b<340282366920938463463374607431768211456) (σ:Heap):KY [.agg (wd a),.agg (wd b)] σ=some (.agg (wd (a+b)),σ):=by
 have e0:O6 (.agg (wd a)) (.agg (wd b)) σ=some (.agg (wd (a+b)),σ)→KY [.agg (wd a),.agg (wd b)] σ=some (.agg (wd (a+b)),σ):=fun q=>IG rfl q
 refine e0 ?_
 unfold O6
 have ha:a % 18446744073709551616<18446744073709551616:=Nat.mod_lt _ (by decide)
 have hb:b % 18446744073709551616<18446744073709551616:=Nat.mod_lt _ (by decide)
 rw[show A.cells 2 (.agg (wd a))=some (wd a)from rfl,bS,show A.cells 2 (.agg (wd b))=some (wd b)from rfl,bS,show A.aj 1 (wd a)=some (.int .u64 ((a % 18446744073709551616:Nat):Int))from rfl,bS,show A.aj 1 (wd b)=some (.int .u64 ((b % 18446744073709551616:Nat):Int))from rfl,bS]
 have e0:=Zi ha hb (c:=0) (by omega) σ
 rw[show((0:Nat):Int)=0 from rfl]at e0
 rw[e0,bS,iQ,bS,ext1,bS,show A.aj 0 (wd a)=some (.int .u64 ((a / 18446744073709551616:Nat):Int))from rfl,bS,show A.aj 0 (wd b)=some (.int .u64 ((b / 18446744073709551616:Nat):Int))from rfl,bS]
 simp only
 rw[Zi (by omega) (by omega) (by omega),bS,iQ,bS,ext1,bS]
 have e:wd (a+b)=[.int .u64 (((a / 18446744073709551616+b / 18446744073709551616+(a % 18446744073709551616+b % 18446744073709551616+0) / 18446744073709551616) % 18446744073709551616:Nat):Int),.int .u64 (((a % 18446744073709551616+b % 18446744073709551616+0) % 18446744073709551616:Nat):Int)]:=by
  have d1:(a+b) / 18446744073709551616=(a / 18446744073709551616+b / 18446744073709551616+(a % 18446744073709551616+b % 18446744073709551616+0) / 18446744073709551616) % 18446744073709551616:=by omega
  have d2:(a+b) % 18446744073709551616=(a % 18446744073709551616+b % 18446744073709551616+0) % 18446744073709551616:=by omega
  unfold wd
  rw[d1,d2]
 rw[e]
 exact br _ _
theorem aau (a b:Nat) (σ:Heap):Fm [.agg (wd a),.agg (wd b)] σ=some (.bool (decide (a<b)),σ):=by
 refine wrap_eq rfl ?_ (gQ _)
 show O5 (.agg (wd a)) (.agg (wd b)) σ=_
 unfold O5
 rw[show A.cells 2 (.agg (wd a))=some (wd a)from rfl,bS,show A.cells 2 (.agg (wd b))=some (wd b)from rfl,bS,show A.aj 0 (wd a)=some (.int .u64 ((a / 18446744073709551616:Nat):Int))from rfl,bS,show A.aj 0 (wd b)=some (.int .u64 ((b / 18446744073709551616:Nat):Int))from rfl,bS,
  show A.lss (.int .u64 ((a / 18446744073709551616:Nat):Int)) (.int .u64 ((b / 18446744073709551616:Nat):Int))=some (.bool (decide (((a / 18446744073709551616:Nat):Int)<((b / 18446744073709551616:Nat):Int))))from rfl,bS]
 by_cases h1:a / 18446744073709551616<b / 18446744073709551616
 ·rw[decide_eq_true (show((a / 18446744073709551616:Nat):Int)<((b / 18446744073709551616:Nat):Int) by omega)]
  rw[decide_eq_true (show a<b by omega)]
  exact br _ _
 rw[decide_eq_false (show ¬((a / 18446744073709551616:Nat):Int)<((b / 18446744073709551616:Nat):Int) by omega)]
 have hq:A.eql .i (.int .u64 ((a / 18446744073709551616:Nat):Int)) (.int .u64 ((b / 18446744073709551616:Nat):Int))=some (.bool (decide (((a / 18446744073709551616:Nat):Int)=((b / 18446744073709551616:Nat):Int)))):=by
  simp only[A.eql,A.eB,A.nF,if_true,Option.map_some]
  congr 2
 simp only[gF,bS]
 rw[hq]
 by_cases h2:a / 18446744073709551616=b / 18446744073709551616
 ·rw[decide_eq_true (show((a / 18446744073709551616:Nat):Int)=((b / 18446744073709551616:Nat):Int) by omega)]
  simp only[gT,bS]
  rw[show A.aj 1 (wd a)=some (.int .u64 ((a % 18446744073709551616:Nat):Int))from rfl,bS,show A.aj 1 (wd b)=some (.int .u64 ((b % 18446744073709551616:Nat):Int))from rfl,bS,show A.lss (.int .u64 ((a % 18446744073709551616:Nat):Int)) (.int .u64 ((b % 18446744073709551616:Nat):Int))=some (.bool (decide (((a % 18446744073709551616:Nat):Int)<((b % 18446744073709551616:Nat):Int))))from rfl,bS]
  rw[show decide (((a % 18446744073709551616:Nat):Int)<((b % 18446744073709551616:Nat):Int))=decide (a<b)from decide_eq_decide.2 (by omega)]
  exact br _ _
 ·rw[decide_eq_false (show ¬((a / 18446744073709551616:Nat):Int)=((b / 18446744073709551616:Nat):Int) by omega)]
  simp only[we,bS]
  rw[decide_eq_false (show ¬a<b by omega)]
  exact br _ _
end
section
set_option maxRecDepth 100000
open HP
theorem alq {r:AV→AV→AV→AV→Heap→Option (AV×Heap)} {x y z t v:AV} {σ:Heap} (h:[x,y,z,t].any A.own=false) (e:r x y z t σ=some (v,σ)):A.wrap true [] .k (A.vV r) [x,y,z,t] σ=some (v,σ):=by
 refine wrap_eq h ?_ (gQ _)
 rw[show A.bT [] [x,y,z,t]=[x,y,z,t] by simp [A.bT]]
 exact e
theorem BV {a b:Nat} (h:a+b<9223372036854775808):A.add (.int .i64 (a:Int)) (.int .i64 (b:Int))=some (.int .i64 ((a+b:Nat):Int)):=by
 rw[kU,←Int.natCast_add,wrap64 (by unfold aM;omega)]
theorem aib {a b:Nat} (h:a*b<9223372036854775808):A.mul (.int .i64 (a:Int)) (.int .i64 (b:Int))=some (.int .i64 ((a*b:Nat):Int)):=by
 rw[xh,←Int.natCast_mul,wrap64 (by unfold aM;omega)]
theorem QV {a b:Nat} (h:b≤a) (h2:a<9223372036854775808):A.sub (.int .i64 (a:Int)) (.int .i64 (b:Int))=some (.int .i64 ((a-b:Nat):Int)):=by
 rw[oZ,wrap64 (by unfold aM;omega)];congr 2;omega
theorem ZD {a:Nat} (h:a<9223372036854775808):A.quo (.int .i64 (a:Int)) (.int .i64 2)=some (.int .i64 ((a / 2:Nat):Int)):=by
 rw[abu _ _ (by decide),show((a:Int)).tdiv 2=((a / 2:Nat):Int)from by rw[Int.tdiv_eq_ediv_of_nonneg (by omega)];omega,wrap64 (by unfold aM;omega)]
def Ej (a b:Int) (n d:Nat):Int:=if a≤b then a+((2*(b-a).toNat*n+d) / (2*d):Nat)else a-((2*(a-b).toNat*n+d-1) / (2*d):Nat)
theorem nN (n:Nat):A.cells 2 (.agg (wd n))=some (wd n):=rfl
theorem nv (n:Nat):A.ay 0 2 (wd n)=some (.agg (wd n)):=rfl
theorem pQ (n:Nat):A.splice 0 (wd n) [(AV.int .u64 0),(AV.int .u64 0)]=some (wd n):=rfl
theorem NA (n:Nat):((A.lb (.lbx (wd n))).bind fun c=>A.ay 0 2 c)=some (.agg (wd n)):=rfl
theorem af9 (k:Nat):A.mul (.int .i64 2) (.int .i64 (k:Int))=some (.int .i64 (IntKind.i64.wrap (2*(k:Int)))):=rfl
theorem FZ {k:Nat} (h:k<4611686018427387904):A.mul (.int .i64 2) (.int .i64 (k:Int))=some (.int .i64 ((2*k:Nat):Int)):=by
 rw[af9,wrap64 (by unfold aM;omega)];congr 2
theorem alk {d X K m:Nat} (hd:0<d) (hd2:d<100000000000000000000000000) (hm2:m≤65535) (hX:X≤200000*d) (hK:K≤m) (hle:∀k:Nat,k≤K↔d*(2*k)≤X) (σ:Heap):∃q,A.loop ((fun v12 sU=>
    (A.lss (v12.getD 2 AV.undef) (v12.getD 3 AV.undef)).bind fun dF=>
    A.cond dF (
     (A.add (v12.getD 2 AV.undef) (v12.getD 3 AV.undef)).bind fun cB=>
     (A.add cB aH).bind fun cQ=>
     (A.quo cQ (AV.int .i64 2)).bind fun bF=>
     ((A.lb (v12.getD 1 AV.undef)).bind fun jQ=>A.ay 0 2 jQ).bind fun cR=>
     ((A.lb (v12.getD 0 AV.undef)).bind fun i7=>A.ay 0 2 i7).bind fun cZ=>
     (A.mul (AV.int .i64 2) bF).bind fun eC=>
     (A.quiet (qB [cZ,eC] sU) sU).bind fun x24=>
     (A.quiet (Fm [cR,x24] sU) sU).bind fun x25=>
     (A.cond x25 (
      (A.sub bF aH).bind fun dL=>
      some ([(v12.getD 0 AV.undef),(v12.getD 1 AV.undef),(v12.getD 2 AV.undef),dL],sU)) (
      some ([(v12.getD 0 AV.undef),(v12.getD 1 AV.undef),bF,(v12.getD 3 AV.undef)],sU))).bind fun kr=>
     some (AX.normal,[(kr.1.getD 0 AV.undef),(kr.1.getD 1 AV.undef),(kr.1.getD 2 AV.undef),(kr.1.getD 3 AV.undef)],kr.2)) (
     some (AX.exit 0,[(v12.getD 0 AV.undef),(v12.getD 1 AV.undef),(v12.getD 2 AV.undef),(v12.getD 3 AV.undef)],sU)))) [.lbx (wd d),.lbx (wd X),.int .i64 0,.int .i64 (m:Int)] σ=some q∧∃w,q=(.exit 0,[.lbx (wd d),.lbx (wd X),.int .i64 (K:Int),w],σ):=by
 refine nO (fun z v w=>∃lo hi:Nat,v=[.lbx (wd d),.lbx (wd X),.int .i64 (lo:Int),.int .i64 (hi:Int)]∧w=σ∧z=hi-lo∧lo≤K∧K≤hi∧hi≤m) ?_ (n:=m) ⟨0,m,rfl,rfl,by omega,by omega,hK,Nat.le_refl _⟩
 rintro z v w ⟨lo,hi,rfl,rfl,hz,h1,h2,h3⟩
 simp only[List.getD_cons_zero,List.getD_cons_succ]
 rw[kV,bS]
 by_cases hlt:lo<hi
 ·rw[decide_eq_true (by omega),cA,BV (by omega),bS,show A.add (.int .i64 ((lo+hi:Nat):Int)) (.int .i64 1)=some (.int .i64 ((lo+hi+1:Nat):Int))from BV (b:=1) (by omega),bS,ZD (by omega),bS,NA,bS,NA,bS,FZ (by omega),bS]
  generalize hk:(lo+hi+1) / 2=k
  have hk1:lo<k:=by omega
  have hk2:k≤hi:=by omega
  have hdk:d*(2*k)≤131070*d:=by rw[Nat.mul_comm];exact Nat.mul_le_mul (by omega) (Nat.le_refl _)
  rw[quiet_of (wU (by omega) (by omega) (by omega) w),bS,quiet_of (aau X (d*(2*k)) w),bS]
  by_cases hc:X<d*(2*k)
  ·rw[decide_eq_true hc,cA,show A.sub (.int .i64 (k:Int)) (.int .i64 1)=some (.int .i64 ((k-1:Nat):Int))from QV (b:=1) (by omega) (by omega),bS,bS]
   have hnk:¬k≤K:=fun q=>by have:=(hle k).1 q;omega
   exact .inl ⟨k-1-lo,_,_,by omega,rfl,lo,k-1,rfl,rfl,rfl,h1,by omega,by omega⟩
  ·rw[decide_eq_false hc,cz,bS]
   have hkK:k≤K:=(hle k).2 (by omega)
   exact .inl ⟨hi-k,_,_,by omega,rfl,k,hi,rfl,rfl,rfl,hkK,h2,h3⟩
 ·rw[decide_eq_false (by omega),cz]
  refine .inr ⟨_,rfl,by simp,.int .i64 (hi:Int),?_⟩
  rw[show lo=K by omega]
theorem akc {d X K m:Nat} (hd:0<d) (hd2:d<100000000000000000000000000) (hm2:m≤65535) (hX:X≤200000*d) (hK:K≤m) (hle:∀k:Nat,k<K↔d*(2*k+1)<X) (σ:Heap):∃q,A.loop ((fun je sX=>
    (A.lss (je.getD 2 AV.undef) (je.getD 3 AV.undef)).bind fun fu=>
    A.cond fu (
     (A.add (je.getD 2 AV.undef) (je.getD 3 AV.undef)).bind fun dm=>
     (A.quo dm (AV.int .i64 2)).bind fun ef=>
     ((A.lb (je.getD 0 AV.undef)).bind fun l5=>A.ay 0 2 l5).bind fun fL=>
     (A.mul (AV.int .i64 2) ef).bind fun eO=>
     (A.add eO aH).bind fun dU=>
     (A.quiet (qB [fL,dU] sX) sX).bind fun fM=>
     ((A.lb (je.getD 1 AV.undef)).bind fun iz=>A.ay 0 2 iz).bind fun iC=>
     (A.quiet (Fm [fM,iC] sX) sX).bind fun eP=>
     (A.cond eP (
      (A.add ef aH).bind fun iN=>
      some ([(je.getD 0 AV.undef),(je.getD 1 AV.undef),iN,(je.getD 3 AV.undef)],sX)) (
      some ([(je.getD 0 AV.undef),(je.getD 1 AV.undef),(je.getD 2 AV.undef),ef],sX))).bind fun cV=>
     some (AX.normal,[(cV.1.getD 0 AV.undef),(cV.1.getD 1 AV.undef),(cV.1.getD 2 AV.undef),(cV.1.getD 3 AV.undef)],cV.2)) (
     some (AX.exit 2,[(je.getD 0 AV.undef),(je.getD 1 AV.undef),(je.getD 2 AV.undef),(je.getD 3 AV.undef)],sX)))) [.lbx (wd d),.lbx (wd X),.int .i64 0,.int .i64 (m:Int)] σ=some q∧∃w,q=(.exit 2,[.lbx (wd d),.lbx (wd X),.int .i64 (K:Int),w],σ):=by
 refine nO (fun z v w=>∃lo hi:Nat,v=[.lbx (wd d),.lbx (wd X),.int .i64 (lo:Int),.int .i64 (hi:Int)]∧w=σ∧z=hi-lo∧lo≤K∧K≤hi∧hi≤m) ?_ (n:=m) ⟨0,m,rfl,rfl,by omega,by omega,hK,Nat.le_refl _⟩
 rintro z v w ⟨lo,hi,rfl,rfl,hz,h1,h2,h3⟩
 simp only[List.getD_cons_zero,List.getD_cons_succ]
 rw[kV,bS]
 by_cases hlt:lo<hi
 ·rw[decide_eq_true (by omega),cA,BV (by omega),bS,ZD (by omega),bS,NA,bS,FZ (by omega),bS]
  generalize hk:(lo+hi) / 2=k
  have hk1:lo≤k:=by omega
  have hk2:k<hi:=by omega
  have hdk:d*(2*k+1)≤131071*d:=by rw[Nat.mul_comm];exact Nat.mul_le_mul (by omega) (Nat.le_refl _)
  rw[show A.add (.int .i64 ((2*k:Nat):Int)) (.int .i64 1)=some (.int .i64 ((2*k+1:Nat):Int))from BV (b:=1) (by omega),bS,quiet_of (wU (by omega) (by omega) (by omega) w),bS,NA,bS,quiet_of (aau (d*(2*k+1)) X w),bS]
  by_cases hc:d*(2*k+1)<X
  ·rw[decide_eq_true hc,cA,show A.add (.int .i64 (k:Int)) (.int .i64 1)=some (.int .i64 ((k+1:Nat):Int))from BV (b:=1) (by omega),bS,bS]
   have hkK:k<K:=(hle k).2 hc
   exact .inl ⟨hi-(k+1),_,_,by omega,rfl,k+1,hi,rfl,rfl,rfl,by omega,h2,h3⟩
  ·rw[decide_eq_false hc,cz,bS]
   have hnk:¬k<K:=fun q=>hc ((hle k).1 q)
   exact .inl ⟨k-lo,_,_,by omega,rfl,lo,k,rfl,rfl,rfl,h1,by omega,by omega⟩
 ·rw[decide_eq_false (by omega),cz]
  refine .inr ⟨_,rfl,by simp,.int .i64 (hi:Int),?_⟩
  rw[show lo=K by omega]
theorem ajN {a b:Int} (ha:0≤a) (ha2:a≤65535) (hb:0≤b) (zH:b≤65535) {n d:Nat} (hd:0<d) (hnd:n≤d) (hd2:d<100000000000000000000000000) (σ:Heap):Pr [.int .i64 a,.int .i64 b,.agg (wd n),.agg (wd d)] σ=some (.int .i64 (Ej a b n d),σ):=by
 have run:∃q,Pz (.int .i64 a) (.int .i64 b) (.agg (wd n)) (.agg (wd d)) σ=some q∧q=(.int .i64 (Ej a b n d),σ):=by
  unfold Pz Ej
  rw[nN,bS,nN,bS,su,bS]
  by_cases hab:a≤b
  ·rw[decide_eq_true hab,cA,if_pos hab]
   obtain⟨m,hm⟩:∃m:Nat,b-a=m:=⟨(b-a).toNat,by omega⟩
   have hm2:m≤65535:=by omega
   have b1:2*m*n≤131070*d:=Nat.mul_le_mul (by omega) hnd
   have b2:n*(2*m)=2*m*n:=Nat.mul_comm _ _
   rw[oZ,wrap64 (by unfold aM;omega),hm,bS,nv,bS,FZ (by omega),bS,quiet_of (wU (by omega) (by omega) (by omega) σ),bS,nv,bS,quiet_of (al7 (by omega) σ),bS,nN,bS,pQ,bS]
   rw[Int.toNat_natCast,b2]
   generalize hX:2*m*n+d=X
   have hK:X / (2*d)≤m:=by
    refine Nat.lt_succ_iff.1 ((Nat.div_lt_iff_lt_mul (by omega)).2 ?_)
    have:m*n≤m*d:=Nat.mul_le_mul (Nat.le_refl _) hnd
    have e1:2*m*n=2*(m*n):=Nat.mul_assoc _ _ _
    have e2:(m+1)*(2*d)=2*(m*d)+2*d:=by rw[Nat.add_mul,Nat.mul_left_comm];omega
    show X<(m+1)*(2*d)
    omega
   generalize Ui:X / (2*d)=K at hK
   have hle:∀k:Nat,k≤K↔d*(2*k)≤X:=fun k=>by
    rw[←Ui,Nat.le_div_iff_mul_le (by omega),show k*(2*d)=d*(2*k) by rw[Nat.mul_left_comm,Nat.mul_left_comm d];congr 1;exact Nat.mul_comm _ _]
   refine Gp (alk hd hd2 hm2 (by omega) hK hle σ) ?_
   ·rintro q ⟨w,rfl⟩
    simp only[nG,List.getD_cons_zero,List.getD_cons_succ]
    rw[kU,wrap64 (by unfold aM;omega),bS]
    exact⟨_,br _ _,rfl⟩
  ·rw[decide_eq_false hab,cz,if_neg hab]
   obtain⟨m,hm⟩:∃m:Nat,a-b=m:=⟨(a-b).toNat,by omega⟩
   have hm2:m≤65535:=by omega
   have b1:2*m*n≤131070*d:=Nat.mul_le_mul (by omega) hnd
   have b2:n*(2*m)=2*m*n:=Nat.mul_comm _ _
   rw[oZ,wrap64 (by unfold aM;omega),hm,bS,nv,bS,FZ (by omega),bS,wU (by omega) (by omega) (by omega) σ,bS,nN,bS,pQ,bS]
   rw[Int.toNat_natCast,b2]
   generalize hX:2*m*n=X
   have hK:(X+d-1) / (2*d)≤m:=by
    refine Nat.lt_succ_iff.1 ((Nat.div_lt_iff_lt_mul (by omega)).2 ?_)
    have:m*n≤m*d:=Nat.mul_le_mul (Nat.le_refl _) hnd
    have e1:2*m*n=2*(m*n):=Nat.mul_assoc _ _ _
    have e2:(m+1)*(2*d)=2*(m*d)+2*d:=by rw[Nat.add_mul,Nat.mul_left_comm];omega
    show X+d-1<(m+1)*(2*d)
    omega
   generalize Ui:(X+d-1) / (2*d)=K at hK
   have hle:∀k:Nat,k<K↔d*(2*k+1)<X:=fun k=>by
    have q:=Nat.le_div_iff_mul_le (k:=2*d) (x:=k+1) (y:=X+d-1) (by omega)
    rw[Ui]at q
    have e:(k+1)*(2*d)=d*(2*k+1)+d:=by rw[Nat.mul_add,Nat.add_mul,Nat.mul_left_comm,Nat.mul_left_comm d];rw[Nat.mul_comm k d];omega
    constructor
    ·intro h;have:=q.1 h;omega
    ·intro h;exact q.2 (by omega)
   refine Gp (akc hd hd2 hm2 (by omega) hK hle σ) ?_
   ·rintro q ⟨w,rfl⟩
    simp only[nG,List.getD_cons_zero,List.getD_cons_succ]
    rw[oZ,wrap64 (by unfold aM;omega),bS]
    exact⟨_,br _ _,rfl⟩
 obtain⟨q,h1,rfl⟩:=run
 exact alq rfl h1
end
section
set_option maxRecDepth 100000
noncomputable def HW (a0:Int) (a1:Int):Option Int:=
 (Jr a0 a1).bind fun x1=>
 (Js a0 a1).bind fun x2=>
 (show Option Int from
   if x2<0 then
    some (IntKind.i64.wrap (x1-1))
   else
   some x1).bind fun j4=>
 some j4
theorem ae9 {a0:Int} {a1:Int} {σ:Heap} {r:Int} (h:HW a0 a1=some r):PN [(AV.int .i64 a0),(AV.int .i64 a1)] σ=some ((AV.int .i64 r),σ):=by
 refine uc (f:=PX) (y0:=(AV.int .i64 a0)) (y1:=(AV.int .i64 a1)) (enc:=fun r:Int=>(AV.int .i64 r)) (T:=HW a0 a1) rfl rfl ?_ r h
 unfold PX HW
 refine lg (fun x1:Int=>(AV.int .i64 x1)) (fun x1 hx1=>al9 hx1) (fun x1 hx1=>?_)
 refine lg (fun x2:Int=>(AV.int .i64 x2)) (fun x2 hx2=>amb hx2) (fun x2 hx2=>?_)
 refine au _ rfl ?_
 refine NS (ω:=Int) (fun j4 a=>a=(([(AV.int .i64 j4)]:List AV),σ)) (
   by
    refine lP (p:=x2<0) (fun c3=>?_) (fun c3=>?_)
    ·refine au _ rfl ?_
     exact cD rfl
    exact cD rfl
   ) (fun j4 a ha=>?_)
 subst ha
 exact eE _ (br _ _) ⟨rfl,rfl⟩
noncomputable def HX (a0:Int) (a1:Int):Option Int:=
 (HW (IntKind.i64.wrap (IntKind.i64.wrap (2*a0)+a1)) (IntKind.i64.wrap (2*a1))).bind fun r1=>
 some r1
theorem afa {a0:Int} {a1:Int} {σ:Heap} {r:Int} (h:HX a0 a1=some r):PO [(AV.int .i64 a0),(AV.int .i64 a1)] σ=some ((AV.int .i64 r),σ):=by
 refine uc (f:=PY) (y0:=(AV.int .i64 a0)) (y1:=(AV.int .i64 a1)) (enc:=fun r:Int=>(AV.int .i64 r)) (T:=HX a0 a1) rfl rfl ?_ r h
 unfold PY HX
 refine au _ rfl<|au _ rfl<|au _ rfl ?_
 refine lg (fun r1:Int=>((AV.int .i64 r1),σ)) (fun r1 jU=>ae9 jU) (fun r1 jU=>?_)
 exact eE _ (br _ _) ⟨rfl,rfl⟩
noncomputable def HR (a0:Int):Option Bool:=
 some (aQ a0 0 36000000)
theorem Fv {a0:Int} {σ:Heap} {r:Bool} (h:HR a0=some r):Dj [(AV.int .i64 a0)] σ=some ((AV.bool r),σ):=by
 refine yP (f:=Px) (y0:=(AV.int .i64 a0)) (enc:=fun r:Bool=>(AV.bool r)) (T:=HR a0) rfl rfl ?_ r h
 unfold Px HR
 refine au _ (jY a0 0 36000000 σ) ?_
 exact eE _ (br _ _) ⟨rfl,rfl⟩
noncomputable def Dk (a0:(List Int)):Option Int:=
 lV a0 (fun(i8:Nat) e7 (s1:Unit)=>(show Option (Lr Unit Unit Int)from
   if(!(aQ e7 0 65535))=true then
    some (.ret 1)
   else
   some (.go ()))) (fun s1=>some ()) () (fun b2=>
  some 0) (fun b2=>
  some b2)
theorem VK {a0:(List Int)} {σ:Heap} {r:Int} (h:Dk a0=some r):Lg [(sl 1 qW a0)] σ=some ((AV.int .i64 r),σ):=by
 refine yP (f:=Py) (y0:=(sl 1 qW a0)) (enc:=fun r:Int=>(AV.int .i64 r)) (T:=Dk a0) rfl rfl ?_ r h
 unfold Py Dk
 refine au _ (gf _ _ _) ?_
 refine rW (B:=Unit) (R:=Int) (fun(i8:Nat) (s1:Unit) v w3=>v=[ah,(AV.int .i64 (i8:Int))]∧σ=w3) (fun(b2:Unit) (q:LS)=>∃u2 u7,q=((AX.exit 0),([u2,u7]:List AV),σ)) (fun(b2:Int) (q:LS)=>∃u7,q=(AX.ret,([(AV.int .i64 b2),u7]:List AV),σ)) ?_ ?_ ⟨rfl,rfl⟩ ?_ ?_
 ·intro Eb i8 e7 s1 v w3 sP hI
  obtain⟨rfl,rfl⟩:=hI
  refine au _ (jM sP)<|sk<|au _ (jk sP)<|au _ rfl<|au _ (afK e7 σ)<|au _ rfl ?_
  refine jo (c:=(!(aQ e7 0 65535))) (fun c9=>?_) (fun c9=>?_)
  ·exact cD (iO (by simp) ⟨_,rfl⟩)
  refine au _ (gK sP Eb) ?_
  exact cD (rX ⟨rfl,rfl⟩)
 ·intro hl s1 v w3 hI
  obtain⟨rfl,rfl⟩:=hI
  refine au _ (j0 _)<|sj ?_
  exact cD ⟨by simp,⟨_,_,rfl⟩⟩
 ·intro hl b2 q hq
  obtain⟨u2,u7,rfl⟩:=hq
  refine kT rfl ?_
  exact eE _ (br _ _) ⟨rfl,rfl⟩
 ·intro hl b2 q hq
  obtain⟨u7,rfl⟩:=hq
  refine xe rfl<|kT rfl ?_
  exact eE _ (br _ _) ⟨rfl,rfl⟩
noncomputable def HI (a0:gm):Option Int:=
 (Dk ([a0.dD,a0.to]:(List Int))).bind fun r1=>
 if ¬(r1=0)then
  some r1
 else
 if((((!((aQ a0.start 0 36000000)))||(!((aQ a0.delay 0 36000000))))||(!((aQ a0.time 0 36000000))))||(!((aQ (IntKind.i64.wrap (IntKind.i64.wrap (a0.start+a0.delay)+a0.time)) 0 36000000))))=true then
  some 1
 else
 some (pP a0.dS)
theorem Vq {a0:gm} {σ:Heap} {r:Int} (h:HI a0=some r):O1 [(AV.agg (ew a0))] σ=some ((AV.int .i64 r),σ):=by
 refine yP (f:=O4) (y0:=(AV.agg (ew a0))) (enc:=fun r:Int=>(AV.int .i64 r)) (T:=HI a0) rfl rfl ?_ r h
 unfold O4 HI
 refine au _ rfl<|au _ rfl<|au _ rfl<|au (sl 1 qW ([a0.dD,a0.to]:(List Int))) rfl ?_
 refine lg (fun r1:Int=>((AV.int .i64 r1),σ)) (fun r1 jU=>VK jU) (fun r1 jU=>?_)
 refine au _ (fI _ _ _) ?_
 refine lP (p:=¬(r1=0)) (fun c3=>?_) (fun c3=>?_)
 ·exact eE _ (br _ _) ⟨rfl,rfl⟩
 refine au _ rfl<|au _ (Fv (σ:=σ) (r:=(aQ a0.start 0 36000000)) rfl)<|au _ rfl<|eF (AV.int .i64 a0.delay) (fun hg=>rfl)<|eF (AV.bool ((aQ a0.delay 0 36000000))) (fun hg=>by(try rw[hg]);exact(quiet_of (Fv (σ:=σ) (r:=(aQ a0.delay 0 36000000)) rfl)))<|eF (AV.bool (!((aQ a0.delay 0 36000000)))) (fun hg=>by(try rw[hg]);exact rfl)<|au _ (pY _ _)<|eF (AV.int .i64 a0.time) (fun hg=>rfl)<|eF (AV.bool ((aQ a0.time 0 36000000))) (fun hg=>by(try rw[hg]);exact(quiet_of (Fv (σ:=σ) (r:=(aQ a0.time 0 36000000)) rfl)))<|eF (AV.bool (!((aQ a0.time 0 36000000)))) (fun hg=>by(try rw[hg]);exact rfl)<|au _ (pY _ _)<|eF (AV.int .i64 a0.start) (fun hg=>rfl)<|eF (AV.int .i64 a0.delay) (fun hg=>rfl)<|eF (AV.int .i64 (IntKind.i64.wrap (a0.start+a0.delay))) (fun hg=>by(try rw[hg]);exact rfl)<|eF (AV.int .i64 a0.time) (fun hg=>rfl)<|eF (AV.int .i64 (IntKind.i64.wrap (IntKind.i64.wrap (a0.start+a0.delay)+a0.time))) (fun hg=>by(try rw[hg]);exact rfl)<|eF (AV.bool ((aQ (IntKind.i64.wrap (IntKind.i64.wrap (a0.start+a0.delay)+a0.time)) 0 36000000))) (fun hg=>by(try rw[hg]);exact(quiet_of (Fv (σ:=σ) (r:=(aQ (IntKind.i64.wrap (IntKind.i64.wrap (a0.start+a0.delay)+a0.time)) 0 36000000)) rfl)))<|eF (AV.bool (!((aQ (IntKind.i64.wrap (IntKind.i64.wrap (a0.start+a0.delay)+a0.time)) 0 36000000)))) (fun hg=>by(try rw[hg]);exact rfl)<|au _ (pY _ _) ?_
 refine jo (c:=((((!((aQ a0.start 0 36000000)))||(!((aQ a0.delay 0 36000000))))||(!((aQ a0.time 0 36000000))))||(!((aQ (IntKind.i64.wrap (IntKind.i64.wrap (a0.start+a0.delay)+a0.time)) 0 36000000))))) (fun c2=>?_) (fun c2=>?_)
 ·exact eE _ (br _ _) ⟨rfl,rfl⟩
 refine au _ rfl<|au _ (VQ a0.dS σ) ?_
 exact eE _ (br _ _) ⟨rfl,rfl⟩
noncomputable def HU (a0:Int) (a1:Int):Option (Int×Int):=
 (Dk ([a0,a1]:(List Int))).bind fun r1=>
 if ¬(r1=0)then
  some (0,r1)
 else
 (HX (IntKind.i64.wrap (a0*a1)) 65535).bind fun r2=>
 some (r2,0)
theorem aeM {a0:Int} {a1:Int} {σ:Heap} {r:(Int×Int)} (h:HU a0 a1=some r):Dl [(AV.int .i64 a0),(AV.int .i64 a1)] σ=some ((AV.aF [(AV.int .i64 r.1),(AV.int .i64 r.2)]),σ):=by
 refine uc (f:=PG) (y0:=(AV.int .i64 a0)) (y1:=(AV.int .i64 a1)) (enc:=fun r:(Int×Int)=>(AV.aF [(AV.int .i64 r.1),(AV.int .i64 r.2)])) (T:=HU a0 a1) rfl rfl ?_ r h
 unfold PG HU
 refine au (sl 1 qW ([a0,a1]:(List Int))) rfl ?_
 refine lg (fun r1:Int=>((AV.int .i64 r1),σ)) (fun r1 jU=>VK jU) (fun r1 jU=>?_)
 refine au _ (fI _ _ _) ?_
 refine lP (p:=¬(r1=0)) (fun c3=>?_) (fun c3=>?_)
 ·exact eE _ (br _ _) ⟨rfl,rfl⟩
 refine au _ rfl ?_
 refine lg (fun r2:Int=>((AV.int .i64 r2),σ)) (fun r2 tO=>afa tO) (fun r2 tO=>?_)
 exact eE _ (br _ _) ⟨rfl,rfl⟩
end
end Go.Proofs.YtfcnnphidnjleaaGreat
