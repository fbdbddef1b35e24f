/- Parts of the proof of PickPresetsKeepWhatIsRecorded, in order. -/
import Derived.Orders
import Derived.Below
import Derived.WalkKit
import Derived.Laws.StructEq
import Derived.Laws.Append
import Derived.Laws.AppendOwn
import Derived.Test.YtjjjjbgohkklnaaRows
import Derived.KernelRfl
import Derived.Lib.Bytealg
import Derived.Sort.Defs
import Derived.Lib.BitFns
import Derived.Test.YtjjjjbgohkklnaaShelf
import Derived.Lib.Overlaps
import Derived.IntWalk
import Derived.Lib.Strings
import Derived.Sort.Statements
import Derived.Test.YtjjjjbgohkklnaaKPickPresetsKeepWhatIsRecorded2
namespace Go.Proofs.Ytjjjjbgohkklnaa
set_option linter.unusedVariables false
set_option linter.unusedSimpArgs false
set_option linter.unusedSectionVars false
section
set_option maxRecDepth 100000
theorem Se:Sound Try.prog aF 106 EM:=q1 [] 35 (.s .n (.s (.s .n (.b (.l [2,7] [.exit 0,.ret] (.s .n (.s dn (.s (.b (.s .n (.s .n cV))) .n)))))) bI)) aP.nil Try.func106 Try.call106 (λa0 σ=>by kernel_rfl) rfl rfl
theorem Jp:Sound Try.prog aF 89 yz:=q1 [] 20 (.s .n bI) (aP.cons Se aP.nil) Try.func89 Try.call89 (λa0 σ=>by kernel_rfl) rfl rfl
theorem vZ:Sound Try.prog aF 35 l9:=q3 [] 15 (.s .n bI) aP.nil Try.func35 Try.call35 (λa0 a1 a2 σ=>by kernel_rfl) rfl rfl
theorem IJ:Sound Try.prog aF 90 yh:=q1 [] 5 (.s .n bI) (aP.cons vZ aP.nil) Try.func90 Try.call90 (λa0 σ=>by kernel_rfl) rfl rfl
theorem P8:Sound Try.prog aF 91 DS:=q1 [5] 63 (.s .n (.s cV (.s .n (.s (.s .n (.b (.l [2,12] [.exit 0,.ret] (.s .n (.s dn (.s (.b (.s .n (.s (.b (.s .n (.j bI (.s .n (.j bI (.s .n (.j bI cV))))))) .n))) .n)))))) bI)))) (aP.cons IJ (aP.cons Jp aP.nil)) Try.func91 Try.call91 (λa0 σ=>by kernel_rfl) rfl rfl
theorem P7:Sound Try.prog aF 75 DP:=q1 [1,6] 115 (.s .n (.s (.b (.s .n (.j bI (.s .n (.j bI (.s .n (.j bI cV))))))) (.s .n (.s (.s .n (.b (.l [1,2,33] [.exit 1,.ret] (.s .n (.s dn (.s (.b (.s .n (.s (.b (.s .n (.j bI (.s .n (.j bI (.s .n (.j bI (.s .n (.j bI cV))))))))) (.s (.s .n cV) (.s .n (.s .n (.c [1] .n .n))))))) .n)))))) bI)))) (aP.cons Jp (aP.cons vZ (aP.cons IJ (aP.cons P8 aP.nil)))) Try.func75 Try.call75 (λa0 σ=>by kernel_rfl) rfl rfl
theorem P6:Sound Try.prog aF 51 DO:=q1 [5] 30 (.s .n (.s cV (.s .n (.s (.s .n (.b (.l [2,13] [.exit 0,.ret] (.s .n (.s dn (.s (.b (.s .n (.s (.s .n cV) (.s cV .n)))) .n)))))) bI)))) (aP.cons P7 aP.nil) Try.func51 Try.call51 (λa0 σ=>by kernel_rfl) rfl rfl
noncomputable def PF (dyn:Nat→an→Heap→au):Fx:=⟨Try.prog,aF,A.tab (λ_ _=>none) [],dyn,[],[],19,[]⟩
theorem PC(dyn:Nat→an→Heap→au)(hd:∀f,Sound Try.prog aF f (dyn (aF.getD f 0))):Sound Try.prog aF 76 (A.wrap true [(.s 3)] .k (A.dh (A6 dyn))):=
 Sound.wrap (Sound.oU (X:=PF dyn) (fn:=Try.f76) (bz:=(.s .n (.s (.s .n (.b (.l [4,8] [.exit 0,.ret] (.s .n (.s dn (.s (.b (.s .n cV)) .n)))))) bI))) .F trivial (cM.of rfl aP.nil (hd)) Try.func76 Try.call76 (λa0 a1 σ=>by kernel_rfl)) _ _ _ rfl rfl
theorem Pz(dyn:Nat→an→Heap→au)(hd:∀f,Sound Try.prog aF f (dyn (aF.getD f 0))):Sound Try.prog aF 76 (A4 dyn):=PC dyn hd
theorem ID:Sound Try.prog aF 77 yc:=q2 [2] 8 (.s .n bI) aP.nil Try.func77 Try.call77 (λa0 a1 σ=>by kernel_rfl) rfl rfl
noncomputable def Qd:Fx:=⟨Try.prog,aF,A.tab (λ_ _=>none) [(76,A4 (A.tab (λ_ _=>none) [(64,yc)]))],(A.tab (λ_ _=>none) [(64,yc)]),[4],[],17,[]⟩
theorem Qc:Sound Try.prog aF 52 (A.wrap true [(.s 3)] C4 (A.dh (Be))):=
 Sound.wrap (Sound.oU (X:=Qd) (fn:=Try.f52) (bz:=(.s .n (.s .n (.s cV bI)))) .F trivial (cM.of rfl (aP.cons (Pz _ (pY (gu.cons (mP ID (by kernel_rfl) rfl) gu.nil))) aP.nil) (pY (gu.cons (mP ID (by kernel_rfl) rfl) gu.nil))) Try.func52 Try.call52 (λa0 a1 σ=>by kernel_rfl)) _ _ _ rfl rfl
theorem IK:Sound Try.prog aF 52 Bc:=Qc
theorem P9:Sound Try.prog aF 53 vV:=q3 [] 32 (.s .n (.s cV (.s (.s .n (.b (.l [6,7] [.exit 0,.ret] (.s (.s .n dn) (.s (.b cV) .n))))) bI))) aP.nil Try.func53 Try.call53 (λa0 a1 a2 σ=>by kernel_rfl) rfl rfl
noncomputable def Qx:Fx:=⟨Try.prog,aF,A.tab (λ_ _=>none) [],(λ_ _ _=>none),[4],[15],33,[]⟩
theorem Qw:Sound Try.prog aF 54 (A.wrap false [] .k (A.jX (ym))):=
 Sound.wrap (Sound.zC (X:=Qx) (fn:=Try.f54) (bz:=(.s .n (.s (.s .n (.c [4] .n .n)) (.s .n (.b (.l [4,6] [.exit 0] (.s (.s .n dn) (.s (.b .n) .n)))))))) .K trivial (cM.of rfl aP.nil (λ_=>Sound.none)) Try.func54 Try.call54 (λa0 a1 a2 σ=>by kernel_rfl)) _ _ _ rfl rfl
theorem Qu:Sound Try.prog aF 54 Bg:=Qw
theorem IG:Sound Try.prog aF 23 Bb:=q1 [1,6,7] 91 (.s .n (.s (.s .n cV) (.s cV (.s .n (.s (.s .n (.b (.l [1,2,23] [.exit 0,.ret] (.s .n (.s dn (.s (.b (.s .n (.s cV (.s cV (.s .n (.s cV (.s cV (.s cV .n)))))))) .n)))))) bI))))) (aP.cons P6 (aP.cons vZ (aP.cons IK (aP.cons P9 (aP.cons Qu aP.nil))))) Try.func23 Try.call23 (λa0 σ=>by kernel_rfl) rfl rfl
theorem Jq:Sound Try.prog aF 25 ur:=q2 [] 7 (.s .n (.s cV bI)) aP.nil Try.func25 Try.call25 (λa0 a1 σ=>by kernel_rfl) rfl rfl
theorem I8:Sound Try.prog aF 22 yu:=q1 [] 15 (.s .n (.s (.s .n (.b (.l [2,7] [.exit 0,.ret] (.s .n (.s dn (.s (.b (.s .n cV)) .n)))))) bI)) aP.nil Try.func22 Try.call22 (λa0 σ=>by kernel_rfl) rfl rfl
theorem Qt:Sound Try.prog aF 57 D1:=q1 [1,7,8,11] 50 (.s .n (.s (.s .n cV) (.s .n (.s (.s .n (.b (.l [1,5,20] [.exit 0] (.s .n (.s dn (.s (.b (.s .n (.s .n (.s .n (.b (.l [1,5,7,35] [.exit 2] (.s .n (.s dn (.s (.b bI) .n))))))))) .n)))))) bI)))) (aP.cons IG (aP.cons IK aP.nil)) Try.func57 Try.call57 (λa0 σ=>by kernel_rfl) rfl rfl
theorem Jo:Sound Try.prog aF 26 yy:=q1 [1,7] 24 (.s .n (.s .n (.s .n (.s (.s .n (.b (.l [16] [.exit 0] (.s .n (.s dn (.s (.b bI) .n)))))) bI)))) (aP.cons Qt aP.nil) Try.func26 Try.call26 (λa0 σ=>by kernel_rfl) rfl rfl
theorem Ra:Sound Try.prog aF 70 Ed:=q1 [] 40 (.s .n (.s (.s .n (.b (.l [2,6] [.exit 0,.ret] (.s .n (.s dn (.s (.b (.s .n cV)) .n)))))) bI)) aP.nil Try.func70 Try.call70 (λa0 σ=>by kernel_rfl) rfl rfl
theorem I7:Sound Try.prog aF 36 yt:=q1 [] 9 (.s .n bI) (aP.cons Ra aP.nil) Try.func36 Try.call36 (λa0 σ=>by kernel_rfl) rfl rfl
theorem D7:Sound Try.prog aF 37 sM:=q1 [] 5 (.s .n bI) (aP.cons vZ aP.nil) Try.func37 Try.call37 (λa0 σ=>by kernel_rfl) rfl rfl
theorem QJ:Sound Try.prog aF 47 D8:=q2 [2,3] 21 (.s .n (.s cV bI)) (aP.cons IN aP.nil) Try.func47 Try.call47 (λa0 a1 σ=>by kernel_rfl) rfl rfl
theorem IF:Sound Try.prog aF 13 vW:=q2 [2,8,10] 97 (.s .n (.s (.s .n cV) (.s .n (.s (.s .n (.b (.l [4,26] [.exit 0,.ret] (.s .n (.s dn (.s (.b (.s .n (.s (.b (.s .n (.j bI (.s .n (.j bI (.s .n (.j bI cV))))))) (.s .n (.b (.l [4,8,63] [.exit 3,.ret] (.s .n (.s dn (.s (.b (.s .n (.b (.s .n (.j bI (.s .n (.j bI cV))))))) .n))))))))) .n)))))) bI)))) (aP.cons IG (aP.cons Jq (aP.cons I8 (aP.cons Jo (aP.cons vZ (aP.cons I7 (aP.cons D7 (aP.cons QJ aP.nil)))))))) Try.func13 Try.call13 (λa0 a1 σ=>by kernel_rfl) rfl rfl
noncomputable def PZ:Fx:=⟨Try.prog,aF,A.tab (λ_ _=>none) [],(λ_ _ _=>none),[],[],8,[]⟩
theorem PX:Sound Try.prog aF 38 (A.wrap true [(.s 3)] .k (A.fG (IB))):=
 Sound.wrap (Sound.CZ (X:=PZ) (fn:=Try.f38) (bz:=(.s .n (.s cV bI))) .K trivial (cM.of rfl aP.nil (λ_=>Sound.none)) Try.func38 Try.call38 (λa0 σ=>by kernel_rfl)) _ _ _ rfl rfl
theorem IC:Sound Try.prog aF 38 qH:=Rk PX Try.call38 RO
noncomputable def OR (dyn:Nat→an→Heap→au):Fx:=⟨Try.prog,aF,A.tab (λ_ _=>none) [],dyn,[],[],49,[]⟩
theorem OQ(dyn:Nat→an→Heap→au)(hd:∀f,Sound Try.prog aF f (dyn (aF.getD f 0))):Sound Try.prog aF 39 (A.wrap true [(.s 3)] .k (A.jX (AU dyn))):=
 Sound.wrap (Sound.zC (X:=OR dyn) (fn:=Try.f39) (bz:=(.s .n (.s .n (.s .n (.s (.b (.l [9,10] [.exit 0] (.s (.s .n dn) (.b (.s .n (.s .n (.c [9,10] .n .n))))))) bI))))) .F trivial (cM.of rfl aP.nil (hd)) Try.func39 Try.call39 (λa0 a1 a2 σ=>by kernel_rfl)) _ _ _ rfl rfl
theorem OP(dyn:Nat→an→Heap→au)(hd:∀f,Sound Try.prog aF f (dyn (aF.getD f 0))):Sound Try.prog aF 39 (vN dyn):=OQ dyn hd
noncomputable def PT:Fx:=⟨Try.prog,aF,A.tab (λ_ _=>none) [],(λ_ _ _=>none),[],[],28,[]⟩
theorem PS:Sound Try.prog aF 104 (A.wrap false [] .k (A.fG (IA))):=
 Sound.wrap (Sound.CZ (X:=PT) (fn:=Try.f104) (bz:=(.s .n (.b (.l [2,3] [.exit 0] (.s (.s .n dn) (.s (.b .n) .n)))))) .K trivial (cM.of rfl aP.nil (λ_=>Sound.none)) Try.func104 Try.call104 (λa0 σ=>by kernel_rfl)) _ _ _ rfl rfl
theorem PR:Sound Try.prog aF 104 ya:=PS
noncomputable def PI:Fx:=⟨Try.prog,aF,A.tab (λ_ _=>none) [(104,ya)],(λ_ _ _=>none),[],[],14,[]⟩
theorem PE:Sound Try.prog aF 87 (A.wrap false [] .k (A.dh (Iz))):=
 Sound.wrap (Sound.oU (X:=PI) (fn:=Try.f87) (bz:=(.s .n bI)) .K trivial (cM.of rfl (aP.cons PR aP.nil) (λ_=>Sound.none)) Try.func87 Try.call87 (λa0 a1 σ=>by kernel_rfl)) _ _ _ rfl rfl
theorem PB:Sound Try.prog aF 87 DI:=PE
noncomputable def Py:Fx:=⟨Try.prog,aF,A.tab (λ_ _=>none) [(87,DI)],(λ_ _ _=>none),[],[],10,[]⟩
theorem Px:Sound Try.prog aF 72 (A.wrap false [] .k (A.dh (Iy))):=
 Sound.wrap (Sound.oU (X:=Py) (fn:=Try.f72) (bz:=.n) .K trivial (cM.of rfl (aP.cons PB aP.nil) (λ_=>Sound.none)) Try.func72 Try.call72 (λa0 a1 σ=>by kernel_rfl)) _ _ _ rfl rfl
theorem Pw:Sound Try.prog aF 72 xY:=Px
noncomputable def P0:Fx:=⟨Try.prog,aF,A.tab (λ_ _=>none) [(71,nL),(72,xY)],(λ_ _ _=>none),[],[],95,[]⟩
theorem PY:Sound Try.prog aF 41 (A.wrap false [] .k (A.jX (Ba))):=
 Sound.wrap (Sound.zC (X:=P0) (fn:=Try.f41) (bz:=(.s .n (.s .n (.s .n (.s cV (.s .n (.s cV (.s (.s .n (.j (.s .n (.s .n (.s .n bI))) .n)) (.s .n (.s (.s .n (.j (.s .n (.s .n bI)) .n)) (.s .n (.s .n bI)))))))))))) .R trivial (cM.of rfl (aP.cons PK (aP.cons Pw aP.nil)) (λ_=>Sound.none)) Try.func41 Try.call41 (λa0 a1 a2 σ=>by kernel_rfl)) _ _ _ rfl rfl
theorem PW:Sound Try.prog aF 41 vT:=PY
noncomputable def P5:Fx:=⟨Try.prog,aF,A.tab (λ_ _=>none) [],(λ_ _ _=>none),[],[],27,[]⟩
theorem P4:Sound Try.prog aF 73 (A.wrap false [] .k (A.dh (uo))):=
 Sound.wrap (Sound.oU (X:=P5) (fn:=Try.f73) (bz:=(.s .n (.s (.s .n (.c [] .n .n)) (.s (.s .n (.s .n (.c [0] .n .n))) bI)))) .K trivial (cM.of rfl aP.nil (λ_=>Sound.none)) Try.func73 Try.call73 (λa0 a1 σ=>by kernel_rfl)) _ _ _ rfl rfl
theorem P3:Sound Try.prog aF 73 vU:=P4
theorem PO:Sound Try.prog aF 42 vS:=q1 [] 36 (.s .n (.s .n (.s (.s .n (.b (.l [3,11] [.exit 0] (.s .n (.s dn (.s (.b (.s .n (.s .n (.s .n (.c [] .n .n))))) .n)))))) (.s .n (.s (.s .n (.b (.l [6,27] [.exit 2] (.s .n (.s dn (.s (.b bI) .n)))))) bI))))) (aP.cons P3 aP.nil) Try.func42 Try.call42 (λa0 σ=>by kernel_rfl) rfl rfl
noncomputable def OO (dyn:Nat→an→Heap→au):Fx:=⟨Try.prog,aF,A.tab (λ_ _=>none) [],dyn,[],[],53,[]⟩
theorem ON(dyn:Nat→an→Heap→au)(hd:∀f,Sound Try.prog aF f (dyn (aF.getD f 0))):Sound Try.prog aF 101 (A.wrap false [] .k (A.uT (AT dyn))):=
 Sound.wrap (Sound.NA (X:=OO dyn) (fn:=Try.f101) (bz:=(.s .n (.b (.l [8] [.exit 0] (.s (.s .n dn) (.s (.b (.s .n (.b (.l [9] [.exit 2] (.s (.s .n dn) (.s (.b .n) .n)))))) .n)))))) .K trivial (cM.of rfl aP.nil (hd)) Try.func101 Try.call101 (λa0 a1 a2 a3 σ=>by kernel_rfl)) _ _ _ rfl rfl
theorem OM(dyn:Nat→an→Heap→au)(hd:∀f,Sound Try.prog aF f (dyn (aF.getD f 0))):Sound Try.prog aF 101 (qF dyn):=ON dyn hd
noncomputable def OW:Fx:=⟨Try.prog,aF,A.tab (λ_ _=>none) [],(λ_ _ _=>none),[],[],38,[]⟩
theorem OV:Sound Try.prog aF 122 (A.wrap false [] .k (A.lR (vO))):=
 Sound.wrap (Sound.C0 (X:=OW) (fn:=Try.f122) (bz:=(.s .n (.b (.l [10] [.exit 0] (.s (.s .n dn) (.s (.b .n) .n)))))) .K trivial (cM.of rfl aP.nil (λ_=>Sound.none)) Try.func122 Try.call122 (λa0 a1 a2 a3 a4 σ=>by kernel_rfl)) _ _ _ rfl rfl
theorem OU:Sound Try.prog aF 122 qG:=OV
noncomputable def Pf:Fx:=⟨Try.prog,aF,A.tab (λ_ _=>none) [(122,qG)],(λ_ _ _=>none),[],[],58,[]⟩
theorem Pc:Sound Try.prog aF 116 (A.wrap false [] .k (A.lR (vR))):=
 Sound.wrap (Sound.C0 (X:=Pf) (fn:=Try.f116) (bz:=(.s .n (.s .n (.s (.b (.l [10,11] [.exit 0] (.s (.s .n dn) (.b (.s .n (.c [10,11] bI bI)))))) .n)))) .K trivial (cM.of rfl (aP.cons OU aP.nil) (λ_=>Sound.none)) Try.func116 Try.call116 (λa0 a1 a2 a3 a4 σ=>by kernel_rfl)) _ _ _ rfl rfl
theorem O9:Sound Try.prog aF 116 xW:=Pc
noncomputable def O1 (rec:Nat→an→Heap→au) (dyn:Nat→an→Heap→au):Fx:=⟨Try.prog,aF,A.tab (λ_ _=>none) [(116,xW),(102,rec 106)],dyn,[],[],220,[]⟩
theorem O0(rec:Nat→an→Heap→au)(dyn:Nat→an→Heap→au)(GR:∀f,Sound Try.prog aF f (rec (aF.getD f 0)))(hd:∀f,Sound Try.prog aF f (dyn (aF.getD f 0))):Sound Try.prog aF 102 (A.wrap false [] .k (A.lR (AW rec dyn))):=
 Sound.wrap (Sound.C0 (X:=O1 rec dyn) (fn:=Try.f102) (bz:=(.s (.s .n (.j (.s .n (.s .n (.s (.b (.l [10,11] [.exit 0] (.s (.s .n dn) (.b (.s .n (.s .n (.c [10,11] .n .n))))))) (.s (.s .n (.b (.l [13] [.exit 2] (.s (.s .n dn) (.s (.b .n) .n))))) .n)))) .n)) (.s (.s .n (.j (.s .n (.s .n (.s (.b (.l [14,15] [.exit 4] (.s (.s .n dn) (.b (.s .n (.s .n (.c [14,15] .n .n))))))) (.s (.s .n (.b (.l [17] [.exit 6] (.s (.s .n dn) (.s (.b .n) .n))))) .n)))) .n)) (.s .n (.s .n (.s .n (.s (.s .n (.c [20,21] bI bI)) (.s .n (.s (.b (.l [20,21] [.exit 8] (.s (.s .n dn) (.b (.s .n (.s .n (.c [20,21] .n .n))))))) (.s .n (.s (.s .n (.c [] .n .n)) (.s (.s .n (.c [] .n .n)) (.s .n (.c [] .n .n)))))))))))))) .K trivial (cM.of rfl (aP.cons O9 (aP.cons (GR 102) aP.nil)) (hd)) Try.func102 Try.call102 (λa0 a1 a2 a3 a4 σ=>by kernel_rfl)) _ _ _ rfl rfl
theorem OX(dyn:Nat→an→Heap→au)(hd:∀f,Sound Try.prog aF f (dyn (aF.getD f 0))):∀n f,Sound Try.prog aF f (fuel (vP dyn) n (aF.getD f 0)):=
 JA (λrec GR=>(gu.cons (mP (O0 rec dyn GR hd) (by kernel_rfl) rfl) gu.nil))
theorem OZ(dyn:Nat→an→Heap→au)(hd:∀f,Sound Try.prog aF f (dyn (aF.getD f 0))):Sound Try.prog aF 102 (pI dyn):=OX dyn hd 2000000 102
noncomputable def Pg (dyn:Nat→an→Heap→au):Fx:=⟨Try.prog,aF,A.tab (λ_ _=>none) [(101,qF dyn),(102,pI dyn)],dyn,[],[],63,[]⟩
theorem Pd(dyn:Nat→an→Heap→au)(hd:∀f,Sound Try.prog aF f (dyn (aF.getD f 0))):Sound Try.prog aF 84 (A.wrap false [] .k (A.jX (AZ dyn))):=
 Sound.wrap (Sound.zC (X:=Pg dyn) (fn:=Try.f84) (bz:=(.s .n (.s .n (.s (.b (.l [7,8] [.exit 0] (.s (.s .n dn) (.b (.s .n bI))))) (.s .n (.b (.l [6] [.exit 2] (.s (.s .n dn) (.b (.s .n (.s (.b (.l [7,8] [.exit 4] (.s (.s .n dn) (.b (.s .n bI))))) (.s (.s .n (.s .n (.c [] .n .n))) .n)))))))))))) .K trivial (cM.of rfl (aP.cons (OM dyn hd) (aP.cons (OZ dyn hd) aP.nil)) (hd)) Try.func84 Try.call84 (λa0 a1 a2 σ=>by kernel_rfl)) _ _ _ rfl rfl
theorem Pa(dyn:Nat→an→Heap→au)(hd:∀f,Sound Try.prog aF f (dyn (aF.getD f 0))):Sound Try.prog aF 84 (xX dyn):=Pd dyn hd
noncomputable def O5 (dyn:Nat→an→Heap→au):Fx:=⟨Try.prog,aF,A.tab (λ_ _=>none) [(84,xX dyn)],dyn,[],[],9,[]⟩
theorem O4(dyn:Nat→an→Heap→au)(hd:∀f,Sound Try.prog aF f (dyn (aF.getD f 0))):Sound Try.prog aF 66 (A.wrap false [] .k (A.dh (AY dyn))):=
 Sound.wrap (Sound.oU (X:=O5 dyn) (fn:=Try.f66) (bz:=.n) .K trivial (cM.of rfl (aP.cons (Pa dyn hd) aP.nil) (hd)) Try.func66 Try.call66 (λa0 a1 σ=>by kernel_rfl)) _ _ _ rfl rfl
theorem O3(dyn:Nat→an→Heap→au)(hd:∀f,Sound Try.prog aF f (dyn (aF.getD f 0))):Sound Try.prog aF 66 (vQ dyn):=O4 dyn hd
theorem Qv:Sound Try.prog aF 68 D2:=q2 [2,3] 20 (.s .n (.s (.s .n (.j (.s cV bI) .n)) bI)) (aP.cons IN aP.nil) Try.func68 Try.call68 (λa0 a1 σ=>by kernel_rfl) rfl rfl
theorem IM:Sound Try.prog aF 67 qI:=q2 [2,3] 10 (.s .n bI) (aP.cons Qv aP.nil) Try.func67 Try.call67 (λa0 a1 σ=>by kernel_rfl) rfl rfl
noncomputable def QO:Fx:=⟨Try.prog,aF,A.tab (λ_ _=>none) [(38,qH),(66,vQ (A.tab (λ_ _=>none) [(147,qI)]))],(A.tab (λ_ _=>none) [(147,qI)]),[6],[],40,[]⟩
theorem QM:Sound Try.prog aF 33 (A.wrap true [(.s 3)] (.s 3) (A.fG (yq))):=
 Sound.wrap (Sound.CZ (X:=QO) (fn:=Try.f33) (bz:=(.s .n (.s .n (.s .n (.s .n (.s (.s .n (.b (.l [4,13] [.exit 0] (.s .n (.s dn (.s (.b (.s .n (.s .n (.c [4] .n .n)))) .n)))))) bI)))))) .F trivial (cM.of rfl (aP.cons IC (aP.cons (O3 _ (pY (gu.cons (mP IM (by kernel_rfl) rfl) gu.nil))) aP.nil)) (pY (gu.cons (mP IM (by kernel_rfl) rfl) gu.nil))) Try.func33 Try.call33 (λa0 σ=>by kernel_rfl)) _ _ _ rfl rfl
theorem QK:Sound Try.prog aF 33 yp:=QM
theorem IL:Sound Try.prog aF 40 pJ:=q2 [2] 9 (.s .n bI) aP.nil Try.func40 Try.call40 (λa0 a1 σ=>by kernel_rfl) rfl rfl
end
section
set_option maxRecDepth 100000
noncomputable def QN:Fx:=⟨Try.prog,aF,A.tab (λ_ _=>none) [(13,vW),(35,l9),(25,ur),(36,yt),(22,yu),(26,yy),(37,sM),(38,A.qj (.s 3) qH),(39,vN (A.tab (λ_ _=>none) [(113,pJ)])),(41,vT),(42,vS),(33,yp)],(A.tab (λ_ _=>none) [(113,pJ)]),[6,17,20],[],132,[]⟩
theorem QL:Sound Try.prog aF 11 (A.wrap true [oM,(.s 3),.k,.k,(.s 3)] (.t [(.e 3 lJ),.k]) (A.tT (Bj))):=
 Sound.wrap (Sound.G1 (X:=QN) (fn:=Try.f11) (bz:=(.s .n (.s .n (.s cV (.s .n (.s (.s .n (.b (.l [12,13,48] [.exit 0,.ret] (.s .n (.s dn (.s (.b (.s .n (.s cV cV))) .n)))))) (.s .n (.s (.s .n (.b (.l [18,64] [.exit 2] (.s .n (.s dn (.s (.b (.s .n bI)) .n)))))) (.s .n (.s (.s .n (.c [18] .n .n)) (.s .n (.s (.s .n (.c [3,4] (.s .n (.s .n (.c [3] .n .n))) .n)) (.s .n (.s cV bI)))))))))))))) .F trivial (cM.of rfl (aP.cons IF (aP.cons vZ (aP.cons Jq (aP.cons I7 (aP.cons I8 (aP.cons Jo (aP.cons D7 (aP.cons (Sound.qj IC (.s 3) rfl) (aP.cons (OP _ (pY (gu.cons (mP IL (by kernel_rfl) rfl) gu.nil))) (aP.cons PW (aP.cons PO (aP.cons QK aP.nil)))))))))))) (pY (gu.cons (mP IL (by kernel_rfl) rfl) gu.nil))) Try.func11 Try.call11 (λa0 a1 a2 a3 a4 a5 σ=>by kernel_rfl)) _ _ _ rfl rfl
theorem QI:Sound Try.prog aF 11 Bi:=QL
theorem PV:Sound Try.prog aF 8 DM:=q2 [] 26 (.s .n (.s cV (.s (.s .n (.b (.l [4,13] [.exit 0,.ret] (.s .n (.s dn (.s (.b (.s .n cV)) .n)))))) bI))) aP.nil Try.func8 Try.call8 (λa0 a1 σ=>by kernel_rfl) rfl rfl
theorem Qj:Sound Try.prog aF 16 DZ:=q2 [2,3] 24 (.s .n bI) (aP.cons PV aP.nil) Try.func16 Try.call16 (λa0 a1 σ=>by kernel_rfl) rfl rfl
noncomputable def PG (dyn:Nat→an→Heap→au):Fx:=⟨Try.prog,aF,A.tab (λ_ _=>none) [],dyn,[],[],19,[]⟩
theorem PD(dyn:Nat→an→Heap→au)(hd:∀f,Sound Try.prog aF f (dyn (aF.getD f 0))):Sound Try.prog aF 49 (A.wrap true [(.s 3)] .k (A.dh (A7 dyn))):=
 Sound.wrap (Sound.oU (X:=PG dyn) (fn:=Try.f49) (bz:=(.s .n (.s (.s .n (.b (.l [4,8] [.exit 0,.ret] (.s .n (.s dn (.s (.b (.s .n cV)) .n)))))) bI))) .F trivial (cM.of rfl aP.nil (hd)) Try.func49 Try.call49 (λa0 a1 σ=>by kernel_rfl)) _ _ _ rfl rfl
theorem PA(dyn:Nat→an→Heap→au)(hd:∀f,Sound Try.prog aF f (dyn (aF.getD f 0))):Sound Try.prog aF 49 (A5 dyn):=PD dyn hd
noncomputable def Pn (dyn:Nat→an→Heap→au):Fx:=⟨Try.prog,aF,A.tab (λ_ _=>none) [(49,A5 dyn)],dyn,[],[],9,[]⟩
theorem Pm(dyn:Nat→an→Heap→au)(hd:∀f,Sound Try.prog aF f (dyn (aF.getD f 0))):Sound Try.prog aF 17 (A.wrap true [(.s 3)] .k (A.dh (A0 dyn))):=
 Sound.wrap (Sound.oU (X:=Pn dyn) (fn:=Try.f17) (bz:=(.s .n bI)) .F trivial (cM.of rfl (aP.cons (PA dyn hd) aP.nil) (hd)) Try.func17 Try.call17 (λa0 a1 σ=>by kernel_rfl)) _ _ _ rfl rfl
theorem Pk(dyn:Nat→an→Heap→au)(hd:∀f,Sound Try.prog aF f (dyn (aF.getD f 0))):Sound Try.prog aF 17 (uk dyn):=Pm dyn hd
theorem Q9:Sound Try.prog aF 19 wg:=q3 [4,5,9,11] 55 (.s .n (.s cV (.s cV (.s cV (.s (.s .n (.b (.l [4,5,6,7,31] [.exit 0,.ret] (.s .n (.s dn (.s (.b (.s .n (.s (.s .n dn) (.s (.s .n (.b (.l [4,6,7,43] [.exit 2,.ret] (.s .n (.s dn (.s (.b (.s .n cV)) .n)))))) .n)))) .n)))))) bI))))) (aP.cons D7 aP.nil) Try.func19 Try.call19 (λa0 a1 a2 σ=>by kernel_rfl) rfl rfl
noncomputable def PM (dyn:Nat→an→Heap→au):Fx:=⟨Try.prog,aF,A.tab (λ_ _=>none) [],dyn,[],[],19,[]⟩
theorem PL(dyn:Nat→an→Heap→au)(hd:∀f,Sound Try.prog aF f (dyn (aF.getD f 0))):Sound Try.prog aF 50 (A.wrap true [(.s 3)] .k (A.dh (A9 dyn))):=
 Sound.wrap (Sound.oU (X:=PM dyn) (fn:=Try.f50) (bz:=(.s .n (.s (.s .n (.b (.l [4,8] [.exit 0,.ret] (.s .n (.s dn (.s (.b (.s .n cV)) .n)))))) bI))) .F trivial (cM.of rfl aP.nil (hd)) Try.func50 Try.call50 (λa0 a1 σ=>by kernel_rfl)) _ _ _ rfl rfl
theorem PJ(dyn:Nat→an→Heap→au)(hd:∀f,Sound Try.prog aF f (dyn (aF.getD f 0))):Sound Try.prog aF 50 (A8 dyn):=PL dyn hd
noncomputable def Pt (dyn:Nat→an→Heap→au):Fx:=⟨Try.prog,aF,A.tab (λ_ _=>none) [(50,A8 dyn)],dyn,[],[],9,[]⟩
theorem Pr(dyn:Nat→an→Heap→au)(hd:∀f,Sound Try.prog aF f (dyn (aF.getD f 0))):Sound Try.prog aF 20 (A.wrap true [(.s 3)] .k (A.dh (A3 dyn))):=
 Sound.wrap (Sound.oU (X:=Pt dyn) (fn:=Try.f20) (bz:=(.s .n bI)) .F trivial (cM.of rfl (aP.cons (PJ dyn hd) aP.nil) (hd)) Try.func20 Try.call20 (λa0 a1 σ=>by kernel_rfl)) _ _ _ rfl rfl
theorem Pq(dyn:Nat→an→Heap→au)(hd:∀f,Sound Try.prog aF f (dyn (aF.getD f 0))):Sound Try.prog aF 20 (um dyn):=Pr dyn hd
theorem DD:Sound Try.prog aF 18 nJ:=q2 [2] 9 (.s .n bI) aP.nil Try.func18 Try.call18 (λa0 a1 σ=>by kernel_rfl) rfl rfl
theorem DE:Sound Try.prog aF 21 nK:=q2 [2] 7 (.s .n bI) (aP.cons Qj aP.nil) Try.func21 Try.call21 (λa0 a1 σ=>by kernel_rfl) rfl rfl
noncomputable def Pe:Fx:=⟨Try.prog,aF,A.tab (λ_ _=>none) [(11,Bi),(13,vW),(17,uk (A.tab (λ_ _=>none) [(119,nJ),(122,nK)])),(19,wg),(20,um (A.tab (λ_ _=>none) [(119,nJ),(122,nK)]))],(A.tab (λ_ _=>none) [(119,nJ),(122,nK)]),[6],[16,20],88,[]⟩
theorem Pb:Sound Try.prog aF 5 (A.wrap true [oM,(.s 3),.k,.k,(.s 3)] .k (A.tT (DG))):=
 Sound.wrap (Sound.G1 (X:=Pe) (fn:=Try.f5) (bz:=(.s .n (.s .n (.s cV (.s cV (.s (.s .n (.b (.l [12,42] [.exit 0,.ret] (.s .n (.s dn (.s (.b (.s .n (.s (.s .n dn) (.s .n cV)))) .n)))))) (.s (.s .n (.b (.l [12,73] [.exit 2,.ret] (.s .n (.s dn (.s (.b (.s .n cV)) .n)))))) bI))))))) .F trivial (cM.of rfl (aP.cons QI (aP.cons IF (aP.cons (Pk _ (pY (gu.cons (mP DD (by kernel_rfl) rfl) (gu.cons (mP DE (by kernel_rfl) rfl) gu.nil)))) (aP.cons Q9 (aP.cons (Pq _ (pY (gu.cons (mP DD (by kernel_rfl) rfl) (gu.cons (mP DE (by kernel_rfl) rfl) gu.nil)))) aP.nil))))) (pY (gu.cons (mP DD (by kernel_rfl) rfl) (gu.cons (mP DE (by kernel_rfl) rfl) gu.nil)))) Try.func5 Try.call5 (λa0 a1 a2 a3 a4 a5 σ=>by kernel_rfl)) _ _ _ rfl rfl
theorem O8:Sound Try.prog aF 5 Ix:=Pb
end
section
theorem bq(s t:ByteArray):(s==t)=decide (s=t):=by obtain⟨a⟩:=s;obtain⟨b⟩:=t;show(a==b)=_;rw[kP];simp
section
variable {α β : Type}
theorem cT(t e:Option α):A.cond (.bool true) t e=t:=rfl
theorem cF(t e:Option α):A.cond (.bool false) t e=e:=rfl
theorem NT(e d:Option α):A.guard (.bool true) true e d=e:=rfl
theorem NS(e d:Option α):A.guard (.bool true) false e d=d:=rfl
theorem NR(e d:Option α):A.guard (.bool false) true e d=d:=rfl
theorem NQ(e d:Option α):A.guard (.bool false) false e d=e:=rfl
theorem pT(x y:AV):A.pick (.bool true) x y=some x:=rfl
theorem pF(x y:AV):A.pick (.bool false) x y=some y:=rfl
theorem rY{p:Prop}[Decidable p]{w:Bool}{e d:Option α}{f:α→Option β}:(A.guard (.bool (decide p)) w e d).bind f=if p then(A.guard (.bool true) w e d).bind f else(A.guard (.bool false) w e d).bind f:=by by_cases h:p<;>simp [h]
theorem rX{b w:Bool}{e d:Option α}{f:α→Option β}:(A.guard (.bool b) w e d).bind f=match b with|true=>(A.guard (.bool true) w e d).bind f|false=>(A.guard (.bool false) w e d).bind f:=by cases b<;>rfl
theorem rV{p:Prop}[Decidable p]{t e:Option α}:A.cond (.bool (decide p)) t e=if p then t else e:=by by_cases h:p<;>simp [h,A.cond]
theorem rB{p:Prop}[Decidable p]{t e:Option α}:A.cond (.bool (!decide p)) t e=if p then e else t:=by by_cases h:p<;>simp [h,A.cond]
theorem rU{b:Bool}{t e:Option α}:A.cond (.bool (!b)) t e=match b with|true=>e|false=>t:=by cases b<;>rfl
theorem rT{b:Bool}{t e:Option α}:A.cond (.bool b) t e=match b with|true=>t|false=>e:=by cases b<;>rfl
theorem gN(w:Bool)(e d:Option α):A.guard (.aG []) w e d=d:=rfl
theorem xN(a b:AX):(a==b)=decide (a=b):=by rw[kP];simp
end
section
variable (k : IntKind) (a b : Int) (p q : Prop) [Decidable p] [Decidable q] (s t : ByteArray) (x y : AV) (σ : Heap) (cs : an)
theorem xk:A.add (.aj a) (.aj b)=some (.aj (IntKind.i64.wrap (a+b))):=rfl
theorem xp:A.sub (.aj a) (.aj b)=some (.aj (IntKind.i64.wrap (a-b))):=rfl
theorem CN:A.mul (.aj a) (.aj b)=some (.aj (IntKind.i64.wrap (a*b))):=rfl
theorem oO:A.lss (.aj a) (.aj b)=some (.bool (decide (a<b))):=rfl
theorem Gx:A.leq (.aj a) (.aj b)=some (.bool (decide (a≤b))):=rfl
theorem xm:A.gtr (.aj a) (.aj b)=some (.bool (decide (b<a))):=rfl
theorem M7:A.geq (.aj a) (.aj b)=some (.bool (decide (b≤a))):=rfl
theorem ML:A.lss (.int .u8 a) (.int .u8 b)=some (.bool (decide (a<b))):=rfl
theorem MK:A.leq (.int .u8 a) (.int .u8 b)=some (.bool (decide (a≤b))):=rfl
theorem MI:A.gtr (.int .u8 a) (.int .u8 b)=some (.bool (decide (b<a))):=rfl
theorem MH:A.geq (.int .u8 a) (.int .u8 b)=some (.bool (decide (b≤a))):=rfl
theorem qu:A.eql .i (.int k a) (.int k b)=some (.bool (decide (a=b))):=by simp only[A.eql,A.dr,A.jG,if_true,dN];congr 2
theorem nj:A.neq .i (.int k a) (.int k b)=some (.bool (decide (¬a=b))):=by simp only[A.neq,A.dr,A.jG,if_true,dN];congr 2;rw[kP];simp
theorem CM:A.eql .z (.str s) (.str t)=some (.bool (decide (s=t))):=by simp only[A.eql,A.dr,A.kZ,dN,bq]
theorem M8:A.neq .z (.str s) (.str t)=some (.bool (decide (¬s=t))):=by simp only[A.neq,A.dr,A.kZ,dN,bq];simp
theorem M9(b:Bool):A.not (.bool b)=some (.bool (!b)):=rfl
theorem MM:A.not (.bool (decide p))=some (.bool (decide (¬p))):=by simp [A.not]
theorem NK:A.lb (.lbx cs)=some cs:=rfl
theorem MD(l:an):A.ext 0 (.aG (x::l))=some x:=rfl
theorem ME(x0 x:AV)(l:an):A.ext 1 (.aG (x0::x::l))=some x:=rfl
theorem MF(x0 x1 x:AV)(l:an):A.ext 2 (.aG (x0::x1::x::l))=some x:=rfl
theorem MG(x0 x1 x2 x:AV)(l:an):A.ext 3 (.aG (x0::x1::x2::x::l))=some x:=rfl
theorem NI:A.deref (.rp cs) σ=some cs:=rfl
theorem NJ(o:Nat):A.cW o (.rp cs)=some (.rp (cs.drop o)):=rfl
theorem MJ:A.tO (.str s)=some (.aj s.size):=rfl
theorem NG(n:Int):A.cell (.int k n)=some (.int k n):=rfl
theorem NF(b:Bool):A.cell (.bool b)=some (.bool b):=rfl
theorem NH:A.cell (.str s)=some (.str s):=rfl
theorem M6(sz:Nat)(es:List an):A.cell (.sl sz es)=some (.sl sz es):=rfl
theorem HV(o k:Nat):A.aD o (cs.drop k)=A.aD (k+o) cs:=by simp [A.aD,List.getElem?_drop]
end
theorem NU(a d:AV)(l:an):(a::l).getD 0 d=a:=rfl
theorem NV(a b d:AV)(l:an):(b::a::l).getD 1 d=a:=rfl
theorem NW(a b c d:AV)(l:an):(b::c::a::l).getD 2 d=a:=rfl
theorem NX(a b c e d:AV)(l:an):(b::c::e::a::l).getD 3 d=a:=rfl
theorem NY(a b c e f d:AV)(l:an):(b::c::e::f::a::l).getD 4 d=a:=rfl
theorem NZ(a b c e f g d:AV)(l:an):(b::c::e::f::g::a::l).getD 5 d=a:=rfl
theorem N0(a b c e f g h d:AV)(l:an):(b::c::e::f::g::h::a::l).getD 6 d=a:=rfl
theorem N1(a b c e f g h i d:AV)(l:an):(b::c::e::f::g::h::i::a::l).getD 7 d=a:=rfl
theorem N2(a b c e f g h i j d:AV)(l:an):(b::c::e::f::g::h::i::j::a::l).getD 8 d=a:=rfl
theorem dL{n:Int}(h:bE n):IntKind.i64.wrap n=n:=IntWalk.i64_in n h
theorem wrap_eq{ro:Bool}{cP:List Sh}{cY:Sh}{r:an→Heap→au}{args:an}{σ σ':Heap}{v v':AV}(h:args.any A.own=false)(e:r (A.bW cP args) σ=some (v,σ'))(hv:A.nn cY v=v'):A.wrap ro cP cY r args σ=some (v',σ'):=by unfold A.wrap;rw[h,Bool.and_false,aQ,e];simp [hv]
theorem ED{v:AV}(n:Nat)(h:A.mV v=true):A.fresh v=true∧A.shift n v=v:=by cases v<;>first|exact⟨h,rfl⟩|cases h
theorem JN{v:AV}(n:Nat)(h:A.uO v=true):A.qP v=true∧A.p7 n v=v:=by
 have key:(∀vs,v≠.aG vs)→A.qP v=true∧A.p7 n v=v:=by intro k;have:=ED (v:=v) n;cases v<;>first|exact absurd rfl (k _)|exact this h
 by_cases ht:∃vs,v=.aG vs
 ·obtain⟨vs,rfl⟩:=ht;simp only[A.uO,mw]at h;refine⟨by simp only[A.qP,mw];exact λx hx=>(ED n (h x hx)).1,?_⟩;simp only[A.p7];congr 1
  calc vs.map (A.shift n)=vs.map id:=List.map_congr_left λx hx=>(ED n (h x hx)).2
   _=vs:=List.map_id vs
 ·exact key λvs e=>ht ⟨vs,e⟩
theorem K8{cP:List Sh}{cY:Sh}{r:an→Heap→au}{args args':an}{σ:Heap}{v:AV}(h:args.any A.own=true)(hz:A.cX σ 0 8 args=some args')(ho:args'.any A.own=false)(e:A.wrap true cP cY r args' []=some (v,[]))(hs:A.uO v=true):A.wrap true cP cY r args σ=some (v,σ):=by unfold A.wrap at e ⊢;rw[ho,Bool.and_false,aQ]at e;obtain⟨⟨q1,q2⟩,e1,e2⟩:=cq.1 e;simp only[Prod.mk.injEq]at e2;obtain⟨rfl,rfl⟩:=e2;rw[h,Bool.and_self,bh,hz];simp [e1,(JN σ.length hs).1,(JN σ.length hs).2]
theorem dZ(σ:Heap)(r:AV):A.fin σ r σ=some (r,σ):=by simp [A.fin]
theorem J6(σ:Heap)(n d:Nat){a:AV}(h:A.nV a=true):A.br σ n d a=some a:=by
 cases a<;>simp only[A.nV]at h<;>first|(cases h;done)|skip
 case sl sz es=>cases es with
  |nil=>cases d<;>simp [A.br,A.gr]
  |cons _ _=>simp at h
 all_goals cases d<;>simp [A.br]
theorem Jy(σ:Heap)(n d:Nat):∀{l:an},l.all A.nV=true→A.cX σ n d l=some l
 |[],_=>by simp [A.cX]
 |a::l,h=>by simp only[List.all_cons,dP]at h;simp [A.cX,J6 σ n d h.1,Jy σ n d h.2]
theorem J7(σ:Heap)(n d:Nat){a:AV}(h:A.mV a=true):A.br σ n d a=some a:=by
 unfold A.mV at h;split at h
 ·cases d<;>simp [A.br,Jy σ n _ h]
 ·exact J6 σ n d h
theorem Jz(σ:Heap)(n d:Nat):∀{l:an},l.all A.mV=true→A.cX σ n d l=some l
 |[],_=>by simp [A.cX]
 |a::l,h=>by simp only[List.all_cons,dP]at h;simp [A.cX,J7 σ n d h.1,Jz σ n d h.2]
theorem Tr(σ:Heap)(n d:Nat){a:AV}(h:A.uO a=true):A.br σ n d a=some a:=by
 unfold A.uO at h;split at h
 ·cases d<;>simp [A.br,Jz σ n _ h]
 ·exact J7 σ n d h
theorem BX(σ bs:Heap){r:AV}(h:A.uO r=true):A.fin σ r (σ++bs)=some (r,σ):=by
 unfold A.fin;split
 ·rfl
 ·rw[aM (by simp),Tr _ _ _ h];rfl
theorem FB(σ bs:Heap)(k:IntKind)(n:Int):A.fin σ (.int k n) (σ++bs)=some (.int k n,σ):=BX σ bs rfl
theorem Fe(σ bs:Heap)(b:Bool):A.fin σ (.bool b) (σ++bs)=some (.bool b,σ):=BX σ bs rfl
theorem Lg(σ bs:Heap)(s:ByteArray):A.fin σ (.str s) (σ++bs)=some (.str s,σ):=BX σ bs rfl
theorem KH(σ bs:Heap):A.fin σ (.aG []) (σ++bs)=some (.aG [],σ):=BX σ bs rfl
theorem Df(σ bs:Heap)(j:Nat):(σ++bs)[σ.length+j]? =bs[j]? :=by rw[eC (by omega)];congr 1;omega
theorem xw(σ bs:Heap):(σ++bs)[σ.length]? =bs[0]? :=by rw[eC (bH _),Nat.sub_self]
theorem lM(σ bs:Heap)(j:Nat)(b:aX):(σ++bs).set (σ.length+j) b=σ++bs.set j b:=by rw[nZ _ _ (by omega)];congr 2;omega
theorem Gj(σ bs:Heap)(b:aX):(σ++bs).set σ.length b=σ++bs.set 0 b:=by rw[nZ _ _ (bH _),Nat.sub_self]
section
variable {α : Type} (sz : Nat) (c : α → an) (l : List α)
theorem gX:A.bl (sl sz c l)=some (.aj l.length):=by simp [sl,A.bl]
theorem gW{k:Nat}{x:α}(h:l[k]? =some x):A.aJ sz (sl sz c l) (.aj (k:Int))=some (.rp (c x)):=by have hk:k<l.length:=(bK.1 h).1;have hx:l[k]=x:=(bK.1 h).2;simp [A.aJ,sl,A.idx,hk,hx]
theorem SK{i:Int}{x:α}(h0:0≤i)(h:l[i.toNat]? =some x):A.aJ sz (sl sz c l) (.aj i)=some (.rp (c x)):=by have:=gW sz c l h;rwa[Int.toNat_of_nonneg h0]at this
end
inductive Rd (S R : Type) where
 |go(s:S)
 |out(r:R)
def Rd.el{S R γ:Type}(x:Rd S R)(f:S→γ)(g:R→γ):γ:=match x with|.go s=>f s|.out r=>g r
theorem td{S R γ:Type}(s:S)(f:S→γ)(g:R→γ):(Rd.go s:Rd S R).el f g=f s:=rfl
theorem sZ{S R γ:Type}(r:R)(f:S→γ)(g:R→γ):(Rd.out r:Rd S R).el f g=g r:=rfl
theorem wS{S R γ:Type}{p:Prop}[Decidable p](x y:Rd S R)(f:S→γ)(g:R→γ):(if p then x else y).el f g=if p then x.el f g else y.el f g:=by split<;>rfl
def gy{α S R:Type}(body:List α→α→S→Rd S R):List α→List α→S→Rd S R
 |_,[],s=>.go s
 |pre,x::l,s=>match body pre x s with|.go s'=>gy body (pre++[x]) l s'|.out r=>.out r
theorem SM{f:an→Heap→Option (AX×an×Heap)}{v:an}{σ:Heap}:∀{n m:Nat}{r r':AX×an×Heap},A.iter f n v σ=some r→A.iter f m v σ=some r'→r=r':=by
 intro n;induction n generalizing v σ with
 |zero=>intro m r r' h;cases h
 |succ n ih=>
  intro m r r' h1 h2;cases m with
  |zero=>cases h2
  |succ m=>
   simp only[A.iter]at h1 h2;cases hf:f v σ with
   |none=>rw[hf]at h1;cases h1
   |some q=>
    rw[hf]at h1 h2;simp only[aC]at h1 h2;obtain⟨e,v',σ'⟩:=q;cases e with
    |normal=>exact ih h1 h2
    |exit i=>simp only at h1 h2;rw[h1]at h2;injection h2
    |ret=>simp only at h1 h2;rw[h1]at h2;injection h2
theorem uq{f:an→Heap→Option (AX×an×Heap)}{v:an}{σ:Heap}{n:Nat}{r:AX×an×Heap}(h:A.iter f n v σ=some r):A.loop f v σ=some r:=by
 have hex:∃n r,A.iter f n v σ=some r:=⟨n,r,h⟩
 unfold A.loop;rw[dif_pos hex];exact congrArg some (SM (Classical.choose_spec (Classical.choose_spec hex)) h)
theorem wz{f:an→Heap→Option (AX×an×Heap)}{v v':an}{σ σ':Heap}{r:AX×an×Heap}(h:f v σ=some (.normal,v',σ'))(k:∃n,A.iter f n v' σ'=some r):∃n,A.iter f n v σ=some r:=by obtain⟨n,k⟩:=k;exact⟨n+1,by simp [A.iter,h,k]⟩
theorem nO{f:an→Heap→Option (AX×an×Heap)}{v:an}{σ:Heap}{r:AX×an×Heap}(h:f v σ=some r)(hr:r.1≠.normal):∃n,A.iter f n v σ=some r:=by obtain⟨e,v',σ'⟩:=r;refine⟨1,?_⟩;cases e<;>first|(simp [A.iter,h];done)|exact absurd rfl hr
theorem mO{α S R γ:Type}{f:an→Heap→Option (AX×an×Heap)}(l:List α)(body:List α→α→S→Rd S R)(st:List α→S→an)(hp:List α→S→Heap)
  (fin:S→AX×an×Heap) (out:List α→S→R→AX×an×Heap) (P:List α→S→Prop) (s0:S) {k:AX×an×Heap→Option γ} (K1:S→Option γ) (K2:R→Option γ)
  (hstep:∀pre x rest s,l=pre++x::rest→P pre s→f (st pre s) (hp pre s)=some ((body pre x s).el (λs'=>(.normal,st (pre++[x]) s',hp (pre++[x]) s')) (λr=>out pre s r)))
  (hend:∀s,P l s→f (st l s) (hp l s)=some (fin s)) (h0:P [] s0)
  (hP:∀pre x rest s s',l=pre++x::rest→P pre s→body pre x s=.go s'→P (pre++[x]) s')
  (hk1:∀s,P l s→k (fin s)=K1 s) (hk2:∀pre x rest s r,l=pre++x::rest→P pre s→body pre x s=.out r→k (out pre s r)=K2 r)
  (GK:∀s,(fin s).1≠.normal:=by intros;simp) (hout:∀pre s r,(out pre s r).1≠.normal:=by intros;simp) {v:an} {σ:Heap} (hv:v=st [] s0:=by rfl) (dG:σ=hp [] s0:=by rfl):
  (A.loop f v σ).bind k=(gy body [] l s0).el K1 K2:=by
 have key:∀(rest pre:List α)(s:S),l=pre++rest→P pre s→∃q,(∃n,A.iter f n (st pre s) (hp pre s)=some q)∧k q=(gy body pre rest s).el K1 K2:=by
  intro rest;induction rest with
  |nil=>intro pre s hl hp';rw[List.append_nil]at hl;subst hl;exact⟨fin s,nO (hend s hp') (GK s),by rw[gy,td,hk1 s hp']⟩
  |cons x rest ih=>
   intro pre s hl hp';have h:=hstep pre x rest s hl hp';rw[gy];cases hb:body pre x s with
   |go s'=>rw[hb]at h;obtain⟨q,h1,h2⟩:=ih (pre++[x]) s' (by simpa using hl) (hP pre x rest s s' hl hp' hb);exact⟨q,wz h h1,h2⟩
   |out r=>rw[hb]at h;exact⟨out pre s r,nO h (hout pre s r),by rw[sZ,hk2 pre x rest s r hl hp' hb]⟩
 obtain⟨q,⟨n,h1⟩,h2⟩:=key l [] s0 rfl h0;rw[hv,dG,uq h1,aC,h2]
theorem BB{α:Type}{body:List α→α→Unit→Rd Unit Int}{lV:List α→List α→Int}(h0:∀pre,lV pre []=0)(h:∀pre x rest,lV pre (x::rest)=(body pre x ()).el (λ_=>lV (pre++[x]) rest) (λr=>r)) {γ:Type} (K:Int→γ):
  ∀(l pre:List α),(gy body pre l ()).el (λ_=>K 0) K=K (lV pre l)
 |[],pre=>by rw[gy,h0];rfl
 |x::l,pre=>by
  rw[gy,h];cases body pre x ()with
  |go s=>exact BB h0 h K l (pre++[x])
  |out r=>rfl
theorem mQ{α:Type}{l pre rest:List α}{x:α}(h:l=pre++x::rest):l[pre.length]? =some x:=by rw[h];simp
theorem nS{α:Type}{l pre rest:List α}{x:α}(h:l=pre++x::rest):pre.length<l.length:=by rw[h];simp
theorem KT{α:Type}{l pre rest:List α}{x:α}(h:l=pre++x::rest)(h0:0<pre.length):∃y,pre.getLast? =some y∧l[pre.length-1]? =some y:=by
 cases hp:pre.getLast? with
 |none=>rw[List.getLast?_eq_none_iff]at hp;subst hp;simp at h0
 |some y=>refine⟨y,rfl,?_⟩;rw[h,eG (by omega),←hp,List.getLast?_eq_getElem?]
theorem Kw{γ:Type}{p:UInt8→Bool}{f:an→Heap→Option (AX×an×Heap)}(s:ByteArray){σ:Heap}{k:AX×an×Heap→Option γ}(K2:Option γ)
  (hstep:∀(i:Nat)(c:UInt8),i<s.size→A.mE (.str s) (.aj (i:Int))=some (.int .u8 c.toNat)→f [.bool false,.aj (i:Int)] σ=if p c=true then some (.normal,[.bool false,.aj ((i:Int)+1)],σ)else some (.ret,[.bool false,.aj (i:Int)],σ))
  (hend:f [.bool false,.aj (s.size:Int)] σ=some (.exit 0,[.bool false,.aj (s.size:Int)],σ)) (hk2:∀i:Int,k (.ret,[.bool false,.aj i],σ)=K2):
  (A.loop f [.bool false,.aj 0] σ).bind k=if s.data.toList.all p=true then k (.exit 0,[.bool false,.aj (s.size:Int)],σ)else K2:=by
 have hsz:s.data.toList.length=s.size:=rfl
 refine(mO (S:=Unit) (R:=Unit) s.data.toList (λ_ c _=>if p c=true then .go ()else .out ()) (λpre _=>[.bool false,.aj (pre.length:Int)]) (λ_ _=>σ) (λ_=>(.exit 0,[.bool false,.aj (s.size:Int)],σ)) (λpre _ _=>(.ret,[.bool false,.aj (pre.length:Int)],σ)) (λ_ _=>True) ()
  (λ_=>k (.exit 0,[.bool false,.aj (s.size:Int)],σ)) (λ_=>K2) ?_ ?_ trivial (λ_ _ _ _ _ _ _ _=>trivial) (λ_ _=>rfl) (λ_ _ _ _ _ _ _ _=>hk2 _)).trans ?_
 ·intro pre c rest u hl _;have hlt:=nS hl;have hc:=mQ hl;rw[hsz]at hlt
  have hsi:A.mE (.str s) (.aj (pre.length:Int))=some (.int .u8 c.toNat):=by have h2:s[pre.length]=c:=(bK.1 hc).2;simp [A.mE,A.idx,hlt,h2]
  rw[hstep pre.length c hlt hsi];cases p c<;>simp [Rd.el]
 ·intro u _;rw[hsz];exact hend
 ·have key:∀(l pre:List UInt8),(gy (λ(_:List UInt8)c(_:Unit)=>if p c=true then(Rd.go ():Rd Unit Unit)else .out ()) pre l ()).el (λ_=>k (.exit 0,[.bool false,.aj (s.size:Int)],σ)) (λ_=>K2)=if l.all p=true then k (.exit 0,[.bool false,.aj (s.size:Int)],σ)else K2:=by
   intro l;induction l with
   |nil=>intro pre;simp [gy,Rd.el]
   |cons c l ih=>
    intro pre;rw[gy];cases hc:p c
    ·simp [hc,Rd.el]
    ·simp only[if_true];rw[ih];simp [hc]
  exact key s.data.toList []
section
variable {α : Type} (g : α → ByteArray) (gi : α → Int) (v : α → AV)
theorem L9(k:ByteArray):∀(l:List α),A.find .z (.str k) (l.map λx=>(AV.str (g x),v x))=some ((l.find? λx=>decide (k=g x)).map v)
 |[]=>rfl
 |x::l=>by
  simp only[eT,A.find,A.dr,A.kZ,aC,List.find?];by_cases h:k=g x
  ·rw[bq];simp [h]
  ·rw[bq];simp [h,L9 k l]
theorem L7(kk:IntKind)(k:Int):∀(l:List α),A.find .i (.int kk k) (l.map λx=>(AV.int kk (gi x),v x))=some ((l.find? λx=>decide (k=gi x)).map v)
 |[]=>rfl
 |x::l=>by
  simp only[eT,A.find,A.dr,A.jG,if_true,aC,List.find?];by_cases h:k=gi x
  ·have:(k==gi x)=true:=by simpa using h
   simp [this,h]
  ·have:(k==gi x)=false:=by simpa using h
   simp [this,h,L7 kk k l]
theorem Gt{k:ByteArray}{w:AV}:∀{l:List α},(∀x∈l,g x≠k)→A.upd .z (.str k) w (l.map λx=>(AV.str (g x),v x))=some ((l.map λx=>(AV.str (g x),v x))++[(.str k,w)])
 |[],_=>rfl
 |x::l,h=>by
  have h1:(k==g x)=false:=by rw[bq];exact bZ λe:k=g x=>h x (by simp) e.symm
  simp only[eT,A.upd,A.dr,A.kZ,aC,h1,aQ];rw[Gt (λy hy=>h y (by simp [hy]))];rfl
theorem Gs{kk:IntKind}{k:Int}{w:AV}:∀{l:List α},(∀x∈l,gi x≠k)→A.upd .i (.int kk k) w (l.map λx=>(AV.int kk (gi x),v x))=some ((l.map λx=>(AV.int kk (gi x),v x))++[(.int kk k,w)])
 |[],_=>rfl
 |x::l,h=>by
  have h1:(k==gi x)=false:=by simpa using λe:k=gi x=>h x (by simp) e.symm
  simp only[eT,A.upd,A.dr,A.jG,if_true,aC,h1,aQ];rw[Gs (λy hy=>h y (by simp [hy]))];rfl
end
theorem uB(e:A.EK){k z:AV}{σ:Heap}{id:Nat}{es:List (AV×AV)}(hk:A.gY e k=true)(h:σ[id]? =some (.map es)):A.look e (.om id) k z σ=(A.find e k es).map λr=>r.getD z:=by simp [A.look,hk,A.entries,h]
theorem yX(e:A.EK){k w:AV}{σ:Heap}{id:Nat}{es:List (AV×AV)}(hk:A.gY e k=true)(h:σ[id]? =some (.map es)):A.gO e (.om id) k w σ=(A.upd e k w es).map λes=>σ.set id (.map es):=by simp [A.gO,hk,h]
theorem KQ{α:Type}(l:List α)(x:α):(((l++[x]).length:Nat):Int)=(l.length:Int)+1:=by simp
theorem JB{α:Type}(sz:Nat)(c:α→an)(l:List α){k:Nat}{x:α}(h0:0<k)(h:l[k-1]? =some x):A.aJ sz (sl sz c l) (.aj ((k:Int) -1))=some (.rp (c x)):=by have:=gW sz c l h;rwa[show((k-1:Nat):Int)=(k:Int) -1 by omega]at this
def gQ{α:Type}(g:α→ByteArray)(l:List α):List (AV×AV):=l.map λx=>(AV.str (g x),AV.bool true)
def kW{α:Type}(g:α→Int)(l:List α):List (AV×AV):=l.map λx=>(AV.aj (g x),AV.bool true)
theorem E9{α:Type}(p:α→Bool):∀(l:List α),((l.find? p).map λ_=>AV.bool true).getD bF=AV.bool (l.any p)
 |[]=>rfl
 |x::l=>by
  simp only[List.find?,List.any_cons];cases h:p x
  ·simpa using E9 p l
  ·rfl
theorem Kn{α:Type}(g:α→ByteArray)(k:ByteArray)(l:List α):(A.find .z (.str k) (gQ g l)).map (λr=>r.getD (.bool false))=some (.bool (fD k (l.map g))):=by unfold gQ;rw[L9 g (λ_=>AV.bool true) k l,dN,E9];refine congrArg some (congrArg AV.bool ?_);rw[kP,Fh];simp only[List.any_eq_true,decide_eq_true_eq,jS];exact⟨λ⟨x,h,e⟩=>⟨x,h,e.symm⟩,λ⟨x,h,e⟩=>⟨x,h,e.symm⟩⟩
theorem Kj{α:Type}(g:α→Int)(k:Int)(l:List α):(A.find .i (.aj k) (kW g l)).map (λr=>r.getD (.bool false))=some (.bool (fD k (l.map g))):=by unfold kW;rw[L7 g (λ_=>AV.bool true) .i64 k l,dN,E9];refine congrArg some (congrArg AV.bool ?_);rw[kP,Fh];simp only[List.any_eq_true,decide_eq_true_eq,jS];exact⟨λ⟨x,h,e⟩=>⟨x,h,e.symm⟩,λ⟨x,h,e⟩=>⟨x,h,e.symm⟩⟩
section
variable {α : Type} (g : α → ByteArray) (gi : α → Int) (l : List α) (k : ByteArray) (n : Int) (σ bs : Heap) (b0 : aX)
theorem JQ:A.look .z (.om σ.length) (.str k) (.bool false) (σ++aX.map (gQ g l)::bs)=some (.bool (fD k (l.map g))):=by rw[uB .z rfl (by rw[xw];rfl),Kn]
theorem JO:A.look .i (.om σ.length) (.aj n) (.bool false) (σ++aX.map (kW gi l)::bs)=some (.bool (fD n (l.map gi))):=by rw[uB .i rfl (by rw[xw];rfl),Kj]
theorem JR:A.look .z (.om (σ.length+1)) (.str k) (.bool false) (σ++b0::aX.map (gQ g l)::bs)=some (.bool (fD k (l.map g))):=by rw[uB .z rfl (by rw[Df];rfl),Kn]
theorem JP:A.look .i (.om (σ.length+1)) (.aj n) (.bool false) (σ++b0::aX.map (kW gi l)::bs)=some (.bool (fD n (l.map gi))):=by rw[uB .i rfl (by rw[Df];rfl),Kj]
theorem Kp(h:fD k (l.map g)=false):A.gO .z (.om σ.length) (.str k) (.bool true) (σ++aX.map (gQ g l)::bs)=some (σ++aX.map (gQ g l++[(.str k,.bool true)])::bs):=by rw[yX .z rfl (by rw[xw];rfl),gQ,Gt g _ (λx hx e=>Bx.1 h (by rw[←e];exact List.mem_map_of_mem hx)),dN,Gj];rfl
theorem Kl(h:fD n (l.map gi)=false):A.gO .i (.om σ.length) (.aj n) (.bool true) (σ++aX.map (kW gi l)::bs)=some (σ++aX.map (kW gi l++[(.aj n,.bool true)])::bs):=by rw[yX .i rfl (by rw[xw];rfl),kW,Gs gi _ (λx hx e=>Bx.1 h (by rw[←e];exact List.mem_map_of_mem hx)),dN,Gj];rfl
theorem Kq(h:fD k (l.map g)=false):A.gO .z (.om (σ.length+1)) (.str k) (.bool true) (σ++b0::aX.map (gQ g l)::bs)=some (σ++b0::aX.map (gQ g l++[(.str k,.bool true)])::bs):=by rw[yX .z rfl (by rw[Df];rfl),gQ,Gt g _ (λx hx e=>Bx.1 h (by rw[←e];exact List.mem_map_of_mem hx)),dN,lM];rfl
theorem Km(h:fD n (l.map gi)=false):A.gO .i (.om (σ.length+1)) (.aj n) (.bool true) (σ++b0::aX.map (kW gi l)::bs)=some (σ++b0::aX.map (kW gi l++[(.aj n,.bool true)])::bs):=by rw[yX .i rfl (by rw[Df];rfl),kW,Gs gi _ (λx hx e=>Bx.1 h (by rw[←e];exact List.mem_map_of_mem hx)),dN,lM];rfl
end
theorem Ko{α:Type}(g:α→ByteArray)(l:List α)(x:α):gQ g (l++[x])=gQ g l++[(.str (g x),.bool true)]:=by simp [gQ]
theorem BA(σ:Heap)(v:AV):A.quiet (some (v,σ)) σ=some v:=by simp [A.quiet]
def Fz(a:AV):Prop:=∀σ n d,A.br σ n d a=some a
def iJ(l:an):Prop:=∀σ n d,A.cX σ n d l=some l
theorem wU(k:IntKind)(n:Int):Fz (.int k n):=λ_ _ d=>by cases d<;>simp [A.br]
theorem Un(b:Bool):Fz (.bool b):=λ_ _ d=>by cases d<;>simp [A.br]
theorem FV(s:ByteArray):Fz (.str s):=λ_ _ d=>by cases d<;>simp [A.br]
theorem FU{l:an}(h:iJ l):Fz (.agg l):=λσ n d=>by cases d<;>simp [A.br,h σ n]
theorem FD:iJ []:=λ_ _ _=>by simp [A.cX]
theorem sQ{a:AV}{l:an}(h:Fz a)(k:iJ l):iJ (a::l):=λσ n d=>by simp [A.cX,h σ n d,k σ n d]
theorem V5{α:Type}{sz:Nat}{c:α→an}(h:∀x,iJ (c x))(l:List α):Fz (sl sz c l):=by
 intro σ n d
 have:A.gr σ n d (l.map c)=some (l.map c):=by
  induction l with
  |nil=>simp [A.gr]
  |cons x l ih=>simp [A.gr,h x σ n d,ih]
 cases d<;>simp [sl,A.br,this]
theorem Nf{α:Type}{c:α→an}(h:∀x,iJ (c x))(l:List α)(σ:Heap)(n d:Nat):A.gr σ n d (l.map c)=some (l.map c):=by
 induction l with
 |nil=>simp [A.gr]
 |cons x l ih=>simp [A.gr,h x σ n d,ih]
def n9{α:Type}(id sz:Nat)(l:List α):AV:=if l=[]then .aE else .os id l.length sz 0 l.length
def lN{α:Type}(sz:Nat)(c:α→an)(l:List α):Heap:=if l=[]then[]else[.arr l.length sz (l.map c)]
theorem Tx{α:Type}(sz:Nat)(c:α→an):lN sz c []=[]:=rfl
theorem R7{α:Type}{sz most:Nat}(c:α→an)(l:List α)(x:α)(σ:Heap)(h:l.length+1≤most):A.append sz most (n9 σ.length sz l) (.sl sz [c x]) (σ++lN sz c l)=some (n9 σ.length sz (l++[x]),σ++lN sz c (l++[x])):=by
 unfold n9 lN;cases l with
 |nil=>
  have h1:1≤most:=by simpa using h
  simp [A.append,A.iU,A.elems,h1]
 |cons y l=>
  have h1:l.length+1+1≤most:=by simpa using h
  simp [A.append,A.iU,A.elems,h1,xw,Gj,jA,gD]
theorem UN{α:Type}{sz:Nat}{c:α→an}(hc:∀x,iJ (c x))(l:List α)(σ:Heap)(d:Nat):A.br (σ++lN sz c l) σ.length (d+1) (n9 σ.length sz l)=some (if l=[]then .aE else sl sz c l):=by
 unfold n9 lN;split
 ·simp [A.br]
 ·rename_i hl;simp only[A.br,Nat.lt_irrefl,if_false,xw,List.getElem?_cons_zero];rw[aM (by simp)];have e:(List.take l.length (List.drop 0 (l.map c)))=l.map c:=by simp [gD]
  rw[e,yH,Nf hc];rfl
theorem Tp{α:Type}{sz:Nat}{c:α→an}(hc:∀x,iJ (c x))(l:List α)(k:IntKind)(n:Int)(σ:Heap):A.fin σ (.aG [n9 σ.length sz l,.int k n]) (σ++lN sz c l)=some (.aG [if l=[]then .aE else sl sz c l,.int k n],σ):=by
 unfold A.fin;split
 ·rename_i h;have:lN sz c l=[]:=by simpa using h
  have hl:l=[]:=by
   unfold lN at this;split at this
   ·assumption
   ·cases this
  subst hl;rfl
 ·rw[aM (by simp)]
  have:A.br (σ++lN sz c l) σ.length 8 (.aG [n9 σ.length sz l,.int k n])=some (.aG [if l=[]then .aE else sl sz c l,.int k n]):=by simp only[A.br,A.cX,UN hc,wU k n _ _ _,aC,dN]
  rw[this];rfl
theorem VM{α:Type}(sz:Nat)(c:α→an)(l:List α):A.nn (.s sz) (if l=[]then .aE else sl sz c l)=sl sz c l:=by
 split
 ·rename_i h;subst h;rfl
 ·rfl
def mZ{α:Type}(p:α→Bool)(l:List α):Int:=match l.findIdx? p with|some i=>i|none=>-1
theorem Bw{α:Type}(p:α→Bool)(l:List α):(mZ p l=-1∧(∀x∈l,p x=false)∧l.find? p=none)∨∃(k:Nat)(x:α),l[k]? =some x∧p x=true∧mZ p l=k∧l.find? p=some x∧∀(j:Nat)(y:α),j<k→l[j]? =some y→p y=false:=by
 induction l with
 |nil=>left;exact⟨rfl,by simp,rfl⟩
 |cons x l ih=>
  cases h:p x
  ·rcases ih with⟨h1,h2,h3⟩|⟨k,y,h1,h2,h3,h4,h5⟩
   ·left;refine⟨?_,?_,?_⟩
    ·unfold mZ at h1 ⊢;rw[List.findIdx?_cons,h];cases hf:l.findIdx? p with
     |none=>simp
     |some i=>rw[hf]at h1;simp at h1
    ·intro y hy;rcases dc.1 hy with rfl|hy
     ·exact h
     ·exact h2 y hy
    ·simp [List.find?,h,h3]
   ·right;refine⟨k+1,y,by simpa using h1,h2,?_,by simp [List.find?,h,h4],?_⟩
    ·unfold mZ at h3 ⊢;rw[List.findIdx?_cons,h];cases hf:l.findIdx? p with
     |none=>rw[hf]at h3;simp at h3
     |some i=>rw[hf]at h3;simp at h3 ⊢;omega
    ·intro j z hj hz;cases j with
     |zero=>simp at hz;subst hz;exact h
     |succ j=>exact h5 j z (by omega) (by simpa using hz)
  ·right;refine⟨0,x,rfl,h,?_,by simp [List.find?,h],by intro j y hj;omega⟩;unfold mZ;rw[List.findIdx?_cons,h];rfl
theorem B0{α:Type}{γ:Type}(p:α→Bool)(K1:Option γ)(K2:Int→Option γ):∀(l pre:List α),(∀x∈pre,p x=false)→(gy (λpre x(_:Unit)=>if p x=true then(Rd.out (pre.length:Int):Rd Unit Int)else .go ()) pre l ()).el (λ_=>K1) K2=if mZ p (pre++l)=-1 then K1 else K2 (mZ p (pre++l))
 |[],pre,h=>by
  have:mZ p (pre++[])=-1:=by
   rcases Bw p (pre++[])with h1|⟨k,x,h1,h2,_⟩
   ·exact h1.1
   ·have:=h x (by have:=cx h1;simpa using this);rw[h2]at this;cases this
  rw[gy,td,aM this]
 |x::l,pre,h=>by
  rw[gy];cases hx:p x
  ·simp only[Bool.false_eq_true,if_false]
   have:=B0 p K1 K2 l (pre++[x]) (λy hy=>by
    rcases dg.1 hy with hy|hy
    ·exact h y hy
    ·simp at hy;subst hy;exact hx)
   simpa using this
  ·simp only[if_true,sZ]
   have:mZ p (pre++x::l)=pre.length:=by
    rcases Bw p (pre++x::l)with h1|⟨k,y,h1,h2,h3,_,h5⟩
    ·have:=h1.2.1 x (by simp);rw[hx]at this;cases this
    ·rw[h3];rcases Nat.lt_trichotomy k pre.length with hk|hk|hk
     ·rw[eG hk]at h1;have:=h y (cx h1);rw[h2]at this;cases this
     ·omega
     ·have:=h5 pre.length x hk (by simp);rw[hx]at this;cases this
   rw[this,aK (by omega)]
theorem Kk(l:List Int)(n:Int):kW id l++[(.aj n,.bool true)]=kW id (l++[n]):=by simp [kW]
theorem SR{κ:Type}[DecidableEq κ](k x:κ)(S:List κ):fD k (S++[x])=(fD k S||decide (x=k)):=by simp [fD]
theorem Nw{α:Type}{sz:Nat}{c:α→an}{sh:List Sh}(h:∀x,A.bW sh (c x)=c x)(l:List α):A.nn (.e sz sh) (sl sz c l)=sl sz c l:=by simp only[sl,A.nn,List.map_map];congr 1;exact List.map_congr_left λx _=>h x
theorem FH(sz:Nat)(sh:List Sh):A.nn (.e sz sh) .aE=.sl sz []:=by simp [A.nn]
theorem Tt{α:Type}(sz:Nat)(c:α→an){l:List α}{k:Nat}{x:α}(h:l[k]? =some x):A.aJ sz (sl sz c l) (.aj (k:Int))=some (.rp (c x))∧(k:Int)<(l.length:Int)∧(l.length≤bV→IntKind.i64.wrap ((k:Int)+1)=(k:Int)+1):=
 ⟨gW sz c l h,by have:=(bK.1 h).1;omega,λhl=>dL (by have:=(bK.1 h).1;unfold bE;unfold bV at hl;omega)⟩
theorem SO{α γ:Type}{f:an→Heap→Option (AX×an×Heap)}(l:List α)(p:α→Bool)(vs:Nat→an)(σ:Heap)(fin:AX×an×Heap)(ret:Nat→α→AX×an×Heap){k:AX×an×Heap→Option γ}(K1:Option γ)(K2:α→Option γ)
  (hstep:∀(i:Nat)(x:α),l[i]? =some x→f (vs i) σ=if p x=true then some (ret i x)else some (.normal,vs (i+1),σ)) (hend:f (vs l.length) σ=some fin) (hk1:k fin=K1) (hk2:∀i x,k (ret i x)=K2 x)
  (GK:fin.1≠.normal:=by simp) (W5:∀i x,(ret i x).1≠.normal:=by intros;simp) {v:an} {σ':Heap} (hv:v=vs 0:=by rfl) (dG:σ'=σ:=by rfl):
  (A.loop f v σ').bind k=(l.find? p).elim K1 K2:=by
 subst hv dG
 have run:∀(l pre:List α),(gy (λ_ x(_:Unit)=>if p x=true then(Rd.out x:Rd Unit α)else .go ()) pre l ()).el (λ_=>K1) K2=(l.find? p).elim K1 K2:=by
  intro l;induction l with
  |nil=>intro pre;rfl
  |cons x l ih=>
   intro pre;rw[gy];cases h:p x
   ·simp only[Bool.false_eq_true,if_false];rw[ih,List.find?_cons,h]
   ·simp [h,Rd.el]
 refine(mO (S:=Unit) (R:=α) l (λ_ x _=>if p x=true then .out x else .go ()) (λpre _=>vs pre.length) (λ_ _=>σ') (λ_=>fin) (λpre _ x=>ret pre.length x) (λ_ _=>True) () (λ_=>K1) K2
  ?_ (λ_ _=>hend) trivial (λ_ _ _ _ _ _ _ _=>trivial) (λ_ _=>hk1) (λ_ _ _ _ _ _ _ _=>hk2 _ _) (λ_=>GK) (λ_ _ _=>W5 _ _)).trans (run l [])
 intro pre x rest u hl _;rw[hstep pre.length x (mQ hl)];cases p x<;>simp [Rd.el]
theorem yJ{α:Type}(n:Int)(B:AV→Option α)(s:Option α):((A.lss (.aj n) (.aj n)).bind λx=>A.cond x (B x) s)=s:=by simp only[oO,Int.lt_irrefl,aC,decide_false,cF]
section
variable {α β : Type}
theorem SB{c c':AV}(h:c=c')(t e:Option α):A.cond c t e=A.cond c' t e:=by rw[h]
theorem RT{c c':AV}(h:c=c')(w:Bool)(e d:Option α):A.guard c w e d=A.guard c' w e d:=by rw[h]
theorem Su{x y:Option α}(h:x=y)(f:α→Option β):x.bind f=y.bind f:=by rw[h]
attribute [congr] SB RT Su
end
theorem aO:type_of% @aC.{0,0}∧type_of% @dN.{0,0}∧type_of% @cT∧type_of% @cF∧type_of% @NT∧type_of% @NS∧type_of% @NR∧type_of% @NQ∧type_of% @gN∧type_of% @pT∧type_of% @pF∧type_of% @bh.{1}∧type_of% @aQ.{1}∧type_of% @xN∧type_of% @xk∧type_of% @xp∧type_of% @CN∧type_of% @oO∧type_of% @Gx∧type_of% @xm∧type_of% @M7∧type_of% @ML∧type_of% @MK∧type_of% @MI∧type_of% @MH∧type_of% @qu∧type_of% @nj∧type_of% @CM∧type_of% @M8∧type_of% @M9∧type_of% @MM∧type_of% @NK∧type_of% @MD∧type_of% @ME∧type_of% @MF∧type_of% @MG∧type_of% @NI∧type_of% @NJ∧type_of% @MJ∧type_of% @NG∧type_of% @NF∧type_of% @NH∧type_of% @M6∧type_of% @HV∧type_of% @NU∧type_of% @NV∧type_of% @NW∧type_of% @NX∧type_of% @NY∧type_of% @NZ∧type_of% @N0∧type_of% @N1∧type_of% @N2∧type_of% @dZ∧type_of% @FB∧type_of% @Fe∧type_of% @Lg∧type_of% @KH∧type_of% @gX∧type_of% @ite_true.{1}∧type_of% @ite_false.{1}∧type_of% @if_true.{1}∧type_of% @if_false.{1}∧type_of% @Bool.false_eq_true∧type_of% @not_true_eq_false∧type_of% @not_false_eq_true∧type_of% @decide_true∧type_of% @decide_false∧type_of% @Bool.not_true∧type_of% @Bool.not_false∧type_of% @gl.{0}∧type_of% @jT.{0}∧type_of% @List.nil_append.{0}∧type_of% @List.drop_zero.{0}∧type_of% @LI∧type_of% @LJ∧type_of% @KQ∧type_of% @Int.natCast_add∧type_of% @Int.cast_ofNat_Int∧type_of% @BA∧type_of% @td∧type_of% @sZ∧type_of% @wS∧type_of% @JQ∧type_of% @JO∧type_of% @JR∧type_of% @JP∧type_of% @Ko∧type_of% @Kp∧type_of% @Kl∧type_of% @Kq∧type_of% @Km∧type_of% @true_and∧type_of% @and_true∧type_of% @false_and∧type_of% @and_false∧type_of% @true_or∧type_of% @or_true∧type_of% @false_or∧type_of% @or_false∧type_of% @Option.getD_some.{0}∧type_of% @Option.getD_none.{0}∧type_of% @List.length_append.{0}∧type_of% @List.length_cons.{0}∧type_of% @List.length_nil.{0}∧type_of% @Nat.zero_add∧type_of% @Nat.add_zero:=
 ⟨@aC.{0,0},@dN.{0,0},@cT,@cF,@NT,@NS,@NR,@NQ,@gN,@pT,@pF,@bh.{1},@aQ.{1},@xN,@xk,@xp,@CN,@oO,@Gx,@xm,@M7,@ML,@MK,@MI,@MH,@qu,@nj,@CM,@M8,@M9,@MM,@NK,@MD,@ME,@MF,@MG,@NI,@NJ,@MJ,@NG,@NF,@NH,@M6,@HV,@NU,@NV,@NW,@NX,@NY,@NZ,@N0,@N1,@N2,@dZ,@FB,@Fe,@Lg,@KH,@gX,@ite_true.{1},@ite_false.{1},@if_true.{1},@if_false.{1},@Bool.false_eq_true,@not_true_eq_false,@not_false_eq_true,@decide_true,@decide_false,@Bool.not_true,@Bool.not_false,@gl.{0},@jT.{0},@List.nil_append.{0},@List.drop_zero.{0},@LI,@LJ,@KQ,@Int.natCast_add,@Int.cast_ofNat_Int,@BA,@td,@sZ,@wS,@JQ,@JO,@JR,@JP,@Ko,@Kp,@Kl,@Kq,@Km,@true_and,@and_true,@false_and,@and_false,@true_or,@or_true,@false_or,@or_false,@Option.getD_some.{0},@Option.getD_none.{0},@List.length_append.{0},@List.length_cons.{0},@List.length_nil.{0},@Nat.zero_add,@Nat.add_zero⟩
end
theorem Lk(x:bB):iJ (bN x):=(sQ (wU _ _) (sQ (FV _) FD))
theorem sN(x:aA):iJ (ay x):=(sQ (wU _ _) (sQ (FV _) (sQ (wU _ _) FD)))
theorem Bv(x:aT):iJ (aN x):=(sQ (wU _ _) (sQ (FV _) (sQ (V5 sN _) FD)))
instance : Inhabited ByteArray := ⟨⟨#[]⟩⟩
instance : Inhabited L1 := ⟨⟨0, 0⟩⟩
instance : Inhabited FO := ⟨⟨0, []⟩⟩
instance : Inhabited Mz := ⟨⟨0, 0, 0, 0, 0, ⟨0, []⟩⟩⟩
instance : Inhabited TU := ⟨⟨0, 0⟩⟩
instance : Inhabited kL := ⟨⟨0, 0, ⟨#[]⟩⟩⟩
instance : Inhabited gh := ⟨⟨⟨#[]⟩, 0, 0, 0, 0, false, []⟩⟩
instance : Inhabited cQ := ⟨⟨⟨#[]⟩, 0, []⟩⟩
instance : Inhabited eF := ⟨⟨0, ⟨#[]⟩, 0, 0⟩⟩
instance : Inhabited cK := ⟨⟨[], []⟩⟩
instance : Inhabited bB := ⟨⟨0, ⟨#[]⟩⟩⟩
theorem yU(a b:bB):A.dr (.s [0,2]) (.agg (bN a)) (.agg (bN b))=some (decide (a=b)):=by obtain⟨x1,x2⟩:=a;obtain⟨kX,rK⟩:=b;simp only[A.dr,bN,A.dA,A.iN,A.jG,A.o7,A.kZ,if_true,aC,dN,bq];congr 1;rw[kP];simp [and_assoc]
theorem Cm(a b:bB):A.eql (.s [0,2]) (.agg (bN a)) (.agg (bN b))=some (.bool (decide (a=b))):=by rw[A.eql,yU];rfl
theorem VH(a b:bB):A.neq (.s [0,2]) (.agg (bN a)) (.agg (bN b))=some (.bool (decide (¬(a=b)))):=by rw[A.neq,yU,dN,decide_not]
instance : Inhabited aA := ⟨⟨⟨0, ⟨#[]⟩⟩, 0⟩⟩
theorem Rl(a b:aA):A.dr (.s [0,2,0]) (.agg (ay a)) (.agg (ay b))=some (decide (a=b)):=by obtain⟨⟨x1,x2⟩,x3⟩:=a;obtain⟨⟨kX,rK⟩,tQ⟩:=b;simp only[A.dr,ay,A.dA,A.iN,A.jG,A.o7,A.kZ,if_true,aC,dN,bq];congr 1;rw[kP];simp [and_assoc]
theorem R4(a b:aA):A.neq (.s [0,2,0]) (.agg (ay a)) (.agg (ay b))=some (.bool (decide (¬(a=b)))):=by rw[A.neq,Rl,dN,decide_not]
instance : Inhabited aT := ⟨⟨0, ⟨#[]⟩, []⟩⟩
instance : Inhabited Wu := ⟨⟨[], 0, 0⟩⟩
instance : Inhabited sY := ⟨⟨0, 0⟩⟩
instance : Inhabited Cu := ⟨⟨⟨0, ⟨#[]⟩⟩, ⟨0, 0⟩, false, false, 0, 0⟩⟩
instance : Inhabited rA := ⟨⟨0, ⟨#[]⟩, 0, 0, 0, 0, ⟨0, []⟩, false, 0, []⟩⟩
instance : Inhabited Vf := ⟨⟨⟨0, ⟨#[]⟩⟩, ⟨0, 0⟩, 0⟩⟩
instance : Inhabited V1 := ⟨⟨0, 0, 0⟩⟩
instance : Inhabited MB := ⟨⟨0, []⟩⟩
instance : Inhabited JT := ⟨⟨0, 0, 0⟩⟩
instance : Inhabited Vi := ⟨⟨⟨[], []⟩, [], [], []⟩⟩
instance : Inhabited K9 := ⟨⟨0, 0, 0, 0, 0⟩⟩
instance : Inhabited Vg := ⟨⟨0, ⟨0, 0, 0, 0, 0⟩⟩⟩
instance : Inhabited Vj := ⟨⟨0, 0, 0, 0⟩⟩
instance : Inhabited M5 := ⟨⟨⟨0, ⟨#[]⟩⟩, ⟨0, 0, 0, 0, 0, ⟨0, []⟩⟩, 0, false⟩⟩
instance : Inhabited Sq := ⟨⟨0, 0, 0, false, 0, []⟩⟩
instance : Inhabited Jb := ⟨⟨0, 0, 0⟩⟩
instance : Inhabited La := ⟨⟨0, 0, 0, 0, 0, 0, false, false, []⟩⟩
instance : Inhabited MC := ⟨⟨0, 0⟩⟩
instance : Inhabited S9 := ⟨⟨⟨0, 0, 0, 0, 0, 0, false, false, []⟩, [], 0, [], 0, 0, 0⟩⟩
section
def Rf{β τ:Type}(M:Option β)(T:Option τ)(Q:τ→β→Prop):Prop:=∀t,T=some t→∃b,M=some b∧Q t b
section
variable {α β ω τ ζ : Type}
theorem aI{M0:Option α}{K:α→Option β}{T:Option τ}{Q:τ→β→Prop}(a:α)(h:M0=some a)(k:Rf (K a) T Q):Rf (M0.bind K) T Q:=by intro t ht;obtain⟨b,h1,h2⟩:=k t ht;exact⟨b,by rw[h];exact h1,h2⟩
theorem tP{M0:Option α}{K:α→Option β}{o:Option ω}{K':ω→Option τ}{Q:τ→β→Prop}(e:ω→α)(h:∀t,o=some t→M0=some (e t))(k:∀t,o=some t→Rf (K (e t)) (K' t) Q):Rf (M0.bind K) (o.bind K') Q:=by intro t ht;obtain⟨x,h1,h2⟩:=aY.1 ht;obtain⟨b,h3,h4⟩:=k x h1 t h2;exact⟨b,by rw[h x h1];exact h3,h4⟩
theorem gj{t:τ}{b:β}{Q:τ→β→Prop}(h:Q t b):Rf (some b) (some t) Q:=by intro u hu;cases hu;exact⟨b,rfl,h⟩
theorem gL{M:Option β}{t:τ}{Q:τ→β→Prop}(b:β)(e:M=some b)(h:Q t b):Rf M (some t) Q:=by rw[e];exact gj h
theorem UZ{M:Option β}{Q:τ→β→Prop}:Rf M (none:Option τ) Q:=by intro u hu;cases hu
theorem Wq{M:Option β}{p:Prop}[Decidable p]{T:Option τ}{Q:τ→β→Prop}(h:p→Rf M T Q):Rf M (if p then T else none) Q:=by
 split
 ·exact h ‹_›
 ·exact UZ
theorem qp{p:Prop}[Decidable p]{X Y:Option β}{X' Y':Option τ}{Q:τ→β→Prop}(h1:p→Rf X X' Q)(h2:¬p→Rf Y Y' Q):Rf (A.cond (.bool (decide p)) X Y) (if p then X' else Y') Q:=by
 by_cases h:p
 ·simp only[h,decide_true,if_true];exact h1 h
 ·simp only[h,decide_false,if_false];exact h2 h
theorem tC{c:Bool}{X Y:Option β}{X' Y':Option τ}{Q:τ→β→Prop}(h1:c=true→Rf X X' Q)(h2:c=false→Rf Y Y' Q):Rf (A.cond (.bool c) X Y) (if c=true then X' else Y') Q:=by
 cases c
 ·exact h2 rfl
 ·exact h1 rfl
theorem xg{X Y:Option β}{T:Option τ}{Q:τ→β→Prop}(h:Rf X T Q):Rf (A.cond (.bool true) X Y) T Q:=h
theorem xe{X Y:Option β}{T:Option τ}{Q:τ→β→Prop}(h:Rf Y T Q):Rf (A.cond (.bool false) X Y) T Q:=h
theorem oJ{c:Bool}{X Y:Option β}{T:Option τ}{Q:τ→β→Prop}(e:c=true)(h:Rf X T Q):Rf (bif c then X else Y) T Q:=by rw[e];exact h
theorem zj{c:Bool}{X Y:Option β}{T:Option τ}{Q:τ→β→Prop}(e:c=false)(h:Rf Y T Q):Rf (bif c then X else Y) T Q:=by rw[e];exact h
def gv{α:Type}(g:Bool)(e:α→AV)(t:α):AV:=bif g then e t else .aG []
end
inductive Lr (S B R : Type) where
 |go(s:S)
 |xC(b:B)
 |ret(r:R)
def gM{α S B R:Type}(body:Nat→α→S→Option (Lr S B R))(fin:S→Option B):List α→Nat→S→Option (B ⊕ R)
 |[],_,s=>(fin s).map .inl
 |x::l,i,s=>(body i x s).bind λq=>match q with|.go s'=>gM body fin l (i+1) s'|.xC b=>some (.inl b)|.ret r=>some (.inr r)
def kS{α S B R γ:Type}(l:List α)(body:Nat→α→S→Option (Lr S B R))(fin:S→Option B)(s:S)(K1:B→Option γ)(K2:R→Option γ):Option γ:=
 if l.length≤bV then(gM body fin l 0 s).bind λq=>q.elim K1 K2 else none
section
variable {α S B R β τ : Type}
abbrev LS:=AX×an×Heap
def C6(I:S→an→Heap→Prop)(QB:B→LS→Prop)(QR:R→LS→Prop)(t:Lr S B R)(q:LS):Prop:=match t with
 |.go s=>q.1=.normal∧I s q.2.1 q.2.2
 |.xC b=>q.1≠.normal∧QB b q
 |.ret r=>q.1≠.normal∧QR r q
theorem wZ{I:S→an→Heap→Prop}{QB:B→LS→Prop}{QR:R→LS→Prop}{s:S}{v:an}{σ:Heap}(h:I s v σ):C6 I QB QR (.go s) (.normal,v,σ):=⟨rfl,h⟩
theorem U0{I:S→an→Heap→Prop}{QB:B→LS→Prop}{QR:R→LS→Prop}{b:B}{q:LS}(n:q.1≠.normal)(h:QB b q):C6 I QB QR (.xC b) q:=⟨n,h⟩
theorem oF{I:S→an→Heap→Prop}{QB:B→LS→Prop}{QR:R→LS→Prop}{r:R}{q:LS}(n:q.1≠.normal)(h:QR r q):C6 I QB QR (.ret r) q:=⟨n,h⟩
theorem wY{f:an→Heap→Option LS}{K:LS→Option β}{Q:τ→β→Prop}{l:List α}{body:Nat→α→S→Option (Lr S B R)}{fin:S→Option B}{s0:S}{K1:B→Option τ}{K2:R→Option τ}{v0:an}{aL:Heap}
  (I:Nat→S→an→Heap→Prop) (QB:B→LS→Prop) (QR:R→LS→Prop)
  (hstep:l.length≤bV→∀i x s v σ,l[i]? =some x→I i s v σ→Rf (f v σ) (body i x s) (C6 (I (i+1)) QB QR))
  (hend:l.length≤bV→∀s v σ,I l.length s v σ→Rf (f v σ) (fin s) (λb q=>q.1≠.normal∧QB b q))
  (h0:I 0 s0 v0 aL) (k1:l.length≤bV→∀b q,QB b q→Rf (K q) (K1 b) Q) (k2:l.length≤bV→∀r q,QR r q→Rf (K q) (K2 r) Q):
  Rf ((A.loop f v0 aL).bind K) (kS l body fin s0 K1 K2) Q:=by
 unfold kS;refine Wq λhl=>?_
 have hstep:=hstep hl;have hend:=hend hl
 have key:∀(rest pre:List α)(s:S)(v:an)(σ:Heap),l=pre++rest→I pre.length s v σ→∀t,gM body fin rest pre.length s=some t→∃q,(∃n,A.iter f n v σ=some q)∧(match t with|.inl b=>QB b q|.inr r=>QR r q):=by
  intro rest;induction rest with
  |nil=>intro pre s v σ hl hI t ht;rw[List.append_nil]at hl;subst hl;simp only[gM]at ht;obtain⟨b,hb,rfl⟩:=cq.1 ht;obtain⟨q,h1,h2,h3⟩:=hend s v σ hI b hb;exact⟨q,nO h1 h2,h3⟩
  |cons x rest ih=>
   intro pre s v σ hl hI t ht;simp only[gM]at ht;obtain⟨y,hy,h2⟩:=aY.1 ht;obtain⟨q,h3,h4⟩:=hstep pre.length x s v σ (by rw[hl];simp) hI y hy;obtain⟨e,v',σ'⟩:=q;cases y with
   |go s'=>obtain⟨rfl,Hv⟩:=h4;obtain⟨q,h5,h6⟩:=ih (pre++[x]) s' v' σ' (by simpa using hl) (by simpa using Hv) t (by simpa using h2);exact⟨q,wz h3 h5,h6⟩
   |xC b=>simp only[Option.some.injEq]at h2;subst h2;exact⟨_,nO h3 h4.1,h4.2⟩
   |ret b=>simp only[Option.some.injEq]at h2;subst h2;exact⟨_,nO h3 h4.1,h4.2⟩
 intro t ht;obtain⟨y,hy,h2⟩:=aY.1 ht;obtain⟨q,⟨n,hn⟩,h3⟩:=key l [] s0 v0 aL rfl h0 y hy;cases y with
 |inl b=>obtain⟨z,h4,h5⟩:=k1 hl b q h3 t h2;exact⟨z,by rw[uq hn];exact h4,h5⟩
 |inr b=>obtain⟨z,h4,h5⟩:=k2 hl b q h3 t h2;exact⟨z,by rw[uq hn];exact h4,h5⟩
theorem qZ{l:List α}{i:Nat}{x:α}(h:l[i]? =some x):A.lss (.aj (i:Int)) (.aj (l.length:Int))=some (.bool true):=by have:=(bK.1 h).1;rw[oO];simp;omega
theorem qQ(l:List α):A.lss (.aj (l.length:Int)) (.aj (l.length:Int))=some (.bool false):=by rw[oO];simp
theorem qS{l:List α}{i:Nat}{x:α}(h:l[i]? =some x)(hl:l.length≤bV):A.add (.aj (i:Int)) (.aj 1)=some (.aj ((i+1:Nat):Int)):=by have:=(bK.1 h).1;rw[xk,dL (by unfold bE;unfold bV at hl;omega)];simp
def pH(l:List α)(i:Int):Option α:=if 0≤i then l[i.toNat]? else none
theorem Gl{sz:Nat}{c:α→an}{l:List α}{i:Int}{x:α}(h:pH l i=some x):A.aJ sz (sl sz c l) (.aj i)=some (.rp (c x)):=by
 unfold pH at h;split at h
 ·exact SK sz c l ‹_› h
 ·cases h
theorem qR{sz:Nat}{c:α→an}{l:List α}{i:Nat}{x:α}(h:l[i]? =some x):A.aJ sz (sl sz c l) (.aj (i:Int))=some (.rp (c x)):=gW sz c l h
end
theorem yN{M:au}{v:AV}{σ:Heap}(h:M=some (v,σ)):A.quiet M σ=some v:=by rw[h,BA]
noncomputable def tq {α:Type} (p:Prop) (x:α):Option α:=open Classical in if p then some x else none
theorem ze{α:Type}{p:Prop}{x:α}(h:p):tq p x=some x:=aM h
theorem CK{α β:Type}{p:Prop}{x r:α}{M:Option β}{e:α→β}(h:p→M=some (e x))(k:tq p x=some r):M=some (e r):=by
 unfold tq at k;split at k
 ·rename_i hp;injection k with k;subst k;exact h hp
 ·cases k
theorem wW(b t:Bool):A.pick (.bool b) (bif b then .bool t else .aG []) (.bool false)=some (.bool (b&&t)):=by cases b<;>rfl
theorem Wm(b t:Bool):A.pick (.bool b) (.bool true) (bif !b then .bool t else .aG [])=some (.bool (b||t)):=by cases b<;>rfl
section
variable {α β ω τ : Type} {G b : Bool} {M0 : Option AV} {K : AV → Option β} {T : Option τ} {K' : ω → Option τ} {o : Option ω} {Q : τ → β → Prop}
theorem hJ(a:AV)(h:b=true→M0=some a)(k:Rf (K (bif b then a else .aG [])) T Q):Rf ((A.guard (.bool b) true M0 (some (.aG []))).bind K) T Q:=by refine aI _ ?_ k;cases b<;>simp_all [A.guard]
theorem zk(a:AV)(h:(!b)=true→M0=some a)(k:Rf (K (bif !b then a else .aG [])) T Q):Rf ((A.guard (.bool b) false M0 (some (.aG []))).bind K) T Q:=by refine aI _ ?_ k;cases b<;>simp_all [A.guard]
theorem F5(a:AV)(h:(G&&b)=true→M0=some a)(k:Rf (K (bif G&&b then a else .aG [])) T Q):Rf ((A.guard (bif G then .bool b else .aG []) true M0 (some (.aG []))).bind K) T Q:=by refine aI _ ?_ k;cases G<;>cases b<;>simp_all [A.guard]
theorem Wp{g:Bool}{M:Option AV}{d:ω}(e:ω→AV)(hM:M=bif g then M0 else some (.aG []))(h:g=true→∀t,o=some t→M0=some (e t))(k:∀t,(g=true→o=some t)→Rf (K (bif g then e t else .aG [])) (K' t) Q):Rf (M.bind K) ((if g=true then o else some d).bind K') Q:=by
 subst hM;cases g
 ·exact k d (by simp)
 ·intro t ht;simp only[if_true]at ht;obtain⟨x,h1,h2⟩:=aY.1 ht;obtain⟨y,h3,h4⟩:=k x (λ_=>h1) t h2;refine⟨y,?_,h4⟩;simp only[bh,h rfl x h1,aC];exact h3
theorem Cr{d:ω}(e:ω→AV)(h:b=true→∀t,o=some t→M0=some (e t))(k:∀t,(b=true→o=some t)→Rf (K (bif b then e t else .aG [])) (K' t) Q):Rf ((A.guard (.bool b) true M0 (some (.aG []))).bind K) ((if b=true then o else some d).bind K') Q:=Wp e (by cases b<;>rfl) h k
end
theorem LY{ro:Bool}{cP:List Sh}{cY:Sh}{r:an→Heap→au}{args args':an}{σ:Heap}(hn:A.bW cP args=A.bW cP args')(h1:args.any A.own=false)(h2:args'.any A.own=false):A.wrap ro cP cY r args σ=A.wrap ro cP cY r args' σ:=by unfold A.wrap;rw[h1,h2,hn,Bool.and_false,aQ,aQ]
theorem FK{τ:Type}{ro:Bool}{cP:List Sh}{cY:Sh}{r:an→Heap→au}{args args':an}{σ:Heap}{T:Option τ}{enc:τ→AV}(hn:A.bW cP args=args')(h:args.any A.own=false)(e:Rf (r args' σ) T (λt b=>A.nn cY b.1=enc t∧b.2=σ)):∀t,T=some t→A.wrap ro cP cY r args σ=some (enc t,σ):=by intro t ht;obtain⟨⟨v,σ'⟩,h1,h2,h3⟩:=e t ht;simp only at h2 h3;subst h3;exact wrap_eq h (by rw[hn];exact h1) h2
theorem TC{τ:Type}{ro:Bool}{cP:List Sh}{cY:Sh}{f:AV→Heap→au}{x0 y0:AV}{σ:Heap}{T:Option τ}{enc:τ→AV}(hn:A.bW cP [x0]=[y0])(h:([x0]:an).any A.own=false)(e:Rf (f y0 σ) T (λt b=>A.nn cY b.1=enc t∧b.2=σ)):∀t,T=some t→A.wrap ro cP cY (A.fG f) [x0] σ=some (enc t,σ):=FK hn h e
theorem qN{τ:Type}{ro:Bool}{cP:List Sh}{cY:Sh}{f:AV→AV→Heap→au}{x0 x1 y0 y1:AV}{σ:Heap}{T:Option τ}{enc:τ→AV}(hn:A.bW cP [x0,x1]=[y0,y1])(h:([x0,x1]:an).any A.own=false)(e:Rf (f y0 y1 σ) T (λt b=>A.nn cY b.1=enc t∧b.2=σ)):∀t,T=some t→A.wrap ro cP cY (A.dh f) [x0,x1] σ=some (enc t,σ):=FK hn h e
theorem TD{τ:Type}{ro:Bool}{cP:List Sh}{cY:Sh}{f:AV→AV→AV→Heap→au}{x0 x1 x2 y0 y1 y2:AV}{σ:Heap}{T:Option τ}{enc:τ→AV}(hn:A.bW cP [x0,x1,x2]=[y0,y1,y2])(h:([x0,x1,x2]:an).any A.own=false)(e:Rf (f y0 y1 y2 σ) T (λt b=>A.nn cY b.1=enc t∧b.2=σ)):∀t,T=some t→A.wrap ro cP cY (A.jX f) [x0,x1,x2] σ=some (enc t,σ):=FK hn h e
end
section
inductive Ct where
 |s(sz:Nat)(es:List an)
 |m(es:List (AV×AV))
 |b(cs:an)
def qn:AV→Option Nat
 |.os id _ _ _ _=>some id
 |.om id=>some id
 |.op id _=>some id
 |_=>none
def Own(n:Nat)(σ:Heap)(p:AV×Ct):Prop:=match p.2 with
 |.s sz es=>(p.1=.aE∧es=[])∨∃id g off a,p.1=.os id g sz off es.length∧n≤id∧σ[id]? =some (.arr g sz a)∧off≤a.length∧a.drop off=es
 |.m es=>∃id,p.1=.om id∧n≤id∧σ[id]? =some (.map es)
 |.b cs=>∃id,p.1=.op id 0∧n≤id∧σ[id]? =some (.box cs)
structure Hp (aL σ : Heap) (L : List (AV × Ct)) : Prop where
 pre:∃bs,σ=aL++bs
 own:∀(i:Nat)p,L[i]? =some p→Own aL.length σ p
 sep:∀(i j:Nat)p q a,L[i]? =some p→L[j]? =some q→qn p.1=some a→qn q.1=some a→i=j
section
variable {aL σ σ' : Heap} {L : List (AV × Ct)} {n : Nat}
theorem Vz(σ:Heap):Hp σ σ []:=⟨⟨[],by simp⟩,by simp,by simp⟩
theorem F1{p:AV×Ct}{a:Nat}(h:Own n σ p)(e:qn p.1=some a):n≤a∧a<σ.length:=by
 obtain⟨v,c⟩:=p;cases c with
 |s sz es=>
  rcases h with⟨h1,_⟩|⟨id,g,off,x,h1,h2,h3,_⟩
  ·simp only at h1;subst h1;cases e
  ·simp only at h1;subst h1;injection e with e;subst e;exact⟨h2,(bK.1 h3).1⟩
 |m es=>obtain⟨id,h1,h2,h3⟩:=h;simp only at h1;subst h1;injection e with e;subst e;exact⟨h2,(bK.1 h3).1⟩
 |b es=>obtain⟨id,h1,h2,h3⟩:=h;simp only at h1;subst h1;injection e with e;subst e;exact⟨h2,(bK.1 h3).1⟩
theorem KS{p:AV×Ct}(h:Own n σ p)(k:∀a,qn p.1=some a→σ'[a]? =σ[a]?):Own n σ' p:=by
 obtain⟨v,c⟩:=p;cases c with
 |s sz es=>
  rcases h with h|⟨id,g,off,x,h1,h2,h3,h4⟩
  ·exact .inl h
  ·simp only at h1;subst h1;exact .inr ⟨id,g,off,x,rfl,h2,by rw[k id rfl];exact h3,h4⟩
 |m es=>obtain⟨id,h1,h2,h3⟩:=h;simp only at h1;subst h1;exact⟨id,rfl,h2,by rw[k id rfl];exact h3⟩
 |b es=>obtain⟨id,h1,h2,h3⟩:=h;simp only at h1;subst h1;exact⟨id,rfl,h2,by rw[k id rfl];exact h3⟩
theorem UQ(h:∃bs,σ=aL++bs){id:Nat}(hn:aL.length≤id)(b:aX):∃bs,σ.set id b=aL++bs:=by obtain⟨bs,rfl⟩:=h;exact⟨bs.set (id-aL.length) b,by rw[nZ _ _ hn]⟩
theorem VA(H:Hp aL σ L){k id:Nat}{h h':AV}{c c':Ct}{b:aX}(hk:L[k]? =some (h,c))(hi:qn h=some id)(hi':qn h'=some id)(ho:Own aL.length (σ.set id b) (h',c')):Hp aL (σ.set id b) (L.set k (h',c')):=by
 have hid:=F1 (H.own k _ hk) hi;have tZ:=(bK.1 hk).1;refine⟨UQ H.pre hid.1 b,λi p hp=>?_,λi j p q a hp hq e1 e2=>?_⟩
 ·rw[eS]at hp;split at hp
  ·rename_i e;subst e;simp [tZ]at hp;subst hp;exact ho
  ·rename_i e;refine KS (H.own i p hp) λa ha=>?_
   rw[eS];split
   ·rename_i e';subst e';exact absurd (H.sep k i _ _ id hk hp hi ha) e
   ·rfl
 ·have key:∀(i:Nat)(p:AV×Ct),(L.set k (h',c'))[i]? =some p→qn p.1=some a→∃p',L[i]? =some p'∧qn p'.1=some a:=by
   intro i p hp e;rw[eS]at hp;split at hp
   ·rename_i e';subst e';simp [tZ]at hp;subst hp;exact⟨_,hk,by rw[hi];rw[hi']at e;exact e⟩
   ·exact⟨p,hp,e⟩
  obtain⟨p',hp',XN⟩:=key i p hp e1;obtain⟨q',sk,zY⟩:=key j q hq e2;exact H.sep i j p' q' a hp' sk XN zY
theorem Uv(H:Hp aL σ L){h':AV}{c':Ct}{b:aX}(hi':qn h'=some σ.length)(ho:Own aL.length (σ++[b]) (h',c')):Hp aL (σ++[b]) (L++[(h',c')]):=by
 refine⟨?_,λi p hp=>?_,λi j p q a hp hq e1 e2=>?_⟩
 ·obtain⟨bs,rfl⟩:=H.pre;exact⟨bs++[b],by simp⟩
 ·rw[List.getElem?_append]at hp;split at hp
  ·refine KS (H.own i p hp) λa ha=>?_
   have:=(F1 (H.own i p hp) ha).2;rw[eG this]
  ·have hp':=(bK.1 hp).2;simp at hp';subst hp';exact ho
 ·have key:∀(i:Nat)(p:AV×Ct),(L++[(h',c')])[i]? =some p→qn p.1=some a→(i=L.length∧a=σ.length)∨(L[i]? =some p∧a<σ.length):=by
   intro i p hp e;rw[List.getElem?_append]at hp;split at hp
   ·exact .inr ⟨hp,(F1 (H.own i p hp) e).2⟩
   ·obtain⟨h1,h2⟩:=bK.1 hp;simp at h1 h2;subst h2;rw[hi']at e;injection e with e;exact .inl ⟨by omega,e.symm⟩
  rcases key i p hp e1 with⟨a1,a2⟩|⟨a1,a2⟩<;>rcases key j q hq e2 with⟨b1,b2⟩|⟨b1,b2⟩
  ·omega
  ·omega
  ·omega
  ·exact H.sep i j p q a a1 b1 e1 e2
theorem We(H:Hp aL σ L):Hp aL (σ++[.map []]) (L++[(.om σ.length,.m [])]):=by
 have hl:aL.length≤σ.length:=by obtain⟨bs,rfl⟩:=H.pre;simp
 exact Uv H rfl ⟨σ.length,rfl,hl,by simp⟩
theorem Uu(H:Hp aL σ L){k:Nat}{h key v:AV}{ek:A.EK}{es es':List (AV×AV)}(hk:L[k]? =some (h,.m es))(hok:A.gY ek key=true)(he:A.upd ek key v es=some es'):∃σ',A.gO ek h key v σ=some σ'∧Hp aL σ' (L.set k (h,.m es')):=by obtain⟨id,h1,h2,h3⟩:=H.own k _ hk;simp only at h1 h3;subst h1;have hid:=(bK.1 h3).1;exact⟨σ.set id (.map es'),by simp [A.gO,hok,h3,he],VA H hk rfl rfl ⟨id,rfl,h2,by simp [hid]⟩⟩
def ND(aL σ:Heap)(r r':AV):Prop:=(∀d,A.br σ aL.length (d+1) r=some r')∧(σ=aL→r'=r)
theorem gZ{s1:Sh}{v1 w1:AV}{ss:List Sh}{vs ws:an}(h1:A.nn s1 v1=w1)(h2:A.bW ss vs=ws):A.bW (s1::ss) (v1::vs)=w1::ws:=by simp only[A.bW,h1,h2]
theorem Lj(d:Nat):∀{es:List (AV×AV)},(∀p∈es,Fz p.1∧Fz p.2)→A.tg σ n d es=some es
 |[],_=>by simp [A.tg]
 |(k,v)::es,h=>by have h1:=h (k,v) (by simp);simp only[A.tg,h1.1 σ n d,h1.2 σ n d,aC,Lj d (es:=es) (λp hp=>h p (by simp [hp])),dN]
theorem Vu(H:Hp aL σ L){k:Nat}{h:AV}{es:List (AV×AV)}(hk:L[k]? =some (h,.m es))(hc:∀p∈es,Fz p.1∧Fz p.2):ND aL σ h (.fm es):=by
 obtain⟨id,h1,h2,h3⟩:=H.own k _ hk;simp only at h1 h3;subst h1;refine⟨λd=>?_,λe=>?_⟩
 ·simp only[A.br,Nat.not_lt.2 h2,if_false,h3,Lj d hc,dN]
 ·subst e;have:=(bK.1 h3).1;omega
theorem Vy(H:Hp aL σ L){r r':AV}(h:ND aL σ r r'):A.fin aL r σ=some (r',aL):=by
 obtain⟨bs,hb⟩:=H.pre;subst hb;by_cases nu:bs=[]
 ·subst nu;rw[List.append_nil]at h ⊢;rw[dZ,h.2 rfl]
 ·unfold A.fin;rw[aK (by simpa using nu),aM (by simp),h.1 7];rfl
end
section
variable {κ ν : Type} [DecidableEq κ]
def iG(k:κ):List (κ×ν)→Option ν
 |[]=>none
 |(k',v)::r=>if k=k' then some v else iG k r
def lP(k:κ)(v:ν):List (κ×ν)→List (κ×ν)
 |[]=>[(k,v)]
 |(k',v')::r=>if k=k' then(k,v)::r else(k',v')::lP k v r
variable {ek : A.EK} {eK : κ → AV} {eV : ν → AV} (hq : ∀ a b, A.dr ek (eK a) (eK b) = some (decide (a = b)))
include hq
theorem L8(k:κ):∀l:List (κ×ν),A.find ek (eK k) (l.map λp=>(eK p.1,eV p.2))=some ((iG k l).map eV)
 |[]=>rfl
 |(k',v)::r=>by
  simp only[eT,A.find,hq,aC,iG];by_cases h:k=k'
  ·simp [h]
  ·simp [h,L8 k r]
theorem M3(k:κ)(v:ν):∀l:List (κ×ν),A.upd ek (eK k) (eV v) (l.map λp=>(eK p.1,eV p.2))=some ((lP k v l).map λp=>(eK p.1,eV p.2))
 |[]=>rfl
 |(k',v')::r=>by
  simp only[eT,A.upd,hq,aC,lP];by_cases h:k=k'
  ·simp [h]
  ·simp [h,M3 k v r]
end
theorem getD_map{α:Type}(o:Option α)(f:α→AV)(d:α):(o.map f).getD (f d)=f (o.getD d):=by cases o<;>rfl
def va{κ ν:Type}(eK:κ→AV)(eV:ν→AV)(l:List (κ×ν)):AV:=.fm (l.map λp=>(eK p.1,eV p.2))
section
variable {κ ν : Type} [DecidableEq κ] {ek : A.EK} {eK : κ → AV} {eV : ν → AV} {aL σ : Heap} {L : List (AV × Ct)} {h : AV} {l : List (κ × ν)}
theorem Uw(H:Hp aL σ L)(k:Nat)(hk:L[k]? =some (h,.m (l.map λp=>(eK p.1,eV p.2)))) (hq:∀a b,A.dr ek (eK a) (eK b)=some (decide (a=b))) (x:κ) (v:ν) (hok:A.gY ek (eK x)=true):∃σ',A.gO ek h (eK x) (eV v) σ=some σ'∧Hp aL σ' (L.set k (h,.m ((lP x v l).map λp=>(eK p.1,eV p.2)))):=Uu H hk hok (M3 hq x v l)
theorem KJ(hq:∀a b,A.dr ek (eK a) (eK b)=some (decide (a=b)))(x:κ)(z:ν)(hok:A.gY ek (eK x)=true):A.look ek (va eK eV l) (eK x) (eV z) σ=some (eV ((iG x l).getD z)):=by simp only[A.look,va,hok,bh,A.entries,aC,L8 hq,dN,getD_map]
end
section
variable {α : Type} {c : α → an} {l ys : List α} {aL σ : Heap} {L : List (AV × Ct)} {h : AV} {sz : Nat}
end
end
section
def HP:=(Nat→Option aX)→Prop
namespace HP
def emp:HP:=λh=>∀i,h i=none
def blk(id:Nat)(b:aX):HP:=λh=>∀i,h i=if i=id then some b else none
def star(P Q:HP):HP:=λh=>∃f g,P f∧Q g∧(∀i,f i=none∨g i=none)∧∀i,h i=(f i).or (g i)
def pr(p:Prop):HP:=λh=>p∧∀i,h i=none
def ex{α:Type}(P:α→HP):HP:=λh=>∃x,P x h
instance : Mul HP := ⟨star⟩
theorem Kt(P Q:HP):P*Q=Q*P:=by
 have key:∀P Q:HP,∀h,(P*Q) h→(Q*P) h:=by rintro P Q h ⟨f,g,hf,hg,hd,hh⟩;refine⟨g,f,hg,hf,λi=>(hd i).symm,λi=>?_⟩;rw[hh i];rcases hd i with e|e<;>rw[e]<;>simp
 funext h;exact propext ⟨key P Q h,key Q P h⟩
theorem wq(P Q R:HP):P*Q*R=P*(Q*R):=by
 funext h;apply propext;constructor
 ·rintro⟨f,g,⟨f1,f2,h1,h2,HB,hf⟩,hg,hd,hh⟩;refine⟨f1,λi=>(f2 i).or (g i),h1,⟨f2,g,h2,hg,λi=>?_,λi=>rfl⟩,λi=>?_,λi=>?_⟩
  ·have:=hd i;rw[hf i]at this;rcases this with e|e
   ·cases h:f1 i<;>simp [h]at e<;>exact .inl e
   ·exact .inr e
  ·have a:=hd i;have b:=HB i;rw[hf i]at a;rcases b with b|b
   ·exact .inl b
   ·rcases a with a|a
    ·cases h:f1 i<;>simp [h]at a;exact .inl rfl
    ·exact .inr (show(f2 i).or (g i)=none by rw[b,a];rfl)
  ·rw[hh i,hf i];cases f1 i<;>simp
 ·rintro⟨f,g,hf,⟨g1,g2,h1,h2,HB,hg⟩,hd,hh⟩;refine⟨λi=>(f i).or (g1 i),g2,⟨f,g1,hf,h1,λi=>?_,λi=>rfl⟩,h2,λi=>?_,λi=>?_⟩
  ·have:=hd i;rw[hg i]at this;rcases this with e|e
   ·exact .inl e
   ·cases h:g1 i<;>simp [h]at e;exact .inr rfl
  ·have a:=hd i;have b:=HB i;rw[hg i]at a;rcases b with b|b
   ·rcases a with a|a
    ·exact .inl (show(f i).or (g1 i)=none by rw[a,b];rfl)
    ·rw[b]at a;exact .inr (by simpa using a)
   ·exact .inr b
  ·show h i=((f i).or (g1 i)).or (g2 i);rw[hh i,hg i];cases f i<;>simp
theorem uz(P:HP):emp*P=P:=by
 funext h;apply propext;constructor
 ·rintro⟨f,g,hf,hg,hd,hh⟩;have:h=g:=by funext i;rw[hh i,hf i];rfl
  rw[this];exact hg
 ·intro hp;exact⟨λ_=>none,h,λ_=>rfl,hp,λ_=>.inl rfl,λi=>by simp⟩
theorem TO(P:HP):P*emp=P:=by rw[Kt,uz]
instance : Std.Associative (α := HP) (· * ·) := ⟨wq⟩
instance : Std.Commutative (α := HP) (· * ·) := ⟨Kt⟩
end HP
open HP
structure Hs (B : aX → Prop) (aL σ : Heap) (P : HP) : Prop where
 pre:∃bs,σ=aL++bs∧∀b∈bs,B b
 own:∃h,P h∧∀i b,h i=some b→aL.length≤i∧σ[i]? =some b
def eH:aX→Prop:=λ_=>True
section
variable {B : aX → Prop} {aL σ : Heap} {P Q R : HP} {id : Nat} {b b' : aX}
theorem iW(e:P=Q)(H:Hs B aL σ P):Hs B aL σ Q:=e▸H
theorem Lo(k:∀h,P h→Q h)(H:Hs B aL σ (P*R)):Hs B aL σ (Q*R):=by obtain⟨h1,h,⟨f,g,hf,hg,hd,hh⟩,h2⟩:=H;exact⟨h1,h,⟨f,g,k f hf,hg,hd,hh⟩,h2⟩
theorem FE(H:Hs B aL σ (P*R)):Hs B aL σ R:=by
 obtain⟨h1,h,⟨f,g,hf,hg,hd,hh⟩,h2⟩:=H;refine⟨h1,g,hg,λi b hb=>h2 i b ?_⟩;rw[hh i];rcases hd i with e|e
 ·rw[e,hb];rfl
 ·rw[e]at hb;cases hb
theorem qY{p:Prop}:Hs B aL σ (pr p*R)↔p∧Hs B aL σ R:=by
 constructor
 ·intro H;refine⟨?_,FE H⟩;obtain⟨h1,h,⟨f,g,hf,hg,hd,hh⟩,h2⟩:=H;exact hf.1
 ·rintro⟨hp,h1,h,hr,h2⟩;exact⟨h1,h,⟨λ_=>none,h,⟨hp,λ_=>rfl⟩,hr,λ_=>.inl rfl,λi=>by simp⟩,h2⟩
theorem Co(σ:Heap):Hs B σ σ emp:=⟨⟨[],by simp,by simp⟩,λ_=>none,λ_=>rfl,λ_ _ h=>by cases h⟩
theorem VB(H:Hs B aL σ P):aL.length≤σ.length:=by obtain⟨⟨bs,rfl,_⟩,_⟩:=H;simp
theorem nR(H:Hs B aL σ (blk id b*R)):aL.length≤id∧σ[id]? =some b:=by obtain⟨h1,h,⟨f,g,hf,hg,hd,hh⟩,h2⟩:=H;exact h2 id b (by rw[hh id,hf id];simp)
theorem No(H:Hs B aL σ (blk id b*R)):B b:=by obtain⟨h1,h2⟩:=nR H;obtain⟨⟨bs,rfl,hb⟩,_⟩:=H;rw[eC h1]at h2;exact hb b (cx h2)
theorem zb(H:Hs B aL σ (blk id b*R))(hb:B b'):Hs B aL (σ.set id b') (blk id b'*R):=by
 obtain⟨hid,gE⟩:=nR H;have hlt:=(bK.1 gE).1;obtain⟨⟨bs,rfl,hB⟩,h,⟨f,g,hf,hg,hd,hh⟩,h2⟩:=H;refine⟨⟨bs.set (id-aL.length) b',by rw[nZ _ _ hid],λx hx=>?_⟩,λi=>if i=id then some b' else g i,⟨λi=>if i=id then some b' else none,g,λi=>rfl,hg,λi=>?_,λi=>?_⟩,λi x hx=>?_⟩
 ·rcases List.mem_or_eq_of_mem_set hx with hx|hx
  ·exact hB x hx
  ·subst hx;exact hb
 ·have:=hd i;rw[hf i]at this;by_cases e:i=id
  ·simp only[e,if_true]at this ⊢;rcases this with h|h
   ·cases h
   ·exact .inr h
  ·simp [e]
 ·by_cases e:i=id<;>simp [e]
 ·by_cases e:i=id
  ·subst e;simp only[if_true,Option.some.injEq]at hx;subst hx;exact⟨hid,by rw[jR hlt]⟩
  ·simp only[e,if_false]at hx;rw[List.getElem?_set_ne (λe'=>e e'.symm)];have:=h2 i x (by rw[hh i,hf i];simp [e,hx]);exact this
theorem Md(H:Hs B aL σ R)(hb:B b):Hs B aL (σ++[b]) (blk σ.length b*R):=by
 have hl:=VB H;obtain⟨⟨bs,rfl,hB⟩,h,hr,h2⟩:=H;have hn:∀i x,h i=some x→i<(aL++bs).length:=λi x hx=>(bK.1 (h2 i x hx).2).1
 refine⟨⟨bs++[b],by simp,λx hx=>?_⟩,λi=>if i=(aL++bs).length then some b else h i,⟨λi=>if i=(aL++bs).length then some b else none,h,λi=>rfl,hr,λi=>?_,λi=>?_⟩,λi x hx=>?_⟩
 ·rcases dg.1 hx with hx|hx
  ·exact hB x hx
  ·simp at hx;subst hx;exact hb
 ·by_cases e:i=(aL++bs).length
  ·right;cases hi:h i with
   |none=>rfl
   |some x=>have:=hn i x hi;omega
  ·simp only[e,if_false,true_or]
 ·by_cases e:i=(aL++bs).length<;>simp only[e,if_true,if_false,Option.or_some,Option.none_or,Option.some_or]
 ·by_cases e:i=(aL++bs).length
  ·subst e;simp only[if_true,Option.some.injEq]at hx;subst hx;exact⟨hl,by simp⟩
  ·simp only[e,if_false]at hx;obtain⟨k1,k2⟩:=h2 i x hx;exact⟨k1,by rw[eG (hn i x hx)];exact k2⟩
end
section
variable {α : Type} {E : an → α → HP} {B : aX → Prop} {aL σ : Heap} {R : HP}
def els(E:an→α→HP):List an→List α→HP
 |[],[]=>emp
 |e::es,x::l=>E e x*els E es l
 |_,_=>pr False
theorem B9:∀{es:List an}{l:List α}{R:HP},Hs B aL σ (els E es l*R)→es.length=l.length
 |[],[],_,_=>rfl
 |[],_::_,_,H=>(qY.1 H).1.elim
 |_::_,[],_,H=>(qY.1 H).1.elim
 |e::es,x::l,R,H=>by have:=B9 (es:=es) (l:=l) (R:=E e x*R) (iW (by rw[els];ac_rfl) H);simp [this]
theorem yT:∀{oc k9:List an}{l1 l2:List α},oc.length=l1.length→els E (oc++k9) (l1++l2)=els E oc l1*els E k9 l2
 |[],k9,[],l2,_=>by rw[els,uz];rfl
 |e::oc,k9,x::l1,l2,h=>by simp only[jT,els];rw[yT (by simpa using h)];ac_rfl
theorem Le(e:an)(x:α):els E [e] [x]=E e x:=by rw[els,els,TO]
def fl(c:α→an):an→α→HP:=λe x=>pr (e=c x)
theorem wT{c:α→an}:∀{es:List an}{l:List α}{R:HP},Hs B aL σ (els (fl c) es l*R)↔es=l.map c∧Hs B aL σ R
 |[],[],R=>by rw[els,uz];simp
 |[],x::l,R=>by show Hs B aL σ (pr False*R)↔_;rw[qY];simp
 |e::es,[],R=>by show Hs B aL σ (pr False*R)↔_;rw[qY];simp
 |e::es,x::l,R=>by rw[els,fl,wq,qY,wT,eT,List.cons.injEq,and_assoc]
def Sl(E:an→α→HP)(sz:Nat)(v:AV)(l:List α):HP:=λh=>(l=[]∧(v=.aE∨v=.ez)∧emp h)∨∃id g seg,v=.os id g sz 0 l.length∧(blk id (.arr g sz seg)*els E seg l) h
variable {sz : Nat} {v : AV} {l : List α}
theorem yP(H:Hs B aL σ (Sl E sz v l*R)):(l=[]∧(v=.aE∨v=.ez)∧Hs B aL σ R)∨∃id g seg,v=.os id g sz 0 l.length∧seg.length=l.length∧Hs B aL σ (blk id (.arr g sz seg)*(els E seg l*R)):=by
 have H2:=FE H;obtain⟨h1,h,⟨f,g,hf,hg,hd,hh⟩,h2⟩:=H;rcases hf with⟨k1,k2,k3⟩|⟨id,gg,seg,k1,k2⟩
 ·exact .inl ⟨k1,k2,H2⟩
 ·have K:Hs B aL σ (blk id (.arr gg sz seg)*(els E seg l*R)):=iW (wq _ _ _) ⟨h1,h,⟨f,g,k2,hg,hd,hh⟩,h2⟩;exact .inr ⟨id,gg,seg,k1,B9 (R:=blk id (.arr gg sz seg)*R) (iW (by ac_rfl) K),K⟩
theorem uf(H:Hs B aL σ R)(hv:v=.aE∨v=.ez):Hs B aL σ (Sl E sz v []*R):=
 Lo (P:=emp) (λh k=>.inl ⟨rfl,hv,k⟩) (iW (uz R).symm H)
theorem uI{id g:Nat}{seg:List an}{n:Nat}(H:Hs B aL σ (blk id (.arr g sz seg)*(els E seg l*R)))(hn:n=l.length:=by rfl):Hs B aL σ (Sl E sz (.os id g sz 0 n) l*R):=
 Lo (P:=blk id (.arr g sz seg)*els E seg l) (λh k=>.inr ⟨id,g,seg,by rw[hn],k⟩) (iW (wq _ _ _).symm H)
theorem zc(H:Hs B aL σ (Sl E sz v l*R)):A.bl v=some (.aj l.length):=by rcases yP H with⟨rfl,rfl|rfl,_⟩|⟨id,g,seg,rfl,_⟩<;>rfl
theorem F7{ys:List an}{xs:List α}{most:Nat}(H:Hs B aL σ (Sl E sz v l*(els E ys xs*R)))(hm:l.length+xs.length≤most)(hB:∀g g' seg,(seg=[]∨B (.arr g sz seg))→B (.arr g' sz (seg++ys))):
  ∃v' σ',A.append sz most v (.sl sz ys) σ=some (v',σ')∧Hs B aL σ' (Sl E sz v' (l++xs)*R):=by
 rcases yP H with⟨rfl,hv,H⟩|⟨id,g,seg,rfl,hl,H⟩
 ·have hxl:=B9 H;by_cases hy:ys=[]
  ·subst hy;have:xs=[]:=tE (by simpa using hxl.symm);subst this;refine⟨v,σ,?_,uf (FE H) hv⟩;rcases hv with rfl|rfl<;>simp [A.append,A.elems,A.iU]
  ·refine⟨.os σ.length ys.length sz 0 ys.length,σ++[.arr ys.length sz ys],?_,?_⟩
   ·have:ys.length≤most:=by simp at hm;omega
    rcases hv with rfl|rfl<;>simp [A.append,A.elems,A.iU,hy,this]
   ·have H2:=Md H (by simpa using hB 0 ys.length [] (.inl rfl):B (.arr ys.length sz ys));exact uI H2 (by simpa using hxl)
 ·have hxl:=B9 (iW (show _=els E ys xs*(blk id (.arr g sz seg)*(els E seg l*R)) by ac_rfl) H);obtain⟨h1,h2⟩:=nR H;by_cases hy:ys=[]
  ·subst hy;have:xs=[]:=tE (by simpa using hxl.symm);subst this;refine⟨.os id g sz 0 l.length,σ,?_,?_⟩
   ·have:l.length≤most:=by simpa using hm
    simp [A.append,A.elems,A.iU,h2,hl,this]
   ·rw[List.append_nil];exact uI (iW (by rw[els,uz]) H)
  ·have hp:0<ys.length:=List.length_pos_iff.2 hy;refine⟨.os id (g+ys.length) sz 0 (l.length+ys.length),σ.set id (.arr (g+ys.length) sz (seg++ys)),?_,?_⟩
   ·have e1:l.length+ys.length≤most:=by omega
    have e2:seg.take l.length=seg:=gD (by omega);simp [A.append,A.elems,A.iU,h2,hl,e1,hy,e2,hp]
   ·have H2:=zb (b':=.arr (g+ys.length) sz (seg++ys)) H (hB g _ seg (.inr (No H)));exact uI (id:=id) (g:=g+ys.length) (seg:=seg++ys) (iW (by rw[yT hl];ac_rfl) H2) (by simp;omega)
end
end
section
open HP
noncomputable def tN (sz most:Nat) (zs:an) (qD:an→Heap→au) (a0 a1 a2:AV) (σ:Heap):au:=(A.aZ sz a0 (some a1) none σ).bind λx1=>(A.bl a2).bind λx2=>(A.eql .i x2 (AV.aj 0)).bind λx3=>A.cond x3 (A.renew [a0,a1,a2] σ a0 σ) ((A.bl a0).bind λx4=>(A.eql .i a1 x4).bind λx5=>A.cond x5 ((A.append sz most a0 a2 σ).bind λr6=>A.renew [a0,a1,a2] σ r6.1 r6.2) ((A.add x4 x2).bind λx7=>A.mz (A.oP a0) (λx8=>(A.gtr x7 x8).bind λx9=>A.cond x9 ((A.aZ sz a0 none (some a1) σ).bind λbg=>(A.add x4 x2).bind λcg=>(A.sub cg a1).bind λbP=>(A.iV sz most zs bg bP σ).bind λfK=>(A.aZ sz fK.1 (some a1) none fK.2).bind λcu=>(A.eo sz cu a2 fK.2).bind λfZ=>(A.add a1 x2).bind λbG=>(A.aZ sz fK.1 (some bG) none fZ.2).bind λbM=>(A.aZ sz a0 (some a1) none fZ.2).bind λbA=>(A.eo sz bM bA fZ.2).bind λdU=>A.renew [a0,a1,a2] σ fK.1 dU.2) ((A.add x4 x2).bind λcU=>(A.aZ sz a0 none (some cU) σ).bind λbw=>(A.add a1 x2).bind λbX=>(A.aZ sz bw (some bX) none σ).bind λcy=>(nL [a2,cy] σ).bind λep=>(A.not ep.1).bind λcA=>A.cond cA ((A.add a1 x2).bind λcD=>(A.aZ sz bw (some cD) none ep.2).bind λcN=>(A.aZ sz bw (some a1) none ep.2).bind λeM=>(A.eo sz cN eM ep.2).bind λud=>(A.aZ sz bw (some a1) none ud.2).bind λck=>(A.eo sz ck a2 ud.2).bind λjK=>A.renew [a0,a1,a2] σ bw jK.2) ((A.aZ sz bw (some x4) none ep.2).bind λdK=>(A.eo sz dK a2 ep.2).bind λoo=>(A.aZ sz bw (some a1) none oo.2).bind λfQ=>(qD [fQ,x2] oo.2).bind λAv=>A.renew [a0,a1,a2] σ bw Av.2))) (A.n7 a0 σ λAu kq=>(A.gtr x7 (AV.aj Au)).bind λew=>A.cond ew ((A.aZ sz a0 none (some a1) kq).bind λdQ=>(A.add x4 x2).bind λiB=>(A.sub iB a1).bind λeA=>(A.iV sz most zs dQ eA kq).bind λfy=>(A.aZ sz fy.1 (some a1) none fy.2).bind λnF=>(A.eo sz nF a2 fy.2).bind λpE=>(A.add a1 x2).bind λiS=>(A.aZ sz fy.1 (some iS) none pE.2).bind λoA=>(A.aZ sz a0 (some a1) none pE.2).bind λlz=>(A.eo sz oA lz pE.2).bind λl5=>A.renew [a0,a1,a2] σ fy.1 l5.2) ((A.add x4 x2).bind λeO=>(A.aZ sz a0 none (some eO) kq).bind λdW=>(A.add a1 x2).bind λdX=>(A.aZ sz dW (some dX) none kq).bind λe9=>(nL [a2,e9] kq).bind λga=>(A.not ga.1).bind λfS=>A.cond fS ((A.add a1 x2).bind λl6=>(A.aZ sz dW (some l6) none ga.2).bind λgq=>(A.aZ sz dW (some a1) none ga.2).bind λfB=>(A.eo sz gq fB ga.2).bind λue=>(A.aZ sz dW (some a1) none ue.2).bind λgd=>(A.eo sz gd a2 ue.2).bind λAw=>A.renew [a0,a1,a2] σ dW Aw.2) ((A.aZ sz dW (some x4) none ga.2).bind λfT=>(A.eo sz fT a2 ga.2).bind λeJ=>(A.aZ sz dW (some a1) none eJ.2).bind λdO=>(qD [dO,x2] eJ.2).bind λr64=>A.renew [a0,a1,a2] σ dW r64.2)))))
section
variable {σ : Heap} {id g sz off len : Nat} {es : List an}
theorem cG{α:Type}{X Y:Option α}:A.cond (.bool true) X Y=X:=rfl
theorem bU{α:Type}{X Y:Option α}:A.cond (.bool false) X Y=Y:=rfl
theorem T6{R:Type}{k:AV→Option R}{u:Option R}:A.mz (A.oP (.os id g sz off len)) k u=u:=rfl
theorem mS{y d k:Nat}(h:k≤y):A.bound y d (some (.aj (k:Int)))=some k:=by
 have:(k:Int)≤y:=by omega
 simp [A.bound,this]
theorem mm{y d:Nat}:A.bound y d none=some d:=rfl
theorem pR(h:σ[id]? =some (.arr g sz es))(hl:off+len≤es.length):A.room σ id g sz off len=es.length-off:=by simp [A.room,h,hl]
theorem Ki(h:σ[id]? =some (.i7 g sz es)):A.room σ id g sz off len=len:=by simp [A.room,h]
theorem ow{lo hi:Option AV}{r h l:Nat}(hr:A.room σ id g sz off len=r)(hh:A.bound r len hi=some h)(hl:A.bound h 0 lo=some l):A.aZ sz (.os id g sz off len) lo hi σ=some (.os id g sz (off+l) (h-l)):=by simp [A.aZ,hr,hh,hl]
theorem FP{a b:Nat}(h:a+b<9223372036854775808):A.add (.aj (a:Int)) (.aj (b:Int))=some (.aj ((a+b:Nat):Int)):=by rw[xk,dL (by unfold bE;omega)];simp
theorem VZ{a b:Nat}(h:b≤a)(h2:a<9223372036854775808):A.sub (.aj (a:Int)) (.aj (b:Int))=some (.aj ((a-b:Nat):Int)):=by rw[xp,dL (by unfold bE;omega),Int.ofNat_sub h]
theorem MP(a b:Nat):A.eql .i (.aj (a:Int)) (.aj (b:Int))=some (.bool (decide (a=b))):=by rw[qu];have:((a:Int)=(b:Int))=(a=b):=propext ⟨λh=>by omega,λh=>by omega⟩;simp only[this]
theorem Vl{R:Type}{p:Nat→Prop}{k:Nat→Option R}{r:R}(n:Nat)(hn:p n)(h:∀n,p n→k n=some r):A.all p k=some r:=by
 have hx:∃r,∀n,p n→k n=some r:=⟨r,h⟩
 unfold A.all;rw[dif_pos hx];have:=Classical.choose_spec hx n hn;rw[h n hn]at this;injection this with this
 rw[←this]
theorem B8{σ:Heap}{y:AV}{ys:List an}(h:σ[id]? =some (.arr g sz es))(hl:off+len≤es.length)(hy:A.elems sz y σ=some ys)(h0:ys.length≠0)(h1:len≠0):
  A.eo sz (.os id g sz off len) y σ=some (.aj (ys.take len).length,σ.set id (.arr g sz (es.take off++ys.take len++es.drop (off+(ys.take len).length)))):=by
 simp only[A.eo,hy,aC,h];rw[aM (by simp [hl]),aK (by simp only[not_or];exact⟨h0,h1⟩)]
theorem Tm(h:σ[id]? =some (.arr g sz es))(hl:off+len≤es.length):A.elems sz (.os id g sz off len) σ=some ((es.drop off).take len):=by simp [A.elems,h,hl]
theorem SD(h:σ[id]? =some (.i7 g sz es))(hl:off+len≤es.length):A.elems sz (.os id g sz off len) σ=some ((es.drop off).take len):=by simp [A.elems,h,hl]
end
section
variable {α : Type} {E : an → α → HP} {aL σ : Heap} {R : HP} {sz most : Nat} {zs : an} {qD : an → Heap → au} {v : AV} {l : List α} {y : α} {ye : an} {i : Nat}
theorem Ll(id g n:Nat)(i:AV)(hi:∃k:Int,i=.aj k):A.gen [.os id g sz 0 n,i,.sl sz [ye]]=g+n+1:=by obtain⟨k,rfl⟩:=hi;simp [A.gen]
theorem Uy{id g n:Nat}{seg:List an}(hs:σ[id]? =some (.arr g sz seg))(hl:seg.length=n)(hi:i<n)(hm:n+1≤most)(hb:n<4611686018427387904):
  tN sz most zs qD (.os id g sz 0 n) (.aj (i:Int)) (.sl sz [ye]) σ=some (.os id (g+n+2) sz 0 (n+1),σ.set id (.arr (g+n+2) sz (seg.take i++[ye]++seg.drop i))):=by
 have hid:=(bK.1 hs).1;have uL:A.gen [.os id g sz 0 n,.aj (i:Int),.sl sz [ye]]=g+n+1:=Ll id g n _ ⟨_,rfl⟩;unfold tN;rw[ow (pR hs (by omega)) mm (mS (k:=i) (by omega)),aC];rw[show A.bl (.sl sz [ye])=some (.aj ((1:Nat):Int))from rfl,aC];rw[show A.eql .i (.aj ((1:Nat):Int)) (.aj 0)=some (.bool false)from rfl,aC];rw[bU];rw[show A.bl (.os id g sz 0 n)=some (.aj (n:Int))from rfl,aC,MP,aC,bZ (by omega)];rw[bU,FP (by omega),aC,T6];simp only[A.n7,hs];rw[aM (by simp;omega)];refine Vl n (by omega) λc hc=>?_
 obtain⟨oh,lf⟩:=hc;by_cases ht:c=n
 ·subst ht;rw[aM rfl];obtain⟨σ1,rD⟩:∃σ1,σ1=σ.set id (.i7 g sz seg):=⟨_,rfl⟩
  have h1:σ1[id]? =some (.i7 g sz seg):=by rw[rD,jR hid]
  have kj:σ1.length=σ.length:=by rw[rD,List.length_set]
  rw[←rD];rw[show A.gtr (.aj ((c+1:Nat):Int)) (.aj (c:Int))=some (.bool true) by simp [A.gtr];omega,aC];rw[cG,ow (Ki h1) (mS (k:=i) (by omega)) mm,aC,FP (by omega),aC,VZ (by omega) (by omega),aC];obtain⟨rows,hrows⟩:∃rows,rows=seg.take i++List.replicate (c+1-i) zs:=⟨_,rfl⟩
  have hrl:rows.length=c+1:=by rw[hrows];simp;omega
  have e1:A.iV sz most zs (.os id g sz (0+0) (i-0)) (.aj ((c+1-i:Nat):Int)) σ1=some (.os σ1.length (c+1) sz 0 (c+1),σ1++[.arr (c+1) sz rows]):=by
   have q1:(0:Int)≤((c+1-i:Nat):Int)∧((c+1-i:Nat):Int)≤most:=by omega
   have q2:i+(c+1-i)=c+1:=by omega
   simp only[A.iV];rw[aM q1];simp only[A.iU,Nat.zero_add,Nat.sub_zero,h1,Int.toNat_natCast,List.length_replicate,List.drop_zero,←hrows];rw[aM (by simp;omega),q2]
  rw[e1,aC];simp only;have h2:(σ1++[aX.arr (c+1) sz rows])[σ1.length]? =some (.arr (c+1) sz rows):=by simp
  rw[ow (pR h2 (by omega)) mm (mS (k:=i) (by omega)),aC];rw[B8 (ys:=[ye]) h2 (by omega) (by simp [A.elems]) (by simp) (by omega),aC];have e2:([ye]:List an).take (c+1-i)=[ye]:=gD (by simp;omega);rw[e2];simp only[Nat.zero_add,List.length_singleton];rw[aC];obtain⟨mU,FW⟩:∃mU,mU=rows.take i++[ye]++rows.drop (i+1):=⟨_,rfl⟩
  have aaw:mU.length=c+1:=by rw[FW];simp;omega
  rw[←FW];have lM:(σ1++[aX.arr (c+1) sz rows]).set σ1.length (.arr (c+1) sz mU)=σ1++[.arr (c+1) sz mU]:=by simp
  rw[lM];have h3:(σ1++[aX.arr (c+1) sz mU])[σ1.length]? =some (.arr (c+1) sz mU):=by simp
  have h3':(σ1++[aX.arr (c+1) sz mU])[id]? =some (.i7 g sz seg):=by rw[eG (by omega)];exact h1
  rw[ow (pR h3 (by omega)) mm (mS (k:=i+1) (by omega)),aC];rw[ow (Ki h3') mm (mS (k:=i) (by omega)),aC];rw[B8 h3 (by omega) (SD h3' (by omega)) (by simp;omega) (by omega),aC]
  have e3:((seg.drop (0+i)).take (c-i)).take (c+1-(i+1))=seg.drop i:=by rw[Nat.zero_add,gD (by simp;omega),gD (by simp;omega)]
  rw[e3]
  have e4:mU.take (0+(i+1))++seg.drop i++mU.drop (0+(i+1)+(seg.drop i).length)=seg.take i++[ye]++seg.drop i:=by
   have q1:mU.drop (0+(i+1)+(seg.drop i).length)=[]:=List.drop_of_length_le (by simp;omega);have q2:rows.take i=seg.take i:=by rw[hrows,List.take_append_of_le_length (by simp;omega),List.take_take,Nat.min_self]
   have q3:mU.take (0+(i+1))=seg.take i++[ye]:=by rw[FW,q2,Nat.zero_add,List.take_append_of_le_length (by simp;omega),gD (by simp;omega)]
   rw[q1,q3];simp
  rw[e4];have Wj:(σ1++[aX.arr (c+1) sz mU]).set σ1.length (.arr (c+1) sz (seg.take i++[ye]++seg.drop i))=σ1++[.arr (c+1) sz (seg.take i++[ye]++seg.drop i)]:=by simp
  simp only;rw[Wj];have h4:(σ1++[aX.arr (c+1) sz (seg.take i++[ye]++seg.drop i)])[σ1.length]? =some (.arr (c+1) sz (seg.take i++[ye]++seg.drop i)):=by simp
  have gU:(seg.take i++[ye]++seg.drop i).length=c+1:=by simp;omega
  have e5:((seg.take i++[ye]++seg.drop i).drop 0).take (c+1)=seg.take i++[ye]++seg.drop i:=by rw[List.drop_zero,gD (by omega)]
  simp only[A.renew,h4];rw[uL,aM (by simp only[true_and];omega),aK (by simp [A.Nh,kj]),e5];simp only[A.merge,hs,uL];rw[aM]
  ·rw[gU]
  refine⟨by omega,by simp [kj],rfl,by omega,λj hj hne=>?_,by rw[eG (by omega)];exact h1,λz hz=>?_⟩
  ·rw[eG (by omega),rD,List.getElem?_set_ne (λe=>hne e.symm)]
  ·simp only[dg,List.mem_singleton]at hz;rcases hz with(hz|hz)|hz
   ·exact .inl (rz hz)
   ·right;simp [A.rowsOf,hz]
   ·exact .inl (List.mem_of_mem_drop hz)
 ·rw[aK ht];obtain⟨es,tY⟩:∃es,es=seg++List.replicate (0+c-seg.length) (List.replicate sz AV.undef):=⟨_,rfl⟩
  have hel:es.length=c:=by rw[tY];simp;omega
  have het:∀k,k≤n→es.take k=seg.take k:=λk hk=>by rw[tY,List.take_append_of_le_length (by omega)]
  obtain⟨σ1,rD⟩:∃σ1,σ1=σ.set id (.arr g sz es):=⟨_,rfl⟩
  have h1:σ1[id]? =some (.arr g sz es):=by rw[rD,jR hid]
  have kj:id<σ1.length:=by rw[rD,List.length_set];exact hid
  rw[←tY,←rD];rw[show A.gtr (.aj ((n+1:Nat):Int)) (.aj (c:Int))=some (.bool false) by simp [A.gtr];omega,aC];rw[bU,FP (by omega),aC];rw[ow (pR h1 (by omega)) (mS (k:=n+1) (by omega)) mm,aC,aC];simp only[Nat.zero_add,Nat.sub_zero];rw[ow (pR h1 (by omega)) mm (mS (k:=i+1) (by omega)),aC]
  have e1:nL [.sl sz [ye],.os id g sz (0+(i+1)) (n+1-(i+1))] σ1=some (.bool false,σ1):=by simp only[nL,A.dh,h1];rw[aM];refine⟨by simp,trivial,λe=>?_,by omega⟩;rw[e]at hel;simp at hel;omega
  rw[e1,aC,show A.not (.bool false)=some (.bool true)from rfl,aC,cG,aC];simp only;rw[ow (pR h1 (by omega)) mm (mS (k:=i+1) (by omega)),aC];rw[ow (pR h1 (by omega)) mm (mS (k:=i) (by omega)),aC];rw[B8 h1 (by omega) (Tm h1 (by omega)) (by simp;omega) (by omega),aC]
  have e2:((es.drop (0+i)).take (n+1-i)).take (n+1-(i+1))=seg.drop i:=by rw[List.take_take,Nat.zero_add,show min (n+1-(i+1)) (n+1-i)=n-i by omega,List.take_drop,show i+(n-i)=n by omega,het n (bH _),gD (by omega)]
  rw[e2];obtain⟨k9,CU⟩:∃k9,k9=es.take (0+(i+1))++seg.drop i++es.drop (0+(i+1)+(seg.drop i).length):=⟨_,rfl⟩
  have aaq:k9.length=c:=by rw[CU];simp;omega
  rw[←CU];have h2:(σ1.set id (.arr g sz k9))[id]? =some (.arr g sz k9):=jR kj;simp only;rw[ow (pR h2 (by omega)) mm (mS (k:=i) (by omega)),aC];rw[B8 (ys:=[ye]) h2 (by omega) (by simp [A.elems]) (by simp) (by omega),aC];have e3:([ye]:List an).take (n+1-i)=[ye]:=gD (by simp;omega);rw[e3];simp only[Nat.zero_add,List.length_singleton,List.set_set];obtain⟨xD,GJ⟩:∃xD,xD=k9.take i++[ye]++k9.drop (i+1):=⟨_,rfl⟩
  have aar:xD.length=c:=by rw[GJ];simp;omega
  rw[←GJ];have h3:(σ1.set id (.arr g sz xD))[id]? =some (.arr g sz xD):=jR kj
  have e4:(xD.drop 0).take (n+1)=seg.take i++[ye]++seg.drop i:=by
   have q1:k9.take i=seg.take i:=by rw[CU,gl,List.take_append_of_le_length (by simp;omega),List.take_take,show min i (0+(i+1))=i by omega,het i (by omega)]
   have q2:k9.drop (i+1)=seg.drop i++es.drop (i+1+(seg.drop i).length):=by rw[CU,Nat.zero_add,gl,List.drop_append_of_le_length (by simp;omega),List.drop_of_length_le (by simp;omega),List.nil_append]
   rw[List.drop_zero,GJ,q1,q2,←gl,List.take_append_of_le_length (by simp;omega),gD (by simp;omega)]
  simp only[A.renew,h3];rw[uL,aM (by simp only[true_and];omega),aM (.inl hid),e4,List.set_set,rD,List.set_set]
theorem Ux{id g n:Nat}{seg:List an}(hs:σ[id]? =some (.arr g sz seg))(hl:seg.length=n)(hm:n+1≤most):
  tN sz most zs qD (.os id g sz 0 n) (.aj (n:Int)) (.sl sz [ye]) σ=some (.os id (g+n+2) sz 0 (n+1),σ.set id (.arr (g+n+2) sz (seg++[ye]))):=by
 have hid:=(bK.1 hs).1;have uL:A.gen [.os id g sz 0 n,.aj (n:Int),.sl sz [ye]]=g+n+1:=Ll id g n _ ⟨_,rfl⟩;unfold tN;rw[ow (pR hs (by omega)) mm (mS (k:=n) (by omega)),aC];rw[show A.bl (.sl sz [ye])=some (.aj ((1:Nat):Int))from rfl,aC];rw[show A.eql .i (.aj ((1:Nat):Int)) (.aj 0)=some (.bool false)from rfl,aC];rw[bU];rw[show A.bl (.os id g sz 0 n)=some (.aj (n:Int))from rfl,aC,MP,aC,cj rfl,cG]
 have e1:A.append sz most (.os id g sz 0 n) (.sl sz [ye]) σ=some (.os id (g+1) sz 0 (n+1),σ.set id (.arr (g+1) sz (seg++[ye]))):=by have q:seg.take n=seg:=gD (by omega);simp [A.append,A.elems,A.iU,hs,hl,hm,q]
 rw[e1,aC];have h2:(σ.set id (.arr (g+1) sz (seg++[ye])))[id]? =some (.arr (g+1) sz (seg++[ye])):=jR hid;simp only[A.renew,h2];rw[uL,aM (by simp;omega),aM (.inl hid),List.set_set,List.drop_zero,gD (by simp;omega)]
theorem Uz(hv:v=.aE∨v=.ez)(hm:1≤most):tN sz most zs qD v (.aj 0) (.sl sz [ye]) σ=some (.os σ.length 2 sz 0 1,σ++[.arr 2 sz [ye]]):=by
 have uL:∀w:AV,(w=.aE∨w=.ez)→A.gen [w,.aj 0,.sl sz [ye]]=1:=by rintro w (rfl|rfl)<;>simp [A.gen]
 have hbd:A.bound 0 0 (some (AV.aj 0))=some 0:=mS (y:=0) (d:=0) (k:=0) (bH _)
 have key:∀w:AV,(w=.aE∨w=.ez)→A.renew [w,.aj 0,.sl sz [ye]] σ (.os σ.length 1 sz 0 1) (σ++[.arr 1 sz [ye]])=some (.os σ.length 2 sz 0 1,σ++[.arr 2 sz [ye]]):=by
  intro w hw;have h2:(σ++[aX.arr 1 sz [ye]])[σ.length]? =some (.arr 1 sz [ye]):=by simp
  simp only[A.renew,h2];rw[uL w hw,aM (by simp),aM (.inr (by rcases hw with rfl|rfl<;>rfl))];simp
 unfold tN;rw[show A.bl (.sl sz [ye])=some (.aj ((1:Nat):Int))from rfl];rcases hv with rfl|rfl
 ·rw[show A.aZ sz .aE (some (.aj 0)) none σ=some .aE by simp [A.aZ,mm,hbd],aC,aC];rw[show A.eql .i (.aj ((1:Nat):Int)) (.aj 0)=some (.bool false)from rfl,aC,bU];rw[show A.bl .aE=some (.aj 0)from rfl,aC,show A.eql .i (.aj 0) (.aj 0)=some (.bool true)from rfl,aC,cG];rw[show A.append sz most .aE (.sl sz [ye]) σ=some (.os σ.length 1 sz 0 1,σ++[.arr 1 sz [ye]]) by simp [A.append,A.elems,A.iU,hm],aC];exact key _ (.inl rfl)
 ·rw[show A.aZ sz .ez (some (.aj 0)) none σ=some .ez by simp [A.aZ,mm,hbd],aC,aC];rw[show A.eql .i (.aj ((1:Nat):Int)) (.aj 0)=some (.bool false)from rfl,aC,bU];rw[show A.bl .ez=some (.aj 0)from rfl,aC,show A.eql .i (.aj 0) (.aj 0)=some (.bool true)from rfl,aC,cG];rw[show A.append sz most .ez (.sl sz [ye]) σ=some (.os σ.length 1 sz 0 1,σ++[.arr 1 sz [ye]]) by simp [A.append,A.elems,A.iU,hm],aC];exact key _ (.inr rfl)
theorem Ms{B:aX→Prop}(H:Hs B aL σ (Sl E sz v l*(E ye y*R)))(hi:i≤l.length)(hm:l.length+1≤most)(hb:l.length<4611686018427387904)(hB:∀g g' seg k,(seg=[]∨B (.arr g sz seg))→B (.arr g' sz (seg.take k++[ye]++seg.drop k))):
  ∃v' σ',tN sz most zs qD v (.aj (i:Int)) (.sl sz [ye]) σ=some (v',σ')∧Hs B aL σ' (Sl E sz v' (l.take i++[y]++l.drop i)*R):=by
 rcases yP H with⟨rfl,hv,H⟩|⟨id,g,seg,rfl,hl,H⟩
 ·have Yv:i=0:=by simpa using hi
  subst Yv;refine⟨_,_,Uz hv (by simpa using hm),?_⟩;have H2:=Md (b:=.arr 2 sz [ye]) H (by simpa using hB 0 2 [] 0 (.inl rfl));exact uI (id:=σ.length) (g:=2) (seg:=[ye]) (iW (by simp only[List.take_nil,List.drop_nil,List.nil_append,List.append_nil,Le]) H2) rfl
 ·obtain⟨h1,h2⟩:=nR H
  have e:∃g',tN sz most zs qD (.os id g sz 0 l.length) (.aj (i:Int)) (.sl sz [ye]) σ=some (.os id g' sz 0 (l.length+1),σ.set id (.arr g' sz (seg.take i++[ye]++seg.drop i))):=by
   by_cases hil:i=l.length
   ·subst hil;refine⟨g+l.length+2,?_⟩;rw[Ux h2 hl hm,gD (by omega),List.drop_of_length_le (by omega),List.append_nil]
   ·exact⟨_,Uy h2 hl (by omega) hm hb⟩
  obtain⟨g',e⟩:=e;refine⟨_,_,e,?_⟩;have H2:=zb (b':=.arr g' sz (seg.take i++[ye]++seg.drop i)) H (hB g g' seg i (.inr (No H)));refine uI (id:=id) (g:=g') (seg:=seg.take i++[ye]++seg.drop i) (iW ?_ H2) (by simp;omega)
  have q:els E seg l=els E (seg.take i) (l.take i)*els E (seg.drop i) (l.drop i):=by rw[←yT (by simp;omega),List.take_append_drop,List.take_append_drop]
  rw[yT (oc:=seg.take i++[ye]) (l1:=l.take i++[y]) (by simp;omega),yT (by simp;omega),Le,q];ac_rfl
end
end
section
def n8{α:Type}(f:Nat→α→Int):List α→Nat→Int
 |[],_=>0
 |x::l,i=>if f i x=0 then n8 f l (i+1)else f i x
section
variable {α β γ S B R : Type}
theorem sP{f:Nat→α→Int}:∀(l:List α)(i:Nat),n8 f l i=0↔∀j x,l[j]? =some x→f (i+j) x=0
 |[],i=>by simp [n8]
 |y::l,i=>by
  rw[n8];by_cases h:f i y=0
  ·rw[aM h,sP l (i+1)];constructor
   ·intro k j x hx;cases j with
    |zero=>simp at hx;subst hx;exact h
    |succ j=>have:=k j x (by simpa using hx);rwa[show i+1+j=i+(j+1) by omega]at this
   ·intro k j x hx;have:=k (j+1) x (by simpa using hx);rwa[show i+(j+1)=i+1+j by omega]at this
  ·rw[aK h];exact⟨λe=>absurd e h,λk=>absurd (k 0 y rfl) h⟩
theorem yV{l:List α}{body:Nat→α→S→Option (Lr S B R)}{fin:S→Option B}{s:S}{K1:B→Option γ}{K2:R→Option γ}(hl:l.length≤bV):kS l body fin s K1 K2=(gM body fin l 0 s).bind λq=>q.elim K1 K2:=aM hl
theorem KM{f:Nat→α→Int}{l:List α}{body:Nat→α→Unit→Option (Lr Unit Unit Int)}{fin:Unit→Option Unit}{s:Unit}{K1:Unit→Option γ}{K2:Int→Option γ}(hl:l.length≤bV)(hb:∀i x,l[i]? =some x→body i x ()=some (if f i x=0 then .go ()else .ret (f i x)))(hf:fin ()=some ():=by rfl):kS l body fin s K1 K2=if n8 f l 0=0 then K1 ()else K2 (n8 f l 0):=by
 rw[yV hl]
 have key:∀(rest pre:List α),l=pre++rest→gM body fin rest pre.length ()=some (if n8 f rest pre.length=0 then .inl ()else .inr (n8 f rest pre.length)):=by
  intro rest;induction rest with
  |nil=>intro pre _;simp [gM,hf,n8]
  |cons x rest ih=>
   intro pre hp;rw[gM,hb pre.length x (by rw[hp];simp),aC,n8];by_cases h:f pre.length x=0
   ·simp only[h,if_true];have:=ih (pre++[x]) (by simpa using hp);simpa using this
   ·simp only[h,if_false]
 have k:=key l [] rfl;rw[List.length_nil]at k;rw[show s=()from rfl,k,aC];split<;>rfl
theorem Lq{p:Prop}[Decidable p]{k f:Int}{Y:Option (Lr Unit Unit Int)}(hk:k≠0)(h:Y=some (if f=0 then .go ()else .ret f)):(if p then some (.ret k)else Y)=some (if(if p then k else f)=0 then .go ()else .ret (if p then k else f)):=by
 by_cases hp:p
 ·simp [hp,hk]
 ·simp [hp,h]
theorem go_ret:(some (.go ()):Option (Lr Unit Unit Int))=some (if(0:Int)=0 then .go ()else .ret 0):=rfl
theorem Tn(k:Int):(if k=0 then some (.go ())else some (.ret k):Option (Lr Unit Unit Int))=some (if k=0 then .go ()else .ret k):=by split<;>rfl
theorem J1{p:α→Bool}{l:List α}{body:Nat→α→Unit→Option (Lr Unit Unit R)}{r:α→R}{fin:Unit→Option Unit}{s:Unit}{K1:Unit→Option γ}{K2:R→Option γ}(hl:l.length≤bV)(hb:∀i x,l[i]? =some x→body i x ()=some (if p x=true then .ret (r x)else .go ()))(hf:fin ()=some ():=by rfl):kS l body fin s K1 K2=match l.find? p with|some x=>K2 (r x)|none=>K1 ():=by
 rw[yV hl]
 have key:∀(rest pre:List α),l=pre++rest→gM body fin rest pre.length ()=some (match rest.find? p with|some x=>.inr (r x)|none=>.inl ()):=by
  intro rest;induction rest with
  |nil=>intro pre _;simp [gM,hf]
  |cons x rest ih=>
   intro pre hp;rw[gM,hb pre.length x (by rw[hp];simp),aC,List.find?_cons];cases h:p x
   ·simp only[Bool.false_eq_true,if_false];have:=ih (pre++[x]) (by simpa using hp);simpa using this
   ·simp only[if_true]
 have k:=key l [] rfl;rw[List.length_nil]at k;rw[show s=()from rfl,k,aC];cases l.find? p<;>rfl
theorem J2{l:List α}{body:Nat→α→S→Option (Lr S B R)}{fin:S→Option B}{s:S}{K1:B→Option γ}{K2:R→Option γ}(g:S→α→S)(P:Nat→S→Prop)(hl:l.length≤bV)(h0:P 0 s)(hP:∀i x s,l[i]? =some x→P i s→P (i+1) (g s x))(hb:∀i x s,l[i]? =some x→P i s→body i x s=some (.go (g s x))):kS l body fin s K1 K2=(fin (l.foldl g s)).bind K1:=by
 rw[yV hl]
 have key:∀(rest pre:List α)(s:S),l=pre++rest→P pre.length s→gM body fin rest pre.length s=(fin (rest.foldl g s)).map .inl:=by
  intro rest;induction rest with
  |nil=>intro pre s _ _;simp [gM]
  |cons x rest ih=>
   intro pre s hp hq;have hx:l[pre.length]? =some x:=by rw[hp];simp
   rw[gM,hb pre.length x s hx hq,aC,List.foldl_cons];have:=ih (pre++[x]) (g s x) (by simpa using hp) (by simpa using hP _ _ _ hx hq);simpa using this
 have k:=key l [] s rfl h0;rw[List.length_nil]at k;rw[k];cases fin (l.foldl g s)<;>rfl
def pv [Inhabited α](l:List α)(i:Nat):α:=if 0<i then l.getD (i-1) default else default
theorem FM{l:List α}{i:Int}{x:α}(h0:0≤i)(h:l[i.toNat]? =some x):pH l i=some x:=by rw[pH,aM h0,h]
theorem LM [Inhabited α]{l:List α}{i:Nat}{x:α}(h:l[i]? =some x)(hl:l.length≤bV):(if decide (0<(i:Int))=true then pH l (IntKind.i64.wrap ((i:Int) -1))else some default)=some (pv l i):=by
 have hi:=(bK.1 h).1;unfold pv;by_cases h0:0<i
 ·rw[aM (by simpa using h0),aM h0,dL (by unfold bE;unfold bV at hl;omega)];refine FM (by omega) ?_;have:((i:Int) -1).toNat=i-1:=by omega
  rw[this,List.getD,bQ (by omega)];rfl
 ·rw[aK (by simpa using h0),aK h0]
theorem V4{a b:Int}:(([a,b]:List Int).find? λn=>decide (¬n=0)).getD 0=if ¬(a=0)then a else b:=by
 by_cases ha:a=0
 ·by_cases hb:b=0<;>simp [ha,hb,List.find?]
 ·simp [ha,List.find?]
end
theorem yQ(s:ByteArray):s.toList=s.data.toList:=ByteArray.toList_eq s
theorem Fw:∀(a b:List UInt8),Lib.compareBytes a b<0↔Op.bytesLess a b=true
 |[],[]=>by simp [Lib.compareBytes,Op.bytesLess]
 |[],_::_=>by simp [Lib.compareBytes,Op.bytesLess]
 |_::_,[]=>by simp [Lib.compareBytes,Op.bytesLess]
 |a::x,b::y=>by
  rw[Lib.compareBytes,Op.bytesLess];by_cases h1:a<b
  ·simp [h1]
  ·by_cases h2:b<a
   ·have:a≠b:=by rintro rfl;exact h1 h2
    simp [h1,h2,this]
   ·have:a=b:=UInt8.le_antisymm (UInt8.not_lt.1 h2) (UInt8.not_lt.1 h1);subst this;simp [UInt8.lt_irrefl,Fw x y]
theorem Fv:∀(a b:List UInt8),Lib.compareBytes a b=0↔a=b
 |[],[]=>by simp [Lib.compareBytes]
 |[],_::_=>by simp [Lib.compareBytes]
 |_::_,[]=>by simp [Lib.compareBytes]
 |a::x,b::y=>by
  rw[Lib.compareBytes];by_cases h1:a<b
  ·have:a≠b:=by rintro rfl;exact UInt8.lt_irrefl _ h1
   simp [h1,this]
  ·by_cases h2:b<a
   ·have:a≠b:=by rintro rfl;exact UInt8.lt_irrefl _ h2
    simp [h1,h2,this]
   ·have:a=b:=UInt8.le_antisymm (UInt8.not_lt.1 h2) (UInt8.not_lt.1 h1);subst this;simp [UInt8.lt_irrefl,Fv x y]
def fP(a b:bB):Bool:=decide (a.unit<b.unit)||(decide (a.unit=b.unit)&&Op.bytesLess a.param.toList b.param.toList)
def tI(a b:bB):Int:=if ¬(a.unit=b.unit)then(if a.unit<b.unit then -1 else 1)else Lib.compareBytes a.param.data.toList b.param.data.toList
theorem Lb(a b:bB):tI a b<0↔fP a b=true:=by
 unfold tI fP;by_cases h:a.unit=b.unit
 ·simp [h,yQ,Fw]
 ·by_cases h2:a.unit<b.unit<;>simp [h,h2]
theorem Ua(a b:bB):tI a b=0↔a=b:=by
 obtain⟨u,p⟩:=a;obtain⟨v,q⟩:=b;unfold tI;by_cases h:u=v
 ·subst h;simp only[not_true_eq_false,if_false,Fv,bB.mk.injEq,true_and];exact⟨λe=>by obtain⟨⟨p⟩⟩:=p;obtain⟨⟨q⟩⟩:=q;simp at e;subst e;rfl,λe=>by rw[e]⟩
 ·by_cases h2:u<v<;>simp [h,h2]
end
def cm(n lo hi:Int):Bool:=decide (lo≤n∧n≤hi)
def Dn(c:UInt8):Bool:=decide (97≤c.toNat∧c.toNat≤122)||decide (48≤c.toNat∧c.toNat≤57)||decide (c.toNat=45)
def xA(s:ByteArray):Bool:=s.data.toList.all Dn&&decide (0<s.size)
def qg(s:ByteArray):Bool:=xA s&&decide (s.size≤20)&&decide (97≤(s.data.toList.getD 0 0).toNat)&&decide ((s.data.toList.getD 0 0).toNat≤122)
def pc(c:UInt8):Bool:=decide (32≤c.toNat∧c.toNat≤126)
def Cy(s:ByteArray):Bool:=decide (0<s.size)&&decide (s.size≤60)&&(decide ((s.data.toList.getD 0 0).toNat≠32)&&decide ((s.data.toList.getD (s.size-1) 0).toNat≠32))
def Ga(s:ByteArray):Bool:=s.data.toList.all pc&&Cy s
theorem SJ(s:ByteArray)(i:Nat)(h:i<s.size):s.data.toList.getD i 0=s[i]:=by rw[List.getD_eq_getElem?_getD,bQ (by simpa using h)];rfl
def CQ(pre:List kL):List kL→Int
 |[]=>0
 |r::rest=>
  if cm r.low 0 65535=false∨cm r.high 0 65535=false∨r.high<r.low then 1
  else if 0<pre.length∧r.low≤(pre.getLast?.map (·.high)).getD 0 then 7
  else if qg r.name=false then 5
  else if fD r.name (pre.map (·.name))=true then 6
  else CQ (pre++[r]) rest
def wO(l:List kL):Int:=if 30<l.length then 2 else CQ [] l
def slotsOf(l:List gh):List Int:=l.flatMap λx=>if 0<x.jC then[x.jY,x.jC]else[x.jY]
theorem I9(l:List gh)(x:gh):slotsOf (l++[x])=slotsOf l++(if 0<x.jC then[x.jY,x.jC]else[x.jY]):=by simp [slotsOf]
def CP(size:Int)(pre:List gh):List gh→Int
 |[]=>0
 |x::rest=>
  if qg x.name=false then 5
  else if fD x.name (pre.map (·.name))=true then 6
  else if cm x.group 1 4=false then 4
  else if cm x.jY 1 size=false∨cm x.jC 0 size=false∨cm x.default 0 65535=false then 1
  else if x.jY=x.jC∨fD x.jY (slotsOf pre)=true∨(0<x.jC∧fD x.jC (slotsOf pre)=true)then 12
  else if wO x.ranges=0 then CP size (pre++[x]) rest else wO x.ranges
def me(p:cQ):Int:=
 if qg p.name=false then 5 else if cm p.size 1 512=false then 1 else if p.params.length=0 then 8 else if 40<p.params.length then 2 else CP p.size [] p.params
def tH(pre:List cQ):List cQ→Int
 |[]=>0
 |p::rest=>if me p=0 then(if fD p.name (pre.map (·.name))=true then 6 else tH (pre++[p]) rest)else me p
def qo(l:List cQ):Int:=if 60<l.length then 2 else tH [] l
def fC(nm:ByteArray):List cQ→cQ×Bool
 |[]=>(⟨⟨#[]⟩,0,[]⟩,false)
 |p::rest=>if p.name=nm then(p,true)else fC nm rest
def nT(f:Nat→Bool):Nat→Nat→Bool
 |0,_=>true
 |n+1,a=>if 512<a∨f a=true then false else nT f n (a+1)
def iX(f:Int→Nat→Bool)(u:Int)(a s:Nat):Int→Nat→Bool:=λv k=>if v=u∧a≤k∧k<a+s then true else f v k
def uN(pre:List Int)(n:Int):Bool:=match pre.getLast? with|some m=>decide (n≤m)|none=>false
def jQ(dS:List cQ)(u:eF):Int:=u.address+(fC u.fV dS).1.size-1
def wQ(dS:List cQ)(u:eF)(pre:List eF):Bool:=pre.any λx=>decide (x.univ=u.univ∧x.address≤jQ dS u∧u.address≤jQ dS x)
def xu(dS:List cQ)(pre:List eF):List eF→Int
 |[]=>0
 |u::rest=>
  if cm u.aH 1 9999=false then 1
  else if uN (pre.map (·.aH)) u.aH=true then 7
  else if(fC u.fV dS).2=false then 5
  else if cm u.univ 1 64=false∨cm u.address 1 512=false∨512<jQ dS u then 1
  else if wQ dS u pre=true then 12
  else xu dS (pre++[u]) rest
def fY(r:cK):Int:=if qo r.cE=0 then(if 400<r.gC.length then 2 else xu r.cE [] r.gC)else qo r.cE
def yR(dS:List cQ)(pre:List eF):Prop:=∀x∈pre,1≤x.address∧x.address≤jQ dS x∧jQ dS x≤512
def sX(dS:List cQ)(pre:List eF)(f:Int→Nat→Bool):Prop:=∀v k,f v k=true↔∃x∈pre,x.univ=v∧x.address≤(k:Int)∧(k:Int)≤jQ dS x
theorem sX.nil(dS:List cQ):sX dS [] (λ_ _=>false):=λv k=>by simp
theorem sX.snoc{dS:List cQ}{pre:List eF}{f:Int→Nat→Bool}(h:sX dS pre f)(u:eF)(a s:Nat)(ha:u.address=a)(hs:jQ dS u=(a:Int)+s-1):sX dS (pre++[u]) (iX f u.univ a s):=by
 intro v k;unfold iX;by_cases e:v=u.univ∧a≤k∧k<a+s
 ·rw[aM e];refine⟨λ_=>⟨u,by simp,e.1.symm,by omega,by omega⟩,λ_=>rfl⟩
 ·rw[aK e,h v k];constructor
  ·rintro⟨x,hx,h1⟩;exact⟨x,by simp [hx],h1⟩
  ·rintro⟨x,hx,h1,h2,h3⟩;simp only[dg,List.mem_singleton]at hx;rcases hx with hx|rfl
   ·exact⟨x,hx,h1,h2,h3⟩
   ·exact absurd ⟨h1.symm,by omega,by omega⟩ e
theorem EX(f:Nat→Bool):∀(s a:Nat),nT f s a=true↔∀k,a≤k→k<a+s→k≤512∧f k=false
 |0,a=>by simp [nT];intro k h1 h2;omega
 |s+1,a=>by
  rw[nT];by_cases e:512<a∨f a=true
  ·rw[aM e];simp only[Bool.false_eq_true,false_iff];intro h;have:=h a (bH _) (by omega);rcases e with e|e
   ·omega
   ·rw[e]at this;simp at this
  ·rw[aK e,EX f s (a+1)];constructor
   ·intro h k h1 h2;by_cases hk:k=a
    ·subst hk;refine⟨by omega,?_⟩;cases hf:f k
     ·rfl
     ·exact absurd (.inr hf) e
    ·exact h k (by omega) (by omega)
   ·intro h k h1 h2;exact h k (by omega) (by omega)
theorem RR{dS:List cQ}{pre:List eF}{f:Int→Nat→Bool}(h:sX dS pre f)(hok:yR dS pre)(u:eF)(a s:Nat)(ha:u.address=a)(h1:1≤s)(hs:jQ dS u=(a:Int)+s-1)(h2:jQ dS u≤512):nT (f u.univ) s a=!wQ dS u pre:=by
 rw[kP,EX];simp only[Bool.not_eq_true',wQ,List.any_eq_false,decide_eq_true_eq,not_and];constructor
 ·intro hf x hx e1 e2 e3;have hx':=hok x hx;obtain⟨k,hk⟩:∃k:Nat,(k:Int)=max x.address a:=⟨(max x.address (a:Int)).toNat,by omega⟩
  have hf':=(hf k (by omega) (by omega)).2;have:f u.univ k=true:=(h u.univ k).2 ⟨x,hx,e1,by omega,by omega⟩;rw[this]at hf';simp at hf'
 ·intro hf k h3 h4;refine⟨by omega,?_⟩;cases Yr:f u.univ k
  ·rfl
  ·obtain⟨x,hx,e1,e2,e3⟩:=(h u.univ k).1 Yr;exact absurd (show u.address≤jQ dS x by omega) (hf x hx e1 (by omega))
theorem QC{p:cQ}(h:me p=0):1≤p.size∧p.size≤512:=by
 unfold me at h;by_cases h1:qg p.name=false
 ·rw[aM h1]at h;simp at h
 ·rw[aK h1]at h;by_cases h2:cm p.size 1 512=false
  ·rw[aM h2]at h;simp at h
  ·simpa [cm]using h2
theorem Jv:∀(l pre:List cQ),tH pre l=0→∀p∈l,1≤p.size∧p.size≤512
 |[],pre,h,p,hp=>by simp at hp
 |q::rest,pre,h,p,hp=>by
  rw[tH]at h;by_cases e:me q=0
  ·rw[aM e]at h;by_cases e2:fD q.name (pre.map (·.name))=true
   ·rw[aM e2]at h;simp at h
   ·rw[aK e2]at h;simp only[dc]at hp;rcases hp with rfl|hp
    ·exact QC e
    ·exact Jv rest _ h p hp
  ·rw[aK e]at h;exact absurd h e
theorem RY{l:List cQ}(h:qo l=0):∀p∈l,1≤p.size∧p.size≤512:=by
 unfold qo at h;by_cases e:60<l.length
 ·rw[aM e]at h;simp at h
 ·rw[aK e]at h;exact Jv l [] h
theorem EP(nm:ByteArray):∀(l:List cQ),(fC nm l).2=true→(fC nm l).1∈l
 |[],h=>by simp [fC]at h
 |p::r,h=>by
  rw[fC]at h ⊢;by_cases e:p.name=nm
  ·rw[aM e];simp
  ·rw[aK e]at h ⊢;exact ru _ (EP nm r h)
theorem yR.snoc{dS:List cQ}{pre:List eF}(h:yR dS pre){u:eF}(h1:1≤u.address∧u.address≤jQ dS u∧jQ dS u≤512):yR dS (pre++[u]):=λx hx=>by
 simp only[dg,List.mem_singleton]at hx;rcases hx with hx|rfl
 ·exact h x hx
 ·exact h1
theorem nN(n lo hi:Int)(σ:Heap):l9 [.aj n,.aj lo,.aj hi] σ=some (.bool (cm n lo hi),σ):=by refine wrap_eq rfl ?_ rfl;show Ea _ _ _ σ=_;unfold Ea cm;by_cases h:lo≤n<;>simp only[aO,reduceCtorEq,h,true_and,false_and]
theorem B5(b:Bool)(n:Int)(σ:Heap):ur [.bool b,.aj n] σ=some (.aj (if b=true then n else 0),σ):=by refine wrap_eq rfl ?_ rfl;show EA _ _ σ=_;unfold EA;cases b<;>simp [aO,reduceCtorEq]
theorem FL(s:ByteArray){i:Nat}(h:i<s.size):A.mE (.str s) (.aj (i:Int))=some (.int .u8 (s.data.toList.getD i 0).toNat):=by
 have h1:s[i]? =some s[i]:=by simp [h]
 simp [A.mE,A.idx,h,SJ s i h];rfl
theorem JC(s:ByteArray):(decide (¬s=⟨#[]⟩))=decide (0<s.size):=by
 rw[decide_eq_decide];constructor
 ·intro h;rcases Nat.eq_zero_or_pos s.size with e|e
  ·exact absurd (ByteArray.ext (Array.eq_empty_of_size_eq_zero e)) h
  ·exact e
 ·rintro h rfl;exact absurd h (by decide)
theorem Vh(s:ByteArray)(hs:eD s)(σ:Heap):EM [.str s] σ=some (.bool (xA s),σ):=by
 refine wrap_eq rfl ?_ rfl;show ER _ σ=_;unfold ER;simp only[aO,reduceCtorEq];refine(Kw (p:=Dn) s (some (.bool false,σ)) ?_ ?_ ?_).trans ?_
 ·intro i c hi hc;have h1:bE ((i:Int)+1):=by unfold eD bV at hs;unfold bE;omega
  have h2:(i:Int)<s.size:=by omega
  simp only[aO,reduceCtorEq,h2,hc,dL h1,Dn];clear hc h1
  repeat' ((first|rw[rY]|rw[rX]|rw[rV]|rw[rB]|rw[rU]|rw[rT]);split<;>try simp only[aO,reduceCtorEq, *])
  all_goals first|rfl|(refine(aM ?_).symm;simp;omega)|(refine(aK ?_).symm;simp;omega)|(refine congrArg some (congrArg (λb=>(AV.bool b,σ)) ?_);rw[kP];simp;omega)
 ·simp only[aO,reduceCtorEq,Int.lt_irrefl]
 ·intro i;simp only[aO,reduceCtorEq]
 ·simp only[aO,reduceCtorEq,JC,xA];cases s.data.toList.all Dn<;>simp
theorem TG{s:ByteArray}(h:xA s=true):0<s.size:=by simp only[xA,dP,decide_eq_true_eq]at h;exact h.2
theorem Fq(s:ByteArray)(hs:eD s)(σ:Heap):yz [.str s] σ=some (.bool (qg s),σ):=by
 refine wrap_eq rfl ?_ rfl;show Ez _ σ=_;unfold Ez;simp only[aO,reduceCtorEq,Vh s hs];cases h:xA s
 ·simp [aO,reduceCtorEq,qg,h]
 ·have h0:=TG h;have:=FL s h0;simp only[Int.ofNat_zero]at this;simp only[aO,reduceCtorEq,this];simp only[qg,h,Bool.true_and];generalize s.data.toList.getD 0 0=c0 at *
  repeat' ((first|rw[rY]|rw[rX]|rw[rV]|rw[rB]|rw[rU]|rw[rT]);split<;>try simp only[aO,reduceCtorEq, *])
  all_goals first|rfl|(refine(aM ?_).symm;simp;omega)|(refine(aK ?_).symm;simp;omega)|(refine congrArg some (congrArg (λb=>(AV.bool b,σ)) ?_);rw[kP];simp;omega)
theorem Ta(s:ByteArray)(hs:eD s)(σ:Heap):Ed [.str s] σ=some (.bool (Ga s),σ):=by
 refine wrap_eq rfl ?_ rfl;show Ei _ σ=_;unfold Ei;simp only[aO,reduceCtorEq];refine(Kw (p:=pc) s (some (.bool false,σ)) ?_ ?_ ?_).trans ?_
 ·intro i c hi hc;have h1:bE ((i:Int)+1):=by unfold eD bV at hs;unfold bE;omega
  have h2:(i:Int)<s.size:=by omega
  simp only[aO,reduceCtorEq,h2,hc,dL h1,pc];clear h1
  repeat' ((first|rw[rY]|rw[rX]|rw[rV]|rw[rB]|rw[rU]|rw[rT]);split<;>try simp only[aO,reduceCtorEq, *])
  all_goals first|rfl|(refine(aM ?_).symm;simp;omega)|(refine(aK ?_).symm;simp;omega)|(refine congrArg some (congrArg (λb=>(AV.bool b,σ)) ?_);rw[kP];simp;omega)
 ·simp only[aO,reduceCtorEq,Int.lt_irrefl]
 ·intro i;simp only[aO,reduceCtorEq]
 ·simp only[aO,reduceCtorEq,JC,Ga];cases s.data.toList.all pc
  ·simp
  ·simp only[if_true,Bool.true_and];by_cases h0:0<s.size
   ·by_cases xF:s.size≤60
    ·have e0:=FL s h0;have e1:=FL s (i:=s.size-1) (by omega);simp only[Int.ofNat_zero]at e0;rw[show((s.size-1:Nat):Int)=(s.size:Int) -1 by omega]at e1;have h1:bE ((s.size:Int) -1):=by unfold eD bV at hs;unfold bE;omega
     have tJ:(s.size:Int)≤60:=by omega
     have hw:=dL h1;simp only[Cy,h0,xF];generalize s.data.toList.getD 0 0=c0 at *
     generalize s.data.toList.getD (s.size-1) 0=c1 at *
     simp only[aO,reduceCtorEq,h0,tJ,e0,e1,hw]
     repeat' ((first|rw[rY]|rw[rX]|rw[rV]|rw[rB]|rw[rU]|rw[rT]);split<;>try simp only[aO,reduceCtorEq, *])
     all_goals first|rfl|(refine(aM ?_).symm;simp;omega)|(refine(aK ?_).symm;simp;omega)|(refine congrArg some (congrArg (λb=>(AV.bool b,σ)) ?_);rw[kP];simp;omega)
    ·have tJ:¬(s.size:Int)≤60:=by omega
     simp [aO,reduceCtorEq,h0,tJ,Cy,xF]
   ·simp [aO,reduceCtorEq,h0,Cy]
theorem Kv(l:List Int)(hl:l.length≤bV)(σ:Heap):yu [sl 1 xq l] σ=some (.aj ((l.find? λn=>decide (¬n=0)).getD 0),σ):=by
 refine wrap_eq rfl ?_ rfl;show Eh (sl 1 xq l) σ=_;unfold Eh;simp only[aO,reduceCtorEq];refine(SO l (λn=>decide (¬n=0)) (λi=>[.aj 0,.aj (i:Int)]) σ (.exit 0,[.aj 0,.aj (l.length:Int)],σ) (λi n=>(.ret,[.aj n,.aj (i:Int)],σ)) (some (AV.aj 0,σ)) (λn=>some (AV.aj n,σ)) ?_ ?_ ?_ ?_).trans ?_
 ·intro i x hx;obtain⟨g1,g2,g3⟩:=Tt 1 xq hx;have g3:=g3 hl;simp only[aO,reduceCtorEq,g1,g2,g3]
  repeat' ((first|rw[rY]|rw[rX]|rw[rV]|rw[rB]|rw[rU]|rw[rT]);split<;>try simp only[aO,reduceCtorEq, *])
  all_goals first|with_reducible rfl|(simp [*];done)|(simp_all;done)|(simp_all;omega)|rfl
 ·exact yJ _ _ _
 ·simp only[aO,reduceCtorEq]
 ·intro i n;simp only[aO,reduceCtorEq]
 ·cases l.find? (λn=>decide (¬n=0))<;>rfl
theorem wj(n:Int)(σ:Heap):yh [.aj n] σ=some (.bool (cm n 0 65535),σ):=by refine wrap_eq rfl ?_ rfl;show DX _ σ=_;unfold DX;simp only[aO,reduceCtorEq,nN]
theorem Qm(l:List kL)(hok:dI FI l)(σ:Heap):DS [sl 3 jN l] σ=some (.aj (wO l),σ):=by
 refine wrap_eq rfl ?_ rfl;show DT (sl 3 jN l) σ=_;unfold DT wO;simp only[aO,reduceCtorEq];by_cases Da:30<l.length
 ·have zw:(30:Int)<l.length:=by omega
  simp only[aO,reduceCtorEq,Da,zw]
 ·have zw:¬(30:Int)<l.length:=by omega
  simp only[aO,reduceCtorEq,Da,zw]
  refine(mO (S:=Unit) (R:=Int) l (λpre x _=>
    if cm x.low 0 65535=false∨cm x.high 0 65535=false∨x.high<x.low then .out 1
    else if 0<pre.length∧x.low≤(pre.getLast?.map (·.high)).getD 0 then .out 7
    else if qg x.name=false then .out 5
    else if fD x.name (pre.map (·.name))=true then .out 6 else .go ())
   (λpre _=>[.aj 0,.aj (pre.length:Int)]) (λpre _=>σ++[aX.map (gQ (·.name) pre)])
   (λ_=>(.exit 0,[.aj 0,.aj (l.length:Int)],σ++[aX.map (gQ (·.name) l)])) (λpre _ r=>(.ret,[.aj r,.aj (pre.length:Int)],σ++[aX.map (gQ (·.name) pre)]))
   (λ_ _=>True) () (λ_=>some (AV.aj 0,σ)) (λr=>some (AV.aj r,σ)) ?_ ?_ trivial (λ_ _ _ _ _ _ _ _=>trivial) ?_ ?_).trans ?_
  ·intro pre x rest u hl _;have hx:=mQ hl;have hlt:=nS hl;have hi1:IntKind.i64.wrap ((pre.length:Int)+1)=(pre.length:Int)+1:=dL (by unfold bE;omega);have hi2:IntKind.i64.wrap ((pre.length:Int) -1)=(pre.length:Int) -1:=dL (by unfold bE;omega);have hlt':(pre.length:Int)<(l.length:Int):=by omega
   have hnm:=(hok.2 x (by rw[hl];simp)).2.2;have iO:=gW 3 jN l hx;have hN:=Fq _ hnm;by_cases h0:0<pre.length
   ·obtain⟨y,hy,hy2⟩:=KT hl h0;have GL:=JB 3 jN l h0 hy2;have ld:(0:Int)<pre.length:=by omega
    clear hl hx hlt hok Da zw hy2 hnm;simp only[aO,reduceCtorEq,Bo,Bp,Bq,BL,BE,BN,hlt',iO,wj,hi1,hi2,hN,ld,hy,h0]
    repeat' ((first|rw[rY]|rw[rX]|rw[rV]|rw[rB]|rw[rU]|rw[rT]);split<;>try simp only[aO,reduceCtorEq,Bo,Bp,Bq,BL,BE,BN,wj, *])
    all_goals first|with_reducible rfl|(simp [*];done)|(simp_all;done)|(simp_all;omega)|rfl
   ·have ld:¬(0:Int)<pre.length:=by omega
    clear hl hx hlt hok Da zw hnm;simp only[aO,reduceCtorEq,Bo,Bp,Bq,BL,BE,BN,hlt',iO,wj,hi1,hi2,hN,ld,h0]
    repeat' ((first|rw[rY]|rw[rX]|rw[rV]|rw[rB]|rw[rU]|rw[rT]);split<;>try simp only[aO,reduceCtorEq,Bo,Bp,Bq,BL,BE,BN,wj, *])
    all_goals first|with_reducible rfl|(simp [*];done)|(simp_all;done)|(simp_all;omega)|rfl
  ·intro u _;simp only[aO,reduceCtorEq,Int.lt_irrefl]
  ·intro u _;simp only[aO,reduceCtorEq]
  ·intros;simp only[aO,reduceCtorEq]
  ·refine(BB (lV:=CQ) ?_ ?_ (λn=>some (AV.aj n,σ)) l []).trans ?_
   ·intro pre;rfl
   ·intro pre x rest;rw[CQ];simp only[wS,sZ,td]
   ·rfl
theorem Qf(p:cQ)(hok:BJ p)(σ:Heap):DP [.agg (dY p)] σ=some (.aj (me p),σ):=by
 refine wrap_eq rfl ?_ rfl;show DR (.agg (dY p)) σ=_;obtain⟨pn,ps,l⟩:=p;obtain⟨hnm,hps,GP⟩:=hok;simp only at hnm hps GP;have hN:=Fq _ hnm;unfold DR me;simp only[aO,reduceCtorEq,lA,lB,lC,lE,lD,lF,hN,nN];cases hn:qg pn
 ·simp only[aO,reduceCtorEq]
 cases hz:cm ps 1 512
 ·simp only[aO,reduceCtorEq]
 by_cases h0:l.length=0
 ·obtain rfl:l=[]:=tE h0;simp [aO,reduceCtorEq]
 have ld:¬(l.length:Int)=0:=by omega
 by_cases Ht:40<l.length
 ·have CS:(40:Int)<l.length:=by omega
  simp only[aO,reduceCtorEq,h0,ld,Ht,CS]
 have CS:¬(40:Int)<l.length:=by omega
 simp only[aO,reduceCtorEq,h0,ld,Ht,CS]
 refine(mO (S:=Unit) (R:=Int) l (λpre x _=>
   if qg x.name=false then .out 5
   else if fD x.name (pre.map (·.name))=true then .out 6
   else if cm x.group 1 4=false then .out 4
   else if cm x.jY 1 ps=false∨cm x.jC 0 ps=false∨cm x.default 0 65535=false then .out 1
   else if x.jY=x.jC∨fD x.jY (slotsOf pre)=true∨(0<x.jC∧fD x.jC (slotsOf pre)=true)then .out 12
   else if wO x.ranges=0 then .go ()else .out (wO x.ranges))
  (λpre _=>[.lbx (dY ⟨pn,ps,l⟩),.aj 0,.aj (pre.length:Int)]) (λpre _=>σ++[aX.map (gQ (·.name) pre),aX.map (kW id (slotsOf pre))])
  (λ_=>(.exit 1,[.lbx (dY ⟨pn,ps,l⟩),.aj 0,.aj (l.length:Int)],σ++[aX.map (gQ (·.name) l),aX.map (kW id (slotsOf l))]))
  (λpre _ r=>(.ret,[.lbx (dY ⟨pn,ps,l⟩),.aj r,.aj (pre.length:Int)],σ++[aX.map (gQ (·.name) pre),aX.map (kW id (slotsOf pre))]))
  (λ_ _=>True) () (λ_=>some (AV.aj 0,σ)) (λr=>some (AV.aj r,σ)) ?_ ?_ trivial (λ_ _ _ _ _ _ _ _=>trivial) ?_ ?_).trans ?_
 ·intro pre x rest u hl _;have hx:=mQ hl;have hlt:=nS hl;have hi1:IntKind.i64.wrap ((pre.length:Int)+1)=(pre.length:Int)+1:=dL (by unfold bE;omega);have hi2:IntKind.i64.wrap ((pre.length:Int) -1)=(pre.length:Int) -1:=dL (by unfold bE;omega);have hlt':(pre.length:Int)<(l.length:Int):=by omega
  obtain⟨k1,k2,k3,k4,k5,k6⟩:=GP.2 x (by rw[hl];simp);have Yd:=Fq _ k1;have Yf:=Qm _ k6;have iO:=gW 7 gK l hx;clear hl hx hlt GP Ht CS h0 ld k1 k2 k3 k4 k5 k6 hnm hps hN hn hz;simp only[aO,reduceCtorEq,Eo,Ep,Er,Es,Et,Eu,Ev,EZ,EV,E4,lA,lB,lC,lE,lD,lF,hlt',iO,nN,wj,hi1,hi2,Yd,Yf,List.map_id]
  repeat' ((first|rw[rY]|rw[rX]|rw[rV]|rw[rB]|rw[rU]|rw[rT]);split<;>try simp only[aO,reduceCtorEq,Eo,Ep,Er,Es,Et,Eu,Ev,EZ,EV,E4,lA,lB,lC,lE,lD,lF,nN,wj,List.map_id,Kk,SR,Bool.or_false, *])
  all_goals first|rfl|(simp_all;done)|(simp_all [I9,Kk];done)|(simp only[I9,ite_false,ite_true,if_false,if_true, *]<;>simp_all)
 ·intro u _;simp only[aO,reduceCtorEq,Int.lt_irrefl]
 ·intro u _;simp only[aO,reduceCtorEq]
 ·intros;simp only[aO,reduceCtorEq]
 ·refine(BB (lV:=CP ps) ?_ ?_ (λn=>some (AV.aj n,σ)) l []).trans ?_
  ·intro pre;rfl
  ·intro pre x rest;rw[CP];simp only[wS,sZ,td]
  ·rfl
theorem Qe(l:List cQ)(hok:dI BJ l)(σ:Heap):DO [sl 3 dY l] σ=some (.aj (qo l),σ):=by
 refine wrap_eq rfl ?_ rfl;show DQ (sl 3 dY l) σ=_;unfold DQ qo;simp only[aO,reduceCtorEq];by_cases xF:60<l.length
 ·have tJ:(60:Int)<l.length:=by omega
  simp only[aO,reduceCtorEq,xF,tJ]
 have tJ:¬(60:Int)<l.length:=by omega
 simp only[aO,reduceCtorEq,xF,tJ]
 refine(mO (S:=Unit) (R:=Int) l (λpre x _=>if me x=0 then(if fD x.name (pre.map (·.name))=true then .out 6 else .go ())else .out (me x))
  (λpre _=>[.aj 0,.aj (pre.length:Int)]) (λpre _=>σ++[aX.map (gQ (·.name) pre)])
  (λ_=>(.exit 0,[.aj 0,.aj (l.length:Int)],σ++[aX.map (gQ (·.name) l)])) (λpre _ r=>(.ret,[.aj r,.aj (pre.length:Int)],σ++[aX.map (gQ (·.name) pre)]))
  (λ_ _=>True) () (λ_=>some (AV.aj 0,σ)) (λr=>some (AV.aj r,σ)) ?_ ?_ trivial (λ_ _ _ _ _ _ _ _=>trivial) ?_ ?_).trans ?_
 ·intro pre x rest u hl _;have hx:=mQ hl;have hlt:=nS hl;have hi1:IntKind.i64.wrap ((pre.length:Int)+1)=(pre.length:Int)+1:=dL (by unfold bE;omega);have hi2:IntKind.i64.wrap ((pre.length:Int) -1)=(pre.length:Int) -1:=dL (by unfold bE;omega);have hlt':(pre.length:Int)<(l.length:Int):=by omega
  have hP:=Qf x (hok.2 x (by rw[hl];simp));have iO:=gW 3 dY l hx;clear hl hx hlt hok xF tJ;simp only[aO,reduceCtorEq,lA,lB,lC,lE,lD,lF,hlt',iO,hi1,hP]
  repeat' ((first|rw[rY]|rw[rX]|rw[rV]|rw[rB]|rw[rU]|rw[rT]);split<;>try simp only[aO,reduceCtorEq,lA,lB,lC,lE,lD,lF, *])
  all_goals first|with_reducible rfl|(simp [*];done)|(simp_all;done)|(simp_all;omega)|rfl
 ·intro u _;simp only[aO,reduceCtorEq,Int.lt_irrefl]
 ·intro u _;simp only[aO,reduceCtorEq]
 ·intros;simp only[aO,reduceCtorEq]
 ·refine(BB (lV:=tH) ?_ ?_ (λn=>some (AV.aj n,σ)) l []).trans ?_
  ·intro pre;rfl
  ·intro pre x rest;rw[tH];simp only[wS,sZ,td]
  ·rfl
theorem KO{α:Type}(p:α→Bool)(l:List α):decide (0≤mZ p l)=l.any p:=by
 rcases Bw p l with⟨h1,h2,_⟩|⟨k,x,h1,h2,h3,_⟩
 ·rw[h1,kP];simp only[decide_eq_true_eq,List.any_eq_true];exact⟨λh=>by omega,λ⟨x,hx,hp⟩=>by rw[h2 x hx]at hp;cases hp⟩
 ·rw[h3,kP];simp only[decide_eq_true_eq,List.any_eq_true];exact⟨λ_=>⟨x,cx h1,h2⟩,λ_=>by omega⟩
theorem Ph(dyn:Nat→an→Heap→au)(l:List cQ)(hl:l.length≤bV)(n:Nat)(caps:an)(p:cQ→Bool)(σ:Heap)(hd:∀x∈l,dyn n ((.agg (dY x):AV)::caps) σ=some (.bool (p x),σ)):A4 dyn [sl 3 dY l,.fn n caps] σ=some (.aj (mZ p l),σ):=by
 refine wrap_eq rfl ?_ rfl;show A6 dyn (sl 3 dY l) (.fn n caps) σ=_;unfold A6;simp only[aO,reduceCtorEq]
 refine(mO (S:=Unit) (R:=Int) l (λpre x _=>if p x=true then .out (pre.length:Int)else .go ())
  (λpre _=>[.aj 0,.aj (pre.length:Int)]) (λ_ _=>σ) (λ_=>(.exit 0,[.aj 0,.aj (l.length:Int)],σ)) (λpre _ r=>(.ret,[.aj (pre.length:Int),.aj (pre.length:Int)],σ))
  (λ_ _=>True) () (λ_=>some (AV.aj (-1),σ)) (λr=>some (AV.aj r,σ)) ?_ ?_ trivial (λ_ _ _ _ _ _ _ _=>trivial) ?_ ?_).trans ?_
 ·intro pre x rest u hl' _;have hx:=mQ hl';have hlt:=nS hl';have hi1:IntKind.i64.wrap ((pre.length:Int)+1)=(pre.length:Int)+1:=dL (by unfold bE;unfold bV at hl;omega);have hlt':(pre.length:Int)<(l.length:Int):=by omega
  have iO:=gW 3 dY l hx;have rZ:=hd x (by rw[hl'];simp);simp only[aO,reduceCtorEq,lA,lB,lC,lE,lD,lF,hlt',iO,A.eB,jT,List.nil_append,rZ,hi1];cases p x<;>simp [aO,reduceCtorEq]
 ·intro u _;simp only[aO,reduceCtorEq,Int.lt_irrefl]
 ·intro u _;simp only[aO,reduceCtorEq]
 ·intro pre x rest s q hl' _ hb
  have:q=(pre.length:Int):=by
   cases hpx:p x
   ·rw[hpx]at hb;cases hb
   ·rw[hpx]at hb;simp at hb;exact hb.symm
  simp only[aO,reduceCtorEq,this]
 ·rw[B0 p _ _ l [] (by simp)];simp only[List.nil_append];split
  ·rename_i h;rw[h]
  ·rfl
theorem Pj(dyn:Nat→an→Heap→au)(l:List aA)(hl:l.length≤bV)(n:Nat)(caps:an)(p:aA→Bool)(σ:Heap)(hd:∀x∈l,dyn n ((.agg (ay x):AV)::caps) σ=some (.bool (p x),σ)):A5 dyn [sl 3 ay l,.fn n caps] σ=some (.aj (mZ p l),σ):=by
 refine wrap_eq rfl ?_ rfl;show A7 dyn (sl 3 ay l) (.fn n caps) σ=_;unfold A7;simp only[aO,reduceCtorEq]
 refine(mO (S:=Unit) (R:=Int) l (λpre x _=>if p x=true then .out (pre.length:Int)else .go ())
  (λpre _=>[.aj 0,.aj (pre.length:Int)]) (λ_ _=>σ) (λ_=>(.exit 0,[.aj 0,.aj (l.length:Int)],σ)) (λpre _ r=>(.ret,[.aj (pre.length:Int),.aj (pre.length:Int)],σ))
  (λ_ _=>True) () (λ_=>some (AV.aj (-1),σ)) (λr=>some (AV.aj r,σ)) ?_ ?_ trivial (λ_ _ _ _ _ _ _ _=>trivial) ?_ ?_).trans ?_
 ·intro pre x rest u hl' _;have hx:=mQ hl';have hlt:=nS hl';have hi1:IntKind.i64.wrap ((pre.length:Int)+1)=(pre.length:Int)+1:=dL (by unfold bE;unfold bV at hl;omega);have hlt':(pre.length:Int)<(l.length:Int):=by omega
  have iO:=gW 3 ay l hx;have rZ:=hd x (by rw[hl'];simp);simp only[aO,reduceCtorEq,Qz,QA,IW,IP,Rs,Rj,EE,hlt',iO,A.eB,jT,List.nil_append,rZ,hi1];cases p x<;>simp [aO,reduceCtorEq]
 ·intro u _;simp only[aO,reduceCtorEq,Int.lt_irrefl]
 ·intro u _;simp only[aO,reduceCtorEq]
 ·intro pre x rest s q hl' _ hb
  have:q=(pre.length:Int):=by
   cases hpx:p x
   ·rw[hpx]at hb;cases hb
   ·rw[hpx]at hb;simp at hb;exact hb.symm
  simp only[aO,reduceCtorEq,this]
 ·rw[B0 p _ _ l [] (by simp)];simp only[List.nil_append];split
  ·rename_i h;rw[h]
  ·rfl
theorem OY(dyn:Nat→an→Heap→au)(l:List aA)(hl:l.length≤bV)(n:Nat)(caps:an)(p:aA→Bool)(σ:Heap)(hd:∀x∈l,dyn n ((.agg (ay x):AV)::caps) σ=some (.bool (p x),σ)):uk dyn [sl 3 ay l,.fn n caps] σ=some (.bool (l.any p),σ):=by refine wrap_eq rfl ?_ rfl;show A0 dyn (sl 3 ay l) (.fn n caps) σ=_;unfold A0;simp only[aO,reduceCtorEq,Pj dyn l hl n caps p σ hd];refine congrArg some (congrArg (λb=>(AV.bool b,σ)) ?_);exact KO p l
theorem Po(dyn:Nat→an→Heap→au)(l:List aT)(hl:l.length≤bV)(n:Nat)(caps:an)(p:aT→Bool)(σ:Heap)(hd:∀x∈l,dyn n ((.agg (aN x):AV)::caps) σ=some (.bool (p x),σ)):A8 dyn [sl 3 aN l,.fn n caps] σ=some (.aj (mZ p l),σ):=by
 refine wrap_eq rfl ?_ rfl;show A9 dyn (sl 3 aN l) (.fn n caps) σ=_;unfold A9;simp only[aO,reduceCtorEq]
 refine(mO (S:=Unit) (R:=Int) l (λpre x _=>if p x=true then .out (pre.length:Int)else .go ())
  (λpre _=>[.aj 0,.aj (pre.length:Int)]) (λ_ _=>σ) (λ_=>(.exit 0,[.aj 0,.aj (l.length:Int)],σ)) (λpre _ r=>(.ret,[.aj (pre.length:Int),.aj (pre.length:Int)],σ))
  (λ_ _=>True) () (λ_=>some (AV.aj (-1),σ)) (λr=>some (AV.aj r,σ)) ?_ ?_ trivial (λ_ _ _ _ _ _ _ _=>trivial) ?_ ?_).trans ?_
 ·intro pre x rest u hl' _;have hx:=mQ hl';have hlt:=nS hl';have hi1:IntKind.i64.wrap ((pre.length:Int)+1)=(pre.length:Int)+1:=dL (by unfold bE;unfold bV at hl;omega);have hlt':(pre.length:Int)<(l.length:Int):=by omega
  have iO:=gW 3 aN l hx;have rZ:=hd x (by rw[hl'];simp);simp only[aO,reduceCtorEq,Q3,Q4,Q5,EO,RN,ES,hlt',iO,A.eB,jT,List.nil_append,rZ,hi1];cases p x<;>simp [aO,reduceCtorEq]
 ·intro u _;simp only[aO,reduceCtorEq,Int.lt_irrefl]
 ·intro u _;simp only[aO,reduceCtorEq]
 ·intro pre x rest s q hl' _ hb
  have:q=(pre.length:Int):=by
   cases hpx:p x
   ·rw[hpx]at hb;cases hb
   ·rw[hpx]at hb;simp at hb;exact hb.symm
  simp only[aO,reduceCtorEq,this]
 ·rw[B0 p _ _ l [] (by simp)];simp only[List.nil_append];split
  ·rename_i h;rw[h]
  ·rfl
theorem O2(dyn:Nat→an→Heap→au)(l:List aT)(hl:l.length≤bV)(n:Nat)(caps:an)(p:aT→Bool)(σ:Heap)(hd:∀x∈l,dyn n ((.agg (aN x):AV)::caps) σ=some (.bool (p x),σ)):um dyn [sl 3 aN l,.fn n caps] σ=some (.bool (l.any p),σ):=by refine wrap_eq rfl ?_ rfl;show A3 dyn (sl 3 aN l) (.fn n caps) σ=_;unfold A3;simp only[aO,reduceCtorEq,Po dyn l hl n caps p σ hd];refine congrArg some (congrArg (λb=>(AV.bool b,σ)) ?_);exact KO p l
theorem Ew(nm:ByteArray):∀(l:List cQ),fC nm l=match l.find? (λx:cQ=>decide (x.name=nm))with|some p=>(p,true)|none=>(⟨⟨#[]⟩,0,[]⟩,false)
 |[]=>rfl
 |p::l=>by
  rw[fC];by_cases h:p.name=nm
  ·simp [h]
  ·simp [h,Ew nm l]
theorem Qp(x:cQ)(nm:ByteArray)(σ:Heap):yc [.agg (dY x),.rp [.str nm]] σ=some (.bool (decide (x.name=nm)),σ):=by refine wrap_eq rfl ?_ rfl;show DU (.agg (dY x)) (.rp [.str nm]) σ=_;unfold DU;simp only[aO,reduceCtorEq,lA,lB,lC,lE,lD,lF];show(some (AV.str nm)).bind _=_;simp only[aO,reduceCtorEq]
theorem Zc(x:gh):A.bW [.k,.k,.k,.k,.k,.k,(.s 3)] (gK x)=gK x:=rfl
theorem VL(p:cQ)(b:Bool):A.nn C4 (.aG [.agg (dY p),.bool b])=.aG [.agg (dY p),.bool b]:=by show AV.aG [.agg [.str p.name,.aj p.size,A.nn (.e 7 [.k,.k,.k,.k,.k,.k,(.s 3)]) (sl 7 gK p.params)],.bool b]=_;rw[Nw Zc];rfl
theorem JF(l:List cQ)(hl:l.length≤bV)(nm:ByteArray)(σ:Heap):Bc [sl 3 dY l,.str nm] σ=some (.aG [.agg (dY (fC nm l).1),.bool (fC nm l).2],σ):=by
 have key:∃w,Be (sl 3 dY l) (.str nm) σ=some (w,σ)∧A.nn C4 w=.aG [.agg (dY (fC nm l).1),.bool (fC nm l).2]:=by
  unfold Be;simp only[aO,reduceCtorEq];rw[Ph _ l hl 64 [.rp [.str nm]] (λx=>decide (x.name=nm)) σ (λx _=>Qp x nm σ)];simp only[aO,reduceCtorEq];rw[Ew];rcases Bw (λx:cQ=>decide (x.name=nm)) l with⟨h1,_,h3⟩|⟨k,x,h1,h2,h3,h4,_⟩
  ·refine⟨.aG [.agg [.str ⟨#[]⟩,.aj 0,.aE],.bool false],?_,?_⟩
   ·rw[h1];simp only[aO,reduceCtorEq,show((-1:Int)<0)from by decide];rfl
   ·rw[h3];rfl
  ·refine⟨.aG [.agg (dY x),.bool true],?_,?_⟩
   ·rw[h3];simp only[aO,reduceCtorEq,lA,lB,lC,lE,lD,lF,show ¬((k:Int)<0)from by omega,gW 3 dY l h1]
   ·rw[h4];exact VL x true
 obtain⟨w,h1,h2⟩:=key;exact wrap_eq rfl h1 h2
def marks(f:Nat→Bool):an:=(List.range 513).map λk=>.bool (f k)
theorem wA(f:Nat→Bool){k:Nat}(h:k<513):(marks f)[k]? =some (.bool (f k)):=by simp [marks,h]
theorem uv(f:Nat→Bool):(marks f).length=513:=by simp [marks]
theorem J3(f:Nat→Bool){γ:Type}(K1 K2:γ):∀(s a:Nat)(pre:List Nat),(gy (λ_ k(_:Unit)=>if 512<k∨f k=true then(Rd.out ():Rd Unit Unit)else .go ()) pre (List.range' a s) ()).el (λ_=>K1) (λ_=>K2)=if nT f s a=true then K1 else K2
 |0,a,pre=>by simp [gy,nT,Rd.el]
 |s+1,a,pre=>by
  rw[List.range'_succ,gy,nT];by_cases h:512<a∨f a=true
  ·simp only[aM h,Rd.el];simp
  ·simp only[aK h];exact J3 f K1 K2 s (a+1) _
theorem Uj(a s:Int)(h:bE (a+s))(h':bE (a+s-1))(σ:Heap):vV [.np,.aj a,.aj s] σ=some (.bool (decide (a+s-1≤512)),σ):=by refine wrap_eq rfl ?_ rfl;show yf .np (.aj a) (.aj s) σ=_;unfold yf;simp only[aO,reduceCtorEq,show A.eql .p AV.np AV.np=some (.bool true)from rfl,dL h,dL h']
theorem Tb(cs:an){k:Nat}(h:k<513):A.p9 513 1 (.rp cs) (.aj (k:Int))=some (.rp (cs.drop k)):=by
 have h1:A.idx 513 (.aj (k:Int))=some k:=by show(if(0:Int)≤(k:Int)∧(k:Int)<((513:Nat):Int)then some (k:Int).toNat else none)=some k;rw[aM ⟨by omega,by omega⟩];rfl
 unfold A.p9;rw[h1];simp only[aC,Nat.mul_one]
theorem Ul(f:Nat→Bool)(a s:Nat)(hs:a≤1024∧s≤1024)(σ:Heap):vV [.rp (marks f),.aj (a:Int),.aj (s:Int)] σ=some (.bool (nT f s a),σ):=by
 refine wrap_eq rfl ?_ rfl;show yf (.rp (marks f)) (.aj (a:Int)) (.aj (s:Int)) σ=_;unfold yf;have hw:IntKind.i64.wrap ((a:Int)+s)=(a:Int)+s:=dL (by unfold bE;omega);simp only[aO,reduceCtorEq,show A.eql .p (AV.rp (marks f)) AV.np=some (.bool false)from rfl,hw]
 refine(mO (S:=Unit) (R:=Unit) (List.range' a s) (λ_ k(_:Unit)=>if 512<k∨f k=true then(Rd.out ():Rd Unit Unit)else .go ())
  (λpre _=>[.bool false,.aj ((a:Int)+(pre.length:Int))]) (λ_ _=>σ) (λ_=>(.exit 0,[.bool false,.aj ((a:Int)+s)],σ)) (λpre _ _=>(.ret,[.bool false,.aj ((a:Int)+(pre.length:Int))],σ))
  (λ_ _=>True) () (λ_=>some (AV.bool true,σ)) (λ_=>some (AV.bool false,σ)) ?_ ?_ trivial (λ_ _ _ _ _ _ _ _=>trivial) ?_ ?_ (hv:=by simp)).trans ?_
 ·intro pre k rest u hl _;have hx:=mQ hl;have hlt:=nS hl;rw[List.length_range']at hlt
  obtain rfl:a+pre.length=k:=by have:=(bK.1 hx).2;simpa [List.getElem_range']using this
  have hlt':(a:Int)+(pre.length:Int)<(a:Int)+s:=by omega
  have hi1:IntKind.i64.wrap ((a:Int)+(pre.length:Int)+1)=(a:Int)+((pre.length:Int)+1):=by rw[dL (by unfold bE;omega)];omega
  have w8:(a:Int)+(pre.length:Int)=((a+pre.length:Nat):Int):=by omega
  clear hl hx;by_cases h5:512<a+pre.length
  ·have Hu:(512:Int)<(a:Int)+(pre.length:Int):=by omega
   simp only[aO,reduceCtorEq,hlt',h5,Hu]
  have Hu:¬(512:Int)<(a:Int)+(pre.length:Int):=by omega
  have hp:A.aD 0 ((marks f).drop (a+pre.length))=some (.bool (f (a+pre.length))):=by rw[HV];simp only[A.aD,Nat.add_zero,wA f (show a+pre.length<513 by omega)];rfl
  simp only[aO,reduceCtorEq,hlt',h5,Hu,show A.jy (AV.rp (marks f))=some (.rp (marks f))from rfl];rw[w8,Tb _ (by omega)];simp only[aO,reduceCtorEq,hp];cases hf:f (a+pre.length)
  ·simp only[aO,reduceCtorEq,←w8,hi1]
  ·simp only[aO,reduceCtorEq,←w8]
 ·intro u _;rw[List.length_range'];exact yJ _ _ _
 ·intro u _;simp only[aO,reduceCtorEq]
 ·intros;simp only[aO,reduceCtorEq]
 ·rw[J3];cases nT f s a<;>rfl
theorem Uk(f:Nat→Bool)(a s:Nat)(hs:a≤1024∧s≤1024){σ:Heap}{id:Nat}(h:σ[id]? =some (.box (marks f))):vV [.op id 0,.aj (a:Int),.aj (s:Int)] σ=some (.bool (nT f s a),σ):=by
 refine K8 (args':=[.rp (marks f),.aj (a:Int),.aj (s:Int)]) rfl ?_ rfl (Ul f a s hs []) rfl
 have e:A.qd σ 0 7 (marks f)=some (marks f):=by
  have key:∀(l:List Nat),A.qd σ 0 7 (l.map λk=>AV.bool (f k))=some (l.map λk=>AV.bool (f k)):=by
   intro l;induction l with
   |nil=>simp [A.qd]
   |cons x l ih=>simp [A.qd,A.br,ih]
  exact key _
 simp [A.cX,A.br,h,e]
def mM(b:Nat):List Int→List (AV×AV)
 |[]=>[]
 |v::r=>(.int .i64 v,.op b 0)::mM (b+1) r
def dV(σ:Heap)(vs:List Int)(f:Int→Nat→Bool):Heap:=σ++(aX.map (mM (σ.length+1) vs)::vs.map λv=>aX.box (marks (f v)))
theorem K7(v:Int):∀(vs:List Int)(b:Nat),mM b (vs++[v])=mM b vs++[(.aj v,.op (b+vs.length) 0)]
 |[],b=>rfl
 |w::r,b=>by simp only[jT,mM,K7 v r (b+1),List.length_cons];rw[show b+1+r.length=b+(r.length+1) by omega]
theorem B4(v:Int):∀(vs:List Int)(b:Nat),A.find .i (.aj v) (mM b vs)=some (if v∈vs then some (.op (b+vs.idxOf v) 0)else none)
 |[],b=>rfl
 |w::r,b=>by
  simp only[mM,A.find,A.dr,A.jG,if_true,aC];by_cases h:v=w
  ·subst h;simp
  ·have h1:(v==w)=false:=by simpa using h
   have h2:(w==v)=false:=by simpa using λe:w=v=>h e.symm
   simp only[h1,aQ,B4 v r (b+1),dc,h,false_or,List.idxOf_cons,h2];rw[show b+1+r.idxOf v=b+(r.idxOf v+1) by omega]
theorem LU(v:Int)(w:AV):∀(vs:List Int)(b:Nat),v∉vs→A.upd .i (.aj v) w (mM b vs)=some (mM b vs++[(.aj v,w)])
 |[],b,_=>rfl
 |x::r,b,h=>by
  simp only[dc,not_or]at h;have h1:(v==x)=false:=by simpa using h.1
  simp only[mM,A.upd,A.dr,A.jG,if_true,aC,h1,aQ,LU v w r (b+1) h.2,dN,jT]
theorem LW(σ:Heap)(vs:List Int)(f:Int→Nat→Bool):(dV σ vs f).length=σ.length+1+vs.length:=by simp [dV];omega
theorem Cg(σ:Heap)(vs:List Int)(f:Int→Nat→Bool):(dV σ vs f)[σ.length]? =some (.map (mM (σ.length+1) vs)):=by simp [dV]
theorem LV(σ:Heap){vs:List Int}(f:Int→Nat→Bool){v:Int}(h:v∈vs):(dV σ vs f)[σ.length+1+vs.idxOf v]? =some (.box (marks (f v))):=by
 unfold dV;rw[eC (by omega),show σ.length+1+vs.idxOf v-σ.length=vs.idxOf v+1 by omega,List.getElem?_cons_succ,xj]
 have:vs[vs.idxOf v]? =some v:=by have hl:=List.idxOf_lt_length_of_mem h;rw[bQ hl,List.getElem_idxOf hl]
 rw[this];rfl
theorem Ve(σ:Heap){vs:List Int}(hn:vs.Nodup){f f':Int→Nat→Bool}{v:Int}(h:v∈vs)(ho:∀w,w≠v→f' w=f w):(dV σ vs f).set (σ.length+1+vs.idxOf v) (.box (marks (f' v)))=dV σ vs f':=by
 unfold dV;rw[nZ _ _ (by omega),show σ.length+1+vs.idxOf v-σ.length=vs.idxOf v+1 by omega,List.set_cons_succ];refine congrArg (λz=>σ++(aX.map (mM (σ.length+1) vs)::z)) ?_;clear σ;induction vs with
 |nil=>cases h
 |cons w r ih=>
  rw[List.nodup_cons]at hn;rw[List.idxOf_cons];by_cases e:w=v
  ·subst e;simp only[beq_self_eq_true,bh,eT,List.set_cons_zero];exact congrArg (aX.box (marks (f' w))::·) (List.map_congr_left λx hx=>by rw[ho x (λe=>hn.1 (e▸hx))])
  ·have e2:(w==v)=false:=by simpa using e
   simp only[e2,aQ,eT,List.set_cons_succ];rw[ih hn.2 ((dc.1 h).resolve_left λq=>e q.symm),ho w e]
theorem Vd(σ:Heap)(vs:List Int){f:Int→Nat→Bool}{v:Int}(h:∀k,f v k=false):((dV σ vs f)++[aX.box (List.replicate 513 bF)]).set σ.length (.map (mM (σ.length+1) (vs++[v])))=dV σ (vs++[v]) f:=by
 have e:marks (f v)=List.replicate 513 bF:=by rw[show f v=λ_=>false from funext h];refine List.eq_replicate_iff.2 ⟨uv _,λb hb=>?_⟩;obtain⟨k,_,rfl⟩:=jS.1 hb;rfl
 unfold dV;simp only[gl,jT];rw[nZ _ _ (bH _),Nat.sub_self,List.set_cons_zero,List.map_append,eT,e];rfl
theorem SQ(g g':Nat→Bool){k:Nat}(hk:k<513)(h1:g' k=true)(h2:∀j,j≠k→g' j=g j):A.aV k [AV.bool true] (marks g)=some (marks g'):=by
 unfold A.aV;rw[aM (by rw[uv];simp;omega)];refine congrArg some (List.ext_getElem? λj=>?_);simp only[gl,jT,List.nil_append,List.length_cons,List.length_nil];by_cases hj:j<k
 ·rw[eG (by rw[i6,uv];omega),List.getElem?_take_of_lt hj,wA _ (by omega),wA _ (by omega),h2 j (by omega)]
 ·rw[eC (by rw[i6,uv];omega),i6,uv,Nat.min_eq_left (by omega)];by_cases e:j=k
  ·subst e;rw[Nat.sub_self,List.getElem?_cons_zero,wA _ hk,h1]
  ·rw[show j-k=(j-k-1)+1 by omega,List.getElem?_cons_succ,List.getElem?_drop,show k+(0+1)+(j-k-1)=j by omega];by_cases hj2:j<513
   ·rw[wA _ hj2,wA _ hj2,h2 j e]
   ·rw[iZ (by rw[uv];omega),iZ (by rw[uv];omega)]
theorem Cs{α γ:Type}(K1:Unit→γ)(K2:Unit→γ):∀(l pre:List α),(gy (λ_(x:α)(_:Unit)=>(Rd.go ():Rd Unit Unit)) pre l ()).el K1 K2=K1 ()
 |[],pre=>rfl
 |x::l,pre=>by rw[gy];exact Cs K1 K2 l _
theorem JJ{α S:Type}{body:List α→α→S→Rd S Int}{lV:List α→List α→Int}(h0:∀pre,lV pre []=0)(h:∀pre x rest s,lV pre (x::rest)=(body pre x s).el (λ_=>lV (pre++[x]) rest) (λr=>r)) {γ:Type} (K:Int→γ):
  ∀(l pre:List α)(s:S),(gy body pre l s).el (λ_=>K 0) K=K (lV pre l)
 |[],pre,s=>by rw[gy,h0];rfl
 |x::l,pre,s=>by
  rw[gy,h pre x l s];cases body pre x s with
  |go s'=>exact JJ h0 h K l (pre++[x]) s'
  |out r=>rfl
theorem R3(f:Int→Nat→Bool)(v:Int)(a:Nat):iX f v a 0=f:=by funext w k;unfold iX;rw[aK (by omega)]
theorem Ku{γ:Type}(σ:Heap){vs:List Int}(hn:vs.Nodup)(f:Int→Nat→Bool)(u:eF)(a s:Nat)(ha:u.address=a)(hs:a+s≤513)(hm:u.univ∈vs)(K:an→Heap→Option γ):
  (A.loop (λv11 eY=>
   ((A.lb (ah v11 0)).bind λ_=>some (3)).bind λZg=>
   ((A.lb (ah v11 0)).bind λiq=>A.aD Zg iq).bind λbf=>
   (A.add bf (.aj (s:Int))).bind λbG=>
   (A.lss (ah v11 1) bG).bind λbM=>
   A.cond bM (
    ((A.lb (ah v11 0)).bind λ_=>some (2)).bind λZj=>
    ((A.lb (ah v11 0)).bind λoX=>A.aD Zj oX).bind λcU=>
    (A.look .i (.om σ.length) cU AV.np eY).bind λbw=>
    (A.jy bw).bind λbX=>
    (A.p9 513 1 bX (ah v11 1)).bind λcy=>
    (A.storeAt cy [AV.bool true] eY).bind λmG=>
    (A.add (ah v11 1) (AV.aj 1)).bind λcD=>
    some (AX.normal,[(ah v11 0),cD],mG)) (
    some (AX.exit 0,[(ah v11 0),(ah v11 1)],eY))) [.lbx (fM u),.aj (a:Int)] (dV σ vs f)).bind (λlq=>
 bif decide (lq.1=AX.exit 0)then K lq.2.1 lq.2.2 else none)=K [.lbx (fM u),.aj ((a:Int)+s)] (dV σ vs (iX f u.univ a s)):=by
 have hw:IntKind.i64.wrap ((a:Int)+s)=(a:Int)+s:=dL (by unfold bE;omega)
 refine(mO (S:=Unit) (R:=Unit) (List.range' a s) (λ_ k(_:Unit)=>(Rd.go ():Rd Unit Unit))
  (λpre _=>[.lbx (fM u),.aj ((a:Int)+(pre.length:Int))]) (λpre _=>dV σ vs (iX f u.univ a pre.length)) (λ_=>(.exit 0,[.lbx (fM u),.aj ((a:Int)+s)],dV σ vs (iX f u.univ a s))) (λpre _ _=>(.ret,[],σ))
  (λ_ _=>True) () (λ_=>K [.lbx (fM u),.aj ((a:Int)+s)] (dV σ vs (iX f u.univ a s))) (λ_=>none) ?_ ?_ trivial (λ_ _ _ _ _ _ _ _=>trivial) ?_ ?_ (hv:=by simp) (dG:=by rw[List.length_nil,R3])).trans (Cs _ _ _ _)
 ·intro pre k rest t hl _;have hx:=mQ hl;have hlt:=nS hl;rw[List.length_range']at hlt
  obtain rfl:a+pre.length=k:=by have:=(bK.1 hx).2;simpa [List.getElem_range']using this
  have hlt':(a:Int)+(pre.length:Int)<(a:Int)+s:=by omega
  have hi1:IntKind.i64.wrap ((a:Int)+(pre.length:Int)+1)=(a:Int)+((pre.length:Int)+1):=by rw[dL (by unfold bE;omega)];omega
  have w8:(a:Int)+(pre.length:Int)=((a+pre.length:Nat):Int):=by omega
  clear hl hx
  have Gi:A.look .i (.om σ.length) (.aj u.univ) AV.np (dV σ vs (iX f u.univ a pre.length))=some (.op (σ.length+1+vs.idxOf u.univ) 0):=by rw[uB .i rfl (Cg σ vs _),B4,aM hm];rfl
  have WS:A.p9 513 1 (.op (σ.length+1+vs.idxOf u.univ) 0) (.aj ((a+pre.length:Nat):Int))=some (.op (σ.length+1+vs.idxOf u.univ) (a+pre.length)):=by
   have h1:A.idx 513 (.aj ((a+pre.length:Nat):Int))=some (a+pre.length):=by show(if(0:Int)≤((a+pre.length:Nat):Int)∧((a+pre.length:Nat):Int)<((513:Nat):Int)then some ((a+pre.length:Nat):Int).toNat else none)=_;rw[aM ⟨by omega,by omega⟩];rfl
   unfold A.p9;rw[h1];simp only[aC,Nat.mul_one,Nat.zero_add]
  have hst:A.storeAt (.op (σ.length+1+vs.idxOf u.univ) (a+pre.length)) [.bool true] (dV σ vs (iX f u.univ a pre.length))=some (dV σ vs (iX f u.univ a (pre.length+1))):=by
   simp only[A.storeAt,LV σ _ hm]
   rw[SQ _ (iX f u.univ a (pre.length+1) u.univ) (by omega) (by unfold iX;rw[aM ⟨rfl,by omega,by omega⟩]) (λj hj=>by
    unfold iX;by_cases q:a≤j∧j<a+pre.length
    ·rw[aM ⟨rfl,by omega,by omega⟩,aM ⟨rfl,q.1,q.2⟩]
    ·rw[aK (by omega),aK (by omega)])]
   simp only[dN];rw[Ve σ hn hm (λw hw=>by funext j;unfold iX;rw[aK (λq=>hw q.1),aK (λq=>hw q.1)])]
  simp only[aO,reduceCtorEq,kD,kE,kF,kG,kI,kH,kJ,ha,hw,hlt',Gi,show A.jy (.op (σ.length+1+vs.idxOf u.univ) 0)=some (.op (σ.length+1+vs.idxOf u.univ) 0)from rfl];rw[w8,WS];simp only[aO,reduceCtorEq,hst,←w8,hi1]
 ·intro t _;rw[List.length_range'];simp only[aO,reduceCtorEq,kD,kE,kF,kG,kI,kH,kJ,ha,hw,Int.lt_irrefl]
 ·intro t _;simp only[aO,reduceCtorEq]
 ·intro pre x rest t r _ _ hb;cases hb
theorem Vc(σ:Heap){vs:List Int}(hn:vs.Nodup)(f:Int→Nat→Bool)(u:eF)(a s:Nat)(ha:u.address=a)(hs:a+s≤513)(hf:u.univ∉vs→∀k,f u.univ k=false):
  Bg [.om σ.length,.agg (fM u),.aj (s:Int)] (dV σ vs f)=some (.aG [],dV σ (if u.univ∈vs then vs else vs++[u.univ]) (iX f u.univ a s)):=by
 have e:ym (.om σ.length) (.agg (fM u)) (.aj (s:Int)) (dV σ vs f)=some (.aG [],dV σ (if u.univ∈vs then vs else vs++[u.univ]) (iX f u.univ a s)):=by
  unfold ym
  have Gi:A.look .i (.om σ.length) (.aj u.univ) AV.np (dV σ vs f)=some (if u.univ∈vs then .op (σ.length+1+vs.idxOf u.univ) 0 else .np):=by rw[uB .i rfl (Cg σ vs _),B4];by_cases hm:u.univ∈vs<;>simp [hm]
  simp only[aO,reduceCtorEq,kD,kE,kF,kG,kI,kH,kJ,Gi];by_cases hm:u.univ∈vs
  ·simp only[aM hm,show A.eql .p (.op (σ.length+1+vs.idxOf u.univ) 0) AV.np=some (.bool false)from rfl,aO,reduceCtorEq,kD,kE,kF,kG,kI,kH,kJ,ha];exact Ku σ hn f u a s ha hs hm λ_ h=>some (AV.aG [],h)
  ·have YM:A.gO .i (.om σ.length) (.aj u.univ) (.op (dV σ vs f).length 0) (dV σ vs f++[aX.box (List.replicate 513 bF)])=some (dV σ (vs++[u.univ]) f):=by rw[yX .i rfl (es:=mM (σ.length+1) vs) (by rw[eG (by rw[LW];omega)];exact Cg σ vs f),LU _ _ _ _ hm];rw[dN,LW,←K7,Vd σ vs (hf hm)]
   simp only[aK hm,show A.eql .p AV.np AV.np=some (.bool true)from rfl,aO,reduceCtorEq,kD,kE,kF,kG,kI,kH,kJ,YM,ha];exact Ku σ (by rw[List.nodup_append];exact⟨hn,by simp,λx hx y hy e=>hm (by simp at hy;rw[←hy,←e];exact hx)⟩) f u a s ha hs (by simp) λ_ h=>some (AV.aG [],h)
 unfold Bg A.wrap;rw[Bool.false_and,aQ];show(ym (.om σ.length) (.agg (fM u)) (.aj (s:Int)) (dV σ vs f)).map _=_;rw[e];rfl
theorem R6{α:Type}(f:α→Int){l pre rest:List α}{x:α}(h:l=pre++x::rest)(n:Int):(∃y,0<pre.length∧l[pre.length-1]? =some y∧uN (pre.map f) n=decide (n≤f y))∨(¬0<pre.length∧uN (pre.map f) n=false):=by
 by_cases h0:0<pre.length
 ·obtain⟨y,hy,hy2⟩:=KT h h0;exact .inl ⟨y,h0,hy2,by simp [uN,List.getLast?_map,hy]⟩
 ·obtain rfl:pre=[]:=tE (by omega);exact .inr ⟨h0,rfl⟩
theorem TQ(σ:Heap)(vs:List Int)(f:Int→Nat→Bool)(v:Int):A.look .i (.om σ.length) (.aj v) AV.np (dV σ vs f)=some (if v∈vs then .op (σ.length+1+vs.idxOf v) 0 else .np):=by rw[uB .i rfl (Cg σ vs _),B4];by_cases hm:v∈vs<;>simp [hm]
theorem Lh(σ:Heap)(vs:List Int)(f:Int→Nat→Bool)(n:Int):A.fin σ (.aj n) (dV σ vs f)=some (.aj n,σ):=FB _ _ _ _
theorem El(r:cK)(hok:oI r)(σ:Heap):Bb [.agg (dM r)] σ=some (.aj (fY r),σ):=by
 refine wrap_eq rfl ?_ rfl;show DW (.agg (dM r)) σ=_;obtain⟨GO,YN⟩:=hok;have HF:=GO.1;unfold DW fY;simp only[aO,reduceCtorEq,pN,pO,nQ,nP,pV,Qe _ GO];by_cases hf:qo r.cE=0;case neg=>simp only[aO,reduceCtorEq,hf]
 by_cases h4:400<r.gC.length
 ·have h4':(400:Int)<r.gC.length:=by omega
  simp only[aO,reduceCtorEq,pN,pO,nQ,nP,pV,hf,h4,h4']
 have h4':¬(400:Int)<r.gC.length:=by omega
 simp only[aO,reduceCtorEq,pN,pO,nQ,nP,pV,hf,h4,h4'];have Me:=RY hf;generalize Di:r.gC=l at *
 refine(mO (S:=List Int×(Int→Nat→Bool)) (R:=Int) l (λpre u s=>if cm u.aH 1 9999=false then .out 1
    else if uN (pre.map (·.aH)) u.aH=true then .out 7
    else if(fC u.fV r.cE).2=false then .out 5
    else if cm u.univ 1 64=false∨cm u.address 1 512=false∨512<jQ r.cE u then .out 1
    else if wQ r.cE u pre=true then .out 12 else .go (if u.univ∈s.1 then s.1 else s.1++[u.univ],iX s.2 u.univ u.address.toNat (fC u.fV r.cE).1.size.toNat))
  (λpre _=>[.lbx (dM r),.aj 0,.aj (pre.length:Int)]) (λpre s=>dV σ s.1 s.2)
  (λs=>(.exit 0,[.lbx (dM r),.aj 0,.aj (l.length:Int)],dV σ s.1 s.2)) (λpre s n=>(.ret,[.lbx (dM r),.aj n,.aj (pre.length:Int)],dV σ s.1 s.2))
  (λpre s=>yR r.cE pre∧sX r.cE pre s.2∧s.1.Nodup∧∀v,v∉s.1→∀k,s.2 v k=false) ([],λ_ _=>false) (λ_=>some (AV.aj 0,σ)) (λn=>some (AV.aj n,σ)) ?_ ?_ ⟨(by intro x hx;simp at hx),sX.nil _,List.nodup_nil,λ_ _ _=>rfl⟩ ?_ ?_ ?_).trans ?_
 ·intro pre u rest s hl hP;have hx:=mQ hl;have hlt:=nS hl;have hi1:IntKind.i64.wrap ((pre.length:Int)+1)=(pre.length:Int)+1:=dL (by unfold bE;omega);have hi2:IntKind.i64.wrap ((pre.length:Int) -1)=(pre.length:Int) -1:=dL (by unfold bE;omega);have hlt':(pre.length:Int)<(l.length:Int):=by omega
  have hmp:pre.length≤bV:=by unfold bV;omega
  have iO:=gW 4 fM l hx;have Db:=JF r.cE HF u.fV;have ho:=R6 (·.aH) hl u.aH;obtain⟨vs,f⟩:=s;obtain⟨z7,z8,xG,xH⟩:=hP;dsimp only at z7 z8 xG xH ⊢;clear YN h4 h4' hl hx;simp only[aO,reduceCtorEq,kD,kE,kF,kG,kI,kH,kJ,pN,pO,nQ,nP,pV,Di,hlt',iO,Db,lA,lB,lC,lE,lD,lF,nN];cases h1:cm u.aH 1 9999
  ·simp only[aO,reduceCtorEq]
  simp only[aO,reduceCtorEq];rcases ho with⟨y,h0,hy,ho⟩|⟨h0,ho⟩
  case' inl=>
   have ld:(0:Int)<pre.length:=by omega
   have GL:=JB 4 fM l h0 hy;by_cases hq:u.aH≤y.aH
   ·simp only[aO,reduceCtorEq,kD,kE,kF,kG,kI,kH,kJ,pN,pO,nQ,nP,pV,Di,ld,hi2,GL,ho,hq]
   simp only[aO,reduceCtorEq,kD,kE,kF,kG,kI,kH,kJ,pN,pO,nQ,nP,pV,Di,ld,hi2,GL,ho,hq]
  case' inr=>
   have ld:¬(0:Int)<pre.length:=by omega
   simp only[aO,reduceCtorEq,ld,ho]
  all_goals
   try simp only[aO,reduceCtorEq,kD,kE,kF,kG,kI,kH,kJ,pN,pO,nQ,nP,pV,Di,Db]
   cases hp:(fC u.fV r.cE).2
   ·simp only[aO,reduceCtorEq,lA,lB,lC,lE,lD,lF]
   have hsz:=Me _ (EP _ _ hp);try simp only[aO,reduceCtorEq,kD,kE,kF,kG,kI,kH,kJ,lA,lB,lC,lE,lD,lF,nN]
   cases hu:cm u.univ 1 64
   ·simp only[aO,reduceCtorEq]
   cases ha:cm u.address 1 512
   ·simp only[aO,reduceCtorEq,kD,kE,kF,kG,kI,kH,kJ,nN,ha]
   have ha':1≤u.address∧u.address≤512:=by simpa [cm]using ha
   have hw1:IntKind.i64.wrap (u.address+(fC u.fV r.cE).1.size)=u.address+(fC u.fV r.cE).1.size:=dL (by unfold bE;omega);have Ot:IntKind.i64.wrap (u.address+(fC u.fV r.cE).1.size-1)=jQ r.cE u:=dL (by unfold bE;omega);have YB:jQ r.cE u=u.address+(fC u.fV r.cE).1.size-1:=rfl;by_cases h5:512<jQ r.cE u
   ·simp only[aO,reduceCtorEq,kD,kE,kF,kG,kI,kH,kJ,lA,lB,lC,lE,lD,lF,nN,ha,hw1,Ot,h5]
   obtain⟨a,Hx⟩:∃a:Nat,u.address=a:=⟨u.address.toNat,by omega⟩
   obtain⟨n,hne⟩:∃n:Nat,(fC u.fV r.cE).1.size=n:=⟨(fC u.fV r.cE).1.size.toNat,by omega⟩
   have Dg:=RR z8 z7 u a n Hx (by omega) (by omega) (by omega)
   have hfree:vV [if u.univ∈vs then .op (σ.length+1+vs.idxOf u.univ) 0 else .np,.aj (a:Int),.aj (n:Int)] (dV σ vs f)=some (.bool (!wQ r.cE u pre),dV σ vs f):=by
    by_cases hm:u.univ∈vs
    ·rw[aM hm,Uk (f u.univ) a n (by omega) (LV σ f hm),Dg]
    ·rw[aK hm,Uj a n (by unfold bE;omega) (by unfold bE;omega),←Dg];have e:nT (f u.univ) n a=true:=(EX _ _ _).2 λk h1 h2=>⟨by omega,xH _ hm k⟩
     rw[e,show decide ((a:Int)+n-1≤512)=true from cj (by omega)]
   have iy:=Vc σ xG f u a n Hx (by omega) (xH u.univ);simp only[aO,reduceCtorEq,kD,kE,kF,kG,kI,kH,kJ,lA,lB,lC,lE,lD,lF,nN,ha,hw1,Ot,h5,TQ];rw[Hx,hne];simp only[aO,reduceCtorEq,hfree];cases hc:wQ r.cE u pre
   ·simp only[aO,reduceCtorEq,kD,kE,kF,kG,kI,kH,kJ,lA,lB,lC,lE,lD,lF,hne,iy,hi1,Int.toNat_natCast]
   ·simp only[aO,reduceCtorEq]
 ·intro s _;exact yJ _ _ _
 ·intro pre u rest s s' hl hP hb;obtain⟨vs,f⟩:=s;obtain⟨z7,z8,xG,xH⟩:=hP;dsimp only at z7 z8 xG xH hb;split at hb
  ·cases hb
  split at hb
  ·cases hb
  split at hb
  ·cases hb
  rename_i hp;split at hb
  ·cases hb
  rename_i hw;split at hb
  ·cases hb
  injection hb with hb
  subst hb;simp only[not_or,Bool.not_eq_false,cm,dP,decide_eq_true_eq]at hw hp;have hsz:=Me _ (EP _ _ (by simpa using hp));have YB:jQ r.cE u=u.address+(fC u.fV r.cE).1.size-1:=rfl;refine⟨z7.snoc ⟨hw.2.1.1,by omega,by omega⟩,z8.snoc u u.address.toNat _ (by omega) (by omega),?_,?_⟩
  ·dsimp only;split
   ·exact xG
   ·rename_i hm;rw[List.nodup_append];exact⟨xG,by simp,λx hx y hy e=>hm (by simp at hy;rw[←hy,←e];exact hx)⟩
  ·intro v hv k;dsimp only at hv ⊢
   have h1:v≠u.univ∧v∉vs:=by
    split at hv
    ·rename_i hm;exact⟨λe=>hv (e▸hm),hv⟩
    ·simp only[dg,List.mem_singleton,not_or]at hv;exact⟨hv.2,hv.1⟩
   unfold iX;rw[aK (λq=>h1.1 q.1)];exact xH v h1.2 k
 ·intro s _;simp only[aO,reduceCtorEq,Lh]
 ·intros;simp only[aO,reduceCtorEq,Lh]
 ·refine(JJ (lV:=xu r.cE) ?_ ?_ (λn=>some (AV.aj n,σ)) l [] _).trans ?_
  ·intro pre;rfl
  ·intro pre x rest s;rw[xu];simp only[wS,sZ,td]
  ·rfl
def lG(dS:List cQ)(u:eF):List bB:=(fC u.fV dS).1.params.map λx=>⟨u.aH,x.name⟩
def mj(r:cK):List bB:=r.gC.flatMap (lG r.cE)
theorem Qh{p:cQ}(h:me p=0):p.params.length≤40:=by
 unfold me at h
 repeat' split at h
 all_goals first|(simp at h;done)|omega
theorem Ju:∀(l pre:List cQ),tH pre l=0→∀p∈l,me p=0
 |[],pre,h,p,hp=>by simp at hp
 |q::rest,pre,h,p,hp=>by
  rw[tH]at h;by_cases e:me q=0
  ·rw[aM e]at h;by_cases e2:fD q.name (pre.map (·.name))=true
   ·rw[aM e2]at h;simp at h
   ·rw[aK e2]at h;simp only[dc]at hp;rcases hp with rfl|hp
    ·exact e
    ·exact Ju rest _ h p hp
  ·rw[aK e]at h;exact absurd h e
theorem TE{r:cK}(h:fY r=0):qo r.cE=0:=by
 unfold fY at h;split at h
 ·assumption
 ·rename_i h2;exact absurd h h2
theorem RX{l:List cQ}(h:qo l=0):∀p∈l,me p=0:=by
 unfold qo at h;by_cases e:60<l.length
 ·rw[aM e]at h;simp at h
 ·rw[aK e]at h;exact Ju l [] h
theorem JE{r:cK}(h:fY r=0)(nm:ByteArray):(fC nm r.cE).1.params.length≤40:=by
 rw[Ew];cases hf:r.cE.find? (λx:cQ=>decide (x.name=nm))with
 |none=>exact kQ _
 |some p=>exact Qh (RX (TE h) p (zn hf))
theorem Ek{r:cK}(h:fY r=0):∀(l:List eF),(l.flatMap (lG r.cE)).length≤l.length*40
 |[]=>by simp
 |u::l=>by
  have h1:=JE h u.fV;have h2:=Ek h l;rw[List.flatMap_cons,List.length_append,List.length_cons,Nat.succ_mul];have h3:(lG r.cE u).length=(fC u.fV r.cE).1.params.length:=by simp [lG]
  omega
theorem VK(l:List bB)(n:Int):A.nn (.t [(.s 2),.k]) (.aG [if l=[]then .aE else sl 2 bN l,.aj n])=.aG [sl 2 bN l,.aj n]:=by show AV.aG [A.nn (.s 2) (if l=[]then .aE else sl 2 bN l),.aj n]=_;rw[VM]
theorem JH{r:cK}(h:fY r=0):r.gC.length≤400:=by
 unfold fY at h;split at h
 ·split at h
  ·cases h
  ·omega
 ·rename_i h2;exact absurd h h2
theorem TV(r:cK)(hok:oI r)(σ:Heap):D1 [.agg (dM r)] σ=some (.aG [sl 2 bN (if fY r=0 then mj r else[]),.aj (fY r)],σ):=by
 by_cases hf:fY r=0
 ·refine wrap_eq rfl (v:=.aG [if mj r=[]then .aE else sl 2 bN (mj r),.aj 0]) ?_ (by rw[aM hf,hf];exact VK _ _);show yl (.agg (dM r)) σ=_;unfold yl;have hu:=JH hf;have GO:=hok.1.2;simp only[aO,reduceCtorEq,pN,pO,nQ,nP,pV,El r hok,hf]
  refine(mO (S:=Unit) (R:=Unit) r.gC (λpre u _=>(Rd.go ():Rd Unit Unit))
   (λpre _=>[.lbx (dM r),n9 σ.length 2 (pre.flatMap (lG r.cE)),.aj (pre.length:Int)]) (λpre _=>σ++lN 2 bN (pre.flatMap (lG r.cE)))
   (λ_=>(.exit 0,[.lbx (dM r),n9 σ.length 2 (mj r),.aj (r.gC.length:Int)],σ++lN 2 bN (mj r))) (λpre _ _=>(.ret,[],σ))
   (λ_ _=>True) () (λ_=>some (AV.aG [if mj r=[]then .aE else sl 2 bN (mj r),.aj 0],σ)) (λ_=>none) ?_ ?_ trivial (λ_ _ _ _ _ _ _ _=>trivial) ?_ ?_ (dG:=by simp [Tx])).trans (Cs _ _ _ _)
  ·intro pre u rest s hl _;have hx:=mQ hl;have hlt:=nS hl;have hi1:IntKind.i64.wrap ((pre.length:Int)+1)=(pre.length:Int)+1:=dL (by unfold bE;omega);have hlt':(pre.length:Int)<(r.gC.length:Int):=by omega
   have iO:=gW 4 fM r.gC hx;have Db:=JF r.cE hok.1.1 u.fV;have hps:=JE hf u.fV;have tZ:=Ek hf pre;have YI:(pre++[u]).flatMap (lG r.cE)=pre.flatMap (lG r.cE)++lG r.cE u:=by simp
   have Z6:pre.length≤399:=by omega
   generalize hK:pre.flatMap (lG r.cE)=K at *
   generalize hq:(fC u.fV r.cE).1=p at *
   simp only[aO,reduceCtorEq,kD,kE,kF,kG,kI,kH,kJ,pN,pO,nQ,nP,pV,hlt',iO,Db,hq,lA,lB,lC,lE,lD,lF]
   refine(mO (S:=Unit) (R:=Unit) p.params (λpre u _=>(Rd.go ():Rd Unit Unit))
    (λpq _=>[.lbx (dM r),n9 σ.length 2 (K++pq.map λx=>(⟨u.aH,x.name⟩:bB)),.lbx (fM u),.aj (pq.length:Int)]) (λpq _=>σ++lN 2 bN (K++pq.map λx=>(⟨u.aH,x.name⟩:bB)))
    (λ_=>(.exit 2,[.lbx (dM r),n9 σ.length 2 (K++lG r.cE u),.lbx (fM u),.aj (p.params.length:Int)],σ++lN 2 bN (K++lG r.cE u))) (λpre _ _=>(.ret,[],σ))
    (λ_ _=>True) () (λ_=>some (.normal,[.lbx (dM r),n9 σ.length 2 (K++lG r.cE u),.aj ((pre.length:Int)+1)],σ++lN 2 bN (K++lG r.cE u))) (λ_=>none) ?_ ?_ trivial (λ_ _ _ _ _ _ _ _=>trivial) ?_ ?_ (hv:=by simp) (dG:=by simp)).trans ((Cs _ _ _ _).trans ?_)
   ·intro pq x rest' s hl' _;have gx:=mQ hl';have XW:=nS hl';have N3:IntKind.i64.wrap ((pq.length:Int)+1)=(pq.length:Int)+1:=dL (by unfold bE;omega);have WR:(pq.length:Int)<(p.params.length:Int):=by omega
    have XV:=gW 7 gK p.params gx
    have hap:=R7 (most:=140737488355328 / 24) (sz:=2) bN (K++pq.map λx=>(⟨u.aH,x.name⟩:bB)) ⟨u.aH,x.name⟩ σ (by
     rw[List.length_append,List.length_map]
     omega)
    have W8:(K++(pq++[x]).map λx=>(⟨u.aH,x.name⟩:bB))=(K++pq.map λx=>(⟨u.aH,x.name⟩:bB))++[⟨u.aH,x.name⟩]:=by simp
    clear hl gx XW hx hlt tZ hl';rw[W8];have hch:AV.sl 2 (e8 2 1 [AV.aj u.aH,AV.str x.name])=.sl 2 [bN ⟨u.aH,x.name⟩]:=rfl;simp only[aO,reduceCtorEq,Eo,Ep,Er,Es,Et,Eu,Ev,EZ,EV,E4,kD,kE,kF,kG,kI,kH,kJ,WR,XV,N3];show(A.append 2 _ _ (AV.sl 2 [bN ⟨u.aH,x.name⟩]) _).bind _=_;rw[hap];simp only[aO,reduceCtorEq,N3]
   ·intro s _;refine(yJ _ _ _).trans ?_;subst hq;rfl
   ·intro s _;simp only[aO,reduceCtorEq,hi1]
   ·intros;rename_i hb;cases hb
   ·rw[YI]
  ·intro s _;exact yJ _ _ _
  ·intro s _;simp only[aO,reduceCtorEq,Tp Lk]
  ·intros;rename_i hb;cases hb
 ·refine wrap_eq rfl (v:=.aG [.aE,.aj (fY r)]) ?_ (by rw[aK hf];rfl);show yl (.agg (dM r)) σ=_;unfold yl;simp only[aO,reduceCtorEq,pN,pO,nQ,nP,pV,El r hok,hf]
theorem En(n:Int)(σ:Heap):sM [.aj n] σ=some (.bool (cm n 0 65535),σ):=by refine wrap_eq rfl ?_ rfl;show D4 (.aj n) σ=_;unfold D4;simp only[aO,reduceCtorEq,nN]
def oG(s:ByteArray):Bool:=if s=⟨#[]⟩then true else Ga s
theorem KA(s:ByteArray)(hs:eD s)(σ:Heap):yt [.str s] σ=some (.bool (oG s),σ):=by
 refine wrap_eq rfl ?_ rfl;show Eg (.str s) σ=_;unfold Eg oG;by_cases h:s=⟨#[]⟩
 ·simp only[aO,reduceCtorEq,h]
 ·simp only[aO,reduceCtorEq,h,Ta s hs]
def Mx:gh:=⟨⟨#[]⟩,0,0,0,0,false,[]⟩
def F2(p:cQ)(nm:ByteArray):gh×Bool:=(p.params.find? λx=>decide (x.name=nm)).elim (Mx,false) λx=>(x,true)
def LK(r:cK)(k:bB):gh×Bool:=(r.gC.find? λu=>decide (u.aH=k.unit)).elim (Mx,false) λu=>F2 (fC u.fV r.cE).1 k.param
section
set_option maxRecDepth 100000
noncomputable def sO (a0:cK):Option (List (bB×Bool)):=
 (tq (oI a0) (((if fY a0=0 then mj a0 else[]:List bB),fY a0))).bind λr1=>
 kS r1.1 (λ(nw:Nat)gB(s4:(List (bB×Bool)))=>(show Option (Lr (List (bB×Bool)) (List (bB×Bool)) Unit)from
   some (.go (lP gB true s4)))) (λs4=>some s4) ([]:List (bB×Bool)) (λb5=>
  some b5) (λb5=>
  none)
theorem Jh{a0:cK}{σ:Heap}{r:(List (bB×Bool))}(h:sO a0=some r):yy [(AV.agg (dM a0))] σ=some ((va (λx=>(AV.agg (bN x))) (λx=>(AV.bool x)) r),σ):=by
 refine TC (f:=Ey) (y0:=(AV.agg (dM a0))) (enc:=λr:(List (bB×Bool))=>(va (λx=>(AV.agg (bN x))) (λx=>(AV.bool x)) r)) (T:=sO a0) rfl rfl ?_ r h;unfold Ey sO;refine aI _ rfl<|aI _ rfl ?_;refine tP (λr1:((List bB)×Int)=>((AV.aG [(sl 2 bN r1.1),(AV.aj r1.2)]),σ)) (λr1 kn=>(CK (e:=λr:((List bB)×Int)=>((AV.aG [(sl 2 bN r.1),(AV.aj r.2)]),σ)) (λhs=>TV a0 hs σ)) kn) (λr1 kn=>?_);refine aI (sl 2 bN r1.1) rfl<|aI _ rfl ?_;have hp2:Hp σ σ []:=Vz σ;have YG:Hp σ (σ++[aX.map []]) [((AV.om σ.length),(Ct.m (List.map (λp=>((λx=>(AV.agg (bN x))) p.1,(λx=>(AV.bool x)) p.2)) ([]:List (bB×Bool)))))]:=We hp2;refine aI _ (gX _ _ _) ?_;refine wY (B:=(List (bB×Bool))) (R:=Unit) (λ(nw:Nat)(s4:(List (bB×Bool)))v w6=>v=[(AV.aj (nw:Int))]∧Hp σ w6 [((AV.om σ.length),(Ct.m (List.map (λp=>((λx=>(AV.agg (bN x))) p.1,(λx=>(AV.bool x)) p.2)) s4)))]) (λ(b5:(List (bB×Bool)))(q:LS)=>∃u16 w7,q=((AX.exit 0),([u16]:an),w7)∧Hp σ w7 [((AV.om σ.length),(Ct.m (List.map (λp=>((λx=>(AV.agg (bN x))) p.1,(λx=>(AV.bool x)) p.2)) b5)))]) (λ(b5:Unit)(q:LS)=>False) ?_ ?_ ⟨rfl,YG⟩ ?_ ?_
 ·intro Gh nw gB s4 v w6 uK hI;obtain⟨rfl,sj⟩:=hI;refine aI _ (qZ uK)<|xg<|aI _ (qR uK)<|aI _ rfl<|aI _ rfl<|aI _ (U7 _ _ rfl)<|aI _ rfl ?_;obtain⟨OH,XO,Nk⟩:=Uw (ek:=(.s [0,2])) (eK:=(λx=>(AV.agg (bN x)))) (eV:=(λx=>(AV.bool x))) sj 0 rfl yU gB true rfl;change Hp σ OH [((AV.om σ.length),(Ct.m (List.map (λp=>((λx=>(AV.agg (bN x))) p.1,(λx=>(AV.bool x)) p.2)) (lP gB true s4))))]at Nk;refine aI OH XO<|aI _ (qS uK Gh) ?_;exact gj (wZ ⟨rfl,Nk⟩)
 ·intro hl s4 v w6 hI;obtain⟨rfl,sj⟩:=hI;refine aI _ (qQ _)<|xe ?_;exact gj ⟨by simp,⟨_,_,rfl,sj⟩⟩
 ·intro hl b5 q hq;obtain⟨u16,w7,rfl,Oi⟩:=hq;refine oJ rfl ?_;exact gL _ (Vy Oi (Vu Oi (k:=0) rfl (by intro p hp;obtain⟨x,_,rfl⟩:=jS.1 hp;exact⟨(FU (Lk _)),(Un _)⟩))) ⟨rfl,rfl⟩
 ·intro hl b5 q hq;exact False.elim hq
noncomputable def we (a0:bB) (a1:bB):Option Bool:=
 if ¬(a0.unit=a1.unit)then
  some (decide (a0.unit<a1.unit))
 else
 some (decide ((Lib.compareBytes a0.param.data.toList a1.param.data.toList)<0))
theorem Qy{a0:bB}{a1:bB}{σ:Heap}{r:Bool}(h:we a0 a1=some r):D8 [(AV.agg (bN a0)),(AV.agg (bN a1))] σ=some ((AV.bool r),σ):=by
 refine qN (f:=D9) (y0:=(AV.agg (bN a0))) (y1:=(AV.agg (bN a1))) (enc:=λr:Bool=>(AV.bool r)) (T:=we a0 a1) rfl rfl ?_ r h;unfold D9 we;refine aI _ rfl<|aI _ rfl<|aI _ rfl<|aI _ rfl<|aI _ (nj _ _ _) ?_;refine qp (p:=¬(a0.unit=a1.unit)) (λc1=>?_) (λc1=>?_)
 ·refine aI _ rfl<|aI _ rfl<|aI _ rfl ?_;exact gL _ (dZ _ _) ⟨rfl,rfl⟩
 refine aI _ rfl<|aI _ rfl<|aI _ rfl<|aI _ rfl ?_;exact gL _ (dZ _ _) ⟨rfl,rfl⟩
noncomputable def yg (a0:cK) (a1:(List aT)):Option Int:=
 (tq (oI a0) (fY a0)).bind λr1=>
 (tq (([r1,(if(decide (200<(a1.length:Int)))=true then 2 else 0)]:(List Int)).length≤bV) ((([r1,(if(decide (200<(a1.length:Int)))=true then 2 else 0)]:(List Int)).find? λn=>decide (¬n=0)).getD 0)).bind λr2=>
 if ¬(r2=0)then
  some r2
 else
 (sO a0).bind λr3=>
 kS a1 (λ(nw:Nat)gB(s4:Unit)=>(show Option (Lr Unit Unit Int)from
   if(!(cm gB.aH 1 999))=true then
    some (.ret 1)
   else
   (if decide (0<(nw:Int))=true then pH a1 (IntKind.i64.wrap ((nw:Int) -1))else some default).bind λbP=>
   if((decide (0<(nw:Int)))&&(decide (gB.aH≤bP.aH)))=true then
    some (.ret 7)
   else
   (tq (eD gB.title) (oG gB.title)).bind λfK=>
   if(!fK)=true then
    some (.ret 3)
   else
   if 2000<(gB.bY.length:Int)then
    some (.ret 2)
   else
   kS gB.bY (λ(i21:Nat)rW(fL:Unit)=>(show Option (Lr Unit Unit Int)from
     if(!((iG rW.key r3).getD false))=true then
      some (.ret 8)
     else
     if(!(cm rW.level 0 65535))=true then
      some (.ret 1)
     else
     (if decide (0<(i21:Int))=true then pH gB.bY (IntKind.i64.wrap ((i21:Int) -1))else some default).bind λbX=>
     (if decide (0<(i21:Int))=true then we bX.key rW.key else some default).bind λnB=>
     if((decide (0<(i21:Int)))&&(!nB))=true then
      some (.ret 7)
     else
     some (.go ()))) (λfL=>some ()) () (λuV=>
    some (.go ())) (λuV=>
    some (.ret uV)))) (λs4=>some ()) () (λb5=>
  some 0) (λb5=>
  some b5)
theorem IE{a0:cK}{a1:(List aT)}{σ:Heap}{r:Int}(h:yg a0 a1=some r):vW [(AV.agg (dM a0)),(sl 3 aN a1)] σ=some ((AV.aj r),σ):=by
 refine qN (f:=DV) (y0:=(AV.agg (dM a0))) (y1:=(sl 3 aN a1)) (enc:=λr:Int=>(AV.aj r)) (T:=yg a0 a1) rfl rfl ?_ r h;unfold DV yg;refine aI _ rfl<|aI _ rfl ?_;refine tP (λr1:Int=>((AV.aj r1),σ)) (λr1 kn=>(CK (e:=λr:Int=>((AV.aj r),σ)) (λhs=>El a0 hs σ)) kn) (λr1 kn=>?_);refine aI _ (gX _ _ _)<|aI _ rfl<|aI _ (B5 (decide (200<(a1.length:Int))) 2 σ)<|aI (sl 1 xq ([r1,(if(decide (200<(a1.length:Int)))=true then 2 else 0)]:(List Int))) rfl ?_;refine tP (λr2:Int=>((AV.aj r2),σ)) (λr2 vn=>(CK (e:=λr:Int=>((AV.aj r),σ)) (λhs=>Kv ([r1,(if(decide (200<(a1.length:Int)))=true then 2 else 0)]:(List Int)) hs σ)) vn) (λr2 vn=>?_);refine aI _ (nj _ _ _) ?_;refine qp (p:=¬(r2=0)) (λnr=>?_) (λnr=>?_)
 ·exact gL _ (dZ _ _) ⟨rfl,rfl⟩
 refine aI _ rfl ?_;refine tP (λr3:(List (bB×Bool))=>((va (λx=>(AV.agg (bN x))) (λx=>(AV.bool x)) r3),σ)) (λr3 Ol=>Jh Ol) (λr3 Ol=>?_);refine aI _ (gX _ _ _) ?_;refine wY (B:=Unit) (R:=Int) (λ(nw:Nat)(s4:Unit)v w6=>∃u4,v=[u4,(AV.aj (nw:Int))]∧σ=w6) (λ(b5:Unit)(q:LS)=>∃u4 AE,q=((AX.exit 0),([u4,AE]:an),σ)) (λ(b5:Int)(q:LS)=>∃AE,q=(AX.ret,([(AV.aj b5),AE]:an),σ)) ?_ ?_ ⟨_,rfl,rfl⟩ ?_ ?_
 ·intro Gh nw gB s4 v w6 uK hI;obtain⟨u4,rfl,rfl⟩:=hI;refine aI _ (qZ uK)<|xg<|aI _ (qR uK)<|aI _ rfl<|aI _ rfl<|aI _ (ES _ _ rfl)<|aI _ rfl<|aI _ (nN gB.aH 1 999 σ)<|aI _ rfl ?_;refine tC (c:=(!(cm gB.aH 1 999))) (λlS=>?_) (λlS=>?_)
  ·exact gj (oF (by simp) ⟨_,rfl⟩)
  refine aI _ rfl<|hJ (AV.aj gB.aH) (λhg=>rfl)<|hJ (sl 3 aN a1) (λhg=>rfl)<|hJ (AV.aj (nw:Int)) (λhg=>rfl)<|hJ (AV.aj (IntKind.i64.wrap ((nw:Int) -1))) (λhg=>by(try rw[hg]);exact rfl) ?_;refine Cr (ω:=aT) (λbP=>(AV.rp (aN bP))) (λhg bP Nq=>by(try rw[hg]);exact Gl Nq) (λbP Nq=>?_);refine hJ (AV.rp (aN bP)) (λhg=>by(try rw[hg]);exact rfl)<|hJ (AV.aj bP.aH) (λhg=>by(try rw[hg]);exact rfl)<|hJ (AV.bool (decide (gB.aH≤bP.aH))) (λhg=>by(try rw[hg]);exact rfl)<|aI _ (wW _ _) ?_;refine tC (c:=((decide (0<(nw:Int)))&&(decide (gB.aH≤bP.aH)))) (λke=>?_) (λke=>?_)
  ·exact gj (oF (by simp) ⟨_,rfl⟩)
  refine aI _ rfl ?_;refine tP (λfK:Bool=>((AV.bool fK),σ)) (λfK Nl=>(CK (e:=λr:Bool=>((AV.bool r),σ)) (λhs=>KA gB.title hs σ)) Nl) (λfK Nl=>?_);refine aI _ rfl ?_;refine tC (c:=(!fK)) (λj0=>?_) (λj0=>?_)
  ·exact gj (oF (by simp) ⟨_,rfl⟩)
  refine aI (sl 3 ay gB.bY) rfl<|aI _ (gX _ _ _)<|aI _ rfl ?_;refine qp (p:=2000<(gB.bY.length:Int)) (λuX=>?_) (λuX=>?_)
  ·exact gj (oF (by simp) ⟨_,rfl⟩)
  refine aI (sl 3 ay gB.bY) rfl<|aI _ (gX _ _ _) ?_;refine wY (B:=Unit) (R:=Int) (λ(i21:Nat)(fL:Unit)v Il=>∃u4,v=[u4,(AV.lbx (aN gB)),(AV.aj (i21:Int))]∧σ=Il) (λ(uV:Unit)(q:LS)=>∃u4 u8 AH,q=((AX.exit 3),([u4,u8,AH]:an),σ)) (λ(uV:Int)(q:LS)=>∃u8 AH,q=(AX.ret,([(AV.aj uV),u8,AH]:an),σ)) ?_ ?_ ⟨_,rfl,rfl⟩ ?_ ?_
  ·intro Wa i21 rW fL v Il GI hI;obtain⟨u4,rfl,rfl⟩:=hI;refine aI _ (qZ GI)<|xg<|aI _ (qR GI)<|aI _ rfl<|aI _ rfl<|aI _ (EE _ _ rfl)<|aI _ rfl<|aI _ (KJ (ek:=(.s [0,2])) (eK:=(λx=>(AV.agg (bN x)))) (eV:=(λx=>(AV.bool x))) yU rW.key false rfl)<|aI _ rfl ?_;refine tC (c:=(!((iG rW.key r3).getD false))) (λzI=>?_) (λzI=>?_)
   ·exact gj (oF (by simp) ⟨_,_,rfl⟩)
   refine aI _ rfl<|aI _ (En rW.level σ)<|aI _ rfl ?_;refine tC (c:=(!(cm rW.level 0 65535))) (λmG=>?_) (λmG=>?_)
   ·exact gj (oF (by simp) ⟨_,_,rfl⟩)
   refine aI _ rfl<|aI _ rfl<|hJ (sl 3 ay gB.bY) (λhg=>rfl)<|hJ (AV.aj (i21:Int)) (λhg=>rfl)<|hJ (AV.aj (IntKind.i64.wrap ((i21:Int) -1))) (λhg=>by(try rw[hg]);exact rfl) ?_;refine Cr (ω:=aA) (λbX=>(AV.rp (ay bX))) (λhg bX Nr=>by(try rw[hg]);exact Gl Nr) (λbX Nr=>?_);refine hJ (AV.rp (ay bX)) (λhg=>by(try rw[hg]);exact rfl)<|hJ (AV.agg (bN bX.key)) (λhg=>by(try rw[hg]);exact rfl)<|hJ (AV.agg (bN rW.key)) (λhg=>rfl) ?_;refine Cr (ω:=Bool) (λnB=>(AV.bool nB)) (λhg nB Nn=>by(try rw[hg]);exact(yN (Qy Nn))) (λnB Nn=>?_);refine hJ (AV.bool (!nB)) (λhg=>by(try rw[hg]);exact rfl)<|aI _ (wW _ _) ?_;refine tC (c:=((decide (0<(i21:Int)))&&(!nB))) (λgR=>?_) (λgR=>?_)
   ·exact gj (oF (by simp) ⟨_,_,rfl⟩)
   refine aI _ (qS GI Wa) ?_;exact gj (wZ ⟨_,rfl,rfl⟩)
  ·intro hl fL v Il hI;obtain⟨u4,rfl,rfl⟩:=hI;refine aI _ (qQ _)<|xe ?_;exact gj ⟨by simp,⟨_,_,_,rfl⟩⟩
  ·intro hl uV q hq;obtain⟨u4,u8,AH,rfl⟩:=hq;refine oJ rfl<|aI _ (qS uK Gh) ?_;exact gj (wZ ⟨_,rfl,rfl⟩)
  ·intro hl uV q hq;obtain⟨u8,AH,rfl⟩:=hq;refine zj rfl<|oJ rfl ?_;exact gj (oF (by simp) ⟨_,rfl⟩)
 ·intro hl s4 v w6 hI;obtain⟨u4,rfl,rfl⟩:=hI;refine aI _ (qQ _)<|xe ?_;exact gj ⟨by simp,⟨_,_,rfl⟩⟩
 ·intro hl b5 q hq;obtain⟨u4,AE,rfl⟩:=hq;refine oJ rfl ?_;exact gL _ (dZ _ _) ⟨rfl,rfl⟩
 ·intro hl b5 q hq;obtain⟨AE,rfl⟩:=hq;refine zj rfl<|oJ rfl ?_;exact gL _ (dZ _ _) ⟨rfl,rfl⟩
noncomputable def yw (a0:(List aT)) (a1:bB) (a2:sY):Option (Int×Int):=
 if((decide (¬(a2.level=0)))&&(decide (¬(a2.lH=0))))=true then
  some (0,3)
 else
 if(!(cm a2.level 0 65535))=true then
  some (0,1)
 else
 if a2.lH=0 then
  some (a2.level,0)
 else
 kS a0 (λ(i8:Nat)e7(s1:Unit)=>(show Option (Lr Unit Unit Int)from
   if ¬(e7.aH=a2.lH)then
    some (.go ())
   else
   kS e7.bY (λ(i16:Nat)C7(s9:Unit)=>(show Option (Lr Unit Unit Int)from
     if C7.key=a1 then
      some (.ret C7.level)
     else
     some (.go ()))) (λs9=>some ()) () (λuU=>
    some (.xC ())) (λuU=>
    some (.ret uU)))) (λs1=>some ()) () (λb2=>
  some (0,8)) (λb2=>
  some (b2,0))
theorem QX{a0:(List aT)}{a1:bB}{a2:sY}{σ:Heap}{r:(Int×Int)}(h:yw a0 a1 a2=some r):wg [(sl 3 aN a0),(AV.agg (bN a1)),(AV.agg (Ck a2))] σ=some ((AV.aG [(AV.aj r.1),(AV.aj r.2)]),σ):=by
 refine TD (f:=Ef) (y0:=(sl 3 aN a0)) (y1:=(AV.agg (bN a1))) (y2:=(AV.agg (Ck a2))) (enc:=λr:(Int×Int)=>(AV.aG [(AV.aj r.1),(AV.aj r.2)])) (T:=yw a0 a1 a2) rfl rfl ?_ r h;unfold Ef yw;refine aI _ rfl<|aI _ rfl<|aI _ rfl<|aI _ (nj _ _ _)<|hJ (AV.aj a2.lH) (λhg=>rfl)<|hJ (AV.bool (decide (¬(a2.lH=0)))) (λhg=>by(try rw[hg]);exact(nj _ _ _))<|aI _ (wW _ _) ?_;refine tC (c:=((decide (¬(a2.level=0)))&&(decide (¬(a2.lH=0))))) (λiL=>?_) (λiL=>?_)
 ·exact gL _ (dZ _ _) ⟨rfl,rfl⟩
 refine aI _ rfl<|aI _ (En a2.level σ)<|aI _ rfl ?_;refine tC (c:=(!(cm a2.level 0 65535))) (λdD=>?_) (λdD=>?_)
 ·exact gL _ (dZ _ _) ⟨rfl,rfl⟩
 refine aI _ rfl<|aI _ (qu _ _ _) ?_;refine qp (p:=a2.lH=0) (λoX=>?_) (λoX=>?_)
 ·refine aI _ rfl ?_;exact gL _ (dZ _ _) ⟨rfl,rfl⟩
 refine aI _ (gX _ _ _) ?_;refine wY (B:=Unit) (R:=Int) (λ(i8:Nat)(s1:Unit)v w3=>v=[(AV.lbx (bN a1)),(AV.lbx (Ck a2)),(AV.aj 0),(AV.aj 0),(AV.aj (i8:Int))]∧σ=w3) (λ(b2:Unit)(q:LS)=>∃u4 u5 u6 u7 AF,q=((AX.exit 0),([u4,u5,u6,u7,AF]:an),σ)) (λ(b2:Int)(q:LS)=>∃u4 u5 AF,q=(AX.ret,([u4,u5,(AV.aj b2),(AV.aj 0),AF]:an),σ)) ?_ ?_ ⟨rfl,rfl⟩ ?_ ?_
 ·intro GN i8 e7 s1 v w3 vg hI;obtain⟨rfl,rfl⟩:=hI;refine aI _ (qZ vg)<|xg<|aI _ (qR vg)<|aI _ rfl<|aI _ rfl<|aI _ (ES _ _ rfl)<|aI _ rfl<|aI _ rfl<|aI _ rfl<|aI _ (nj _ _ _) ?_;refine qp (p:=¬(e7.aH=a2.lH)) (λgm=>?_) (λgm=>?_)
  ·refine aI _ (qS vg GN) ?_;exact gj (wZ ⟨rfl,rfl⟩)
  refine aI (sl 3 ay e7.bY) rfl<|aI _ (gX _ _ _) ?_;refine wY (B:=Unit) (R:=Int) (λ(i16:Nat)(s9:Unit)v Ik=>v=[(AV.lbx (bN a1)),(AV.aj 0),(AV.aj 0),(AV.aj (i16:Int))]∧σ=Ik) (λ(uU:Unit)(q:LS)=>∃u4 u6 u7 AG,q=((AX.exit 2),([u4,u6,u7,AG]:an),σ)) (λ(uU:Int)(q:LS)=>∃u4 AG,q=(AX.ret,([u4,(AV.aj uU),(AV.aj 0),AG]:an),σ)) ?_ ?_ ⟨rfl,rfl⟩ ?_ ?_
  ·intro V9 i16 C7 s9 v Ik GH hI;obtain⟨rfl,rfl⟩:=hI;refine aI _ (qZ GH)<|xg<|aI _ (qR GH)<|aI _ rfl<|aI _ rfl<|aI _ (EE _ _ rfl)<|aI _ rfl<|aI _ rfl<|aI _ (Cm _ _) ?_;refine qp (p:=C7.key=a1) (λjZ=>?_) (λjZ=>?_)
   ·refine aI _ rfl ?_;exact gj (oF (by simp) ⟨_,_,rfl⟩)
   refine aI _ (qS GH V9) ?_;exact gj (wZ ⟨rfl,rfl⟩)
  ·intro hl s9 v Ik hI;obtain⟨rfl,rfl⟩:=hI;refine aI _ (qQ _)<|xe ?_;exact gj ⟨by simp,⟨_,_,_,_,rfl⟩⟩
  ·intro hl uU q hq;obtain⟨u4,u6,u7,AG,rfl⟩:=hq;refine oJ rfl ?_;exact gj (U0 (by simp) ⟨_,_,_,_,_,rfl⟩)
  ·intro hl uU q hq;obtain⟨u4,AG,rfl⟩:=hq;refine zj rfl<|oJ rfl ?_;exact gj (oF (by simp) ⟨_,_,_,rfl⟩)
 ·intro hl s1 v w3 hI;obtain⟨rfl,rfl⟩:=hI;refine aI _ (qQ _)<|xe ?_;exact gj ⟨by simp,⟨_,_,_,_,_,rfl⟩⟩
 ·intro hl b2 q hq;obtain⟨u4,u5,u6,u7,AF,rfl⟩:=hq;refine oJ rfl ?_;exact gL _ (dZ _ _) ⟨rfl,rfl⟩
 ·intro hl b2 q hq;obtain⟨u4,u5,AF,rfl⟩:=hq;refine zj rfl<|oJ rfl ?_;exact gL _ (dZ _ _) ⟨rfl,rfl⟩
noncomputable def Bs (a0:bB) (a1:bB):Option Bool:=some ((decide (a0.unit<a1.unit))||((decide (a0.unit=a1.unit))&&(Op.bytesLess a0.param.toList a1.param.toList)))
theorem Ro{a0:bB}{a1:bB}{σ:Heap}{r:Bool}(h:Bs a0 a1=some r):wk [(AV.agg (bN a0)),(AV.agg (bN a1))] σ=some ((AV.bool r),σ):=by refine qN (f:=Ex) (y0:=(AV.agg (bN a0))) (y1:=(AV.agg (bN a1))) (enc:=λr:Bool=>(AV.bool r)) (T:=Bs a0 a1) rfl rfl ?_ r h;unfold Ex Bs;refine aI _ rfl<|aI _ rfl<|aI _ rfl<|aI _ rfl<|aI _ rfl<|zk (AV.aj a0.unit) (λhg=>rfl)<|zk (AV.aj a1.unit) (λhg=>rfl)<|zk (AV.bool (decide (a0.unit=a1.unit))) (λhg=>by(try rw[hg]);exact(qu _ _ _))<|zk (AV.bool (decide (a0.unit=a1.unit))) (λhg=>by(try rw[hg]);exact rfl)<|F5 (AV.str a0.param) (λhg=>rfl)<|F5 (AV.str a1.param) (λhg=>rfl)<|F5 (AV.bool (Op.bytesLess a0.param.toList a1.param.toList)) (λhg=>by(try rw[hg]);exact rfl)<|zk (AV.bool ((decide (a0.unit=a1.unit))&&(Op.bytesLess a0.param.toList a1.param.toList))) (λhg=>by(try rw[hg]);exact(wW _ _))<|aI _ (Wm _ _) ?_;exact gL _ (dZ _ _) ⟨rfl,rfl⟩
end
abbrev XC:={k:bB // 0≤k.unit∧k.unit≤1000000}
instance : Inhabited XC := ⟨⟨⟨0, ⟨#[]⟩⟩, by decide⟩⟩
section
section
variable {κ ν : Type} [DecidableEq κ]
theorem JS(k a:κ)(v:ν):∀(l:List (κ×ν)),iG k (lP a v l)=if k=a then some v else iG k l
 |[]=>by simp [lP,iG]
 |(b,w)::l=>by
  rw[lP];by_cases h:a=b
  ·subst h;rw[aM rfl,iG,iG];split<;>rfl
  ·rw[aK h,iG,iG,JS k a v l];by_cases h2:k=b
   ·subst h2;rw[aM rfl,aM rfl,aK (λe=>h e.symm)]
   ·rw[aK h2,aK h2]
theorem E6(k:κ):∀(l:List κ)(s:List (κ×Bool)),(iG k (l.foldl (λs x=>lP x true s) s)).getD false=(decide (k∈l)||(iG k s).getD false)
 |[],s=>by simp
 |x::l,s=>by
  rw[List.foldl_cons,E6 k l,JS];by_cases h:k=x
  ·simp [h]
  ·simp [h]
end
theorem RD{l:List Int}{n:Int}(h:l.Pairwise (·<·))(k:uN l n=false):(l++[n]).Pairwise (·<·):=by
 rw[List.pairwise_append];refine⟨h,by simp,λa ha b hb=>?_⟩;simp at hb;subst hb;unfold uN at k;cases hl:l.getLast? with
 |none=>rw[List.getLast?_eq_none_iff]at hl;subst hl;simp at ha
 |some m=>
  rw[hl]at k;simp at k;obtain⟨ys,rfl⟩:=List.getLast?_eq_some_iff.1 hl;rw[List.pairwise_append]at h;rcases dg.1 ha with ha|ha
  ·have:=h.2.2 a ha m (by simp);omega
  ·simp at ha;omega
theorem Jd{dS:List cQ}:∀(rest pre:List eF),xu dS pre rest=0→(pre.map (·.aH)).Pairwise (·<·)→((pre++rest).map (·.aH)).Pairwise (·<·)
 |[],pre,_,h=>by simpa using h
 |u::rest,pre,hc,h=>by
  rw[xu]at hc;split at hc
  ·cases hc
  split at hc
  ·cases hc
  rename_i ho;split at hc
  ·cases hc
  split at hc
  ·cases hc
  split at hc
  ·cases hc
  have:=Jd rest (pre++[u]) hc (by rw[List.map_append];exact RD h (by simpa using ho));simpa using this
theorem RA{r:cK}(h:fY r=0):(r.gC.map (·.aH)).Pairwise (·<·):=by
 unfold fY at h;split at h
 ·split at h
  ·cases h
  ·simpa using Jd r.gC [] h (by simp)
 ·rename_i h2;exact absurd h h2
theorem R8(p:cQ)(nm:ByteArray):(F2 p nm).2=true↔∃x∈p.params,x.name=nm:=by
 unfold F2;cases h:p.params.find? λx=>decide (x.name=nm)with
 |none=>simp only[Option.elim_none,Bool.false_eq_true,false_iff];rintro⟨x,hx,e⟩;have:=List.find?_eq_none.1 h x hx;simp [e]at this
 |some x=>simp only[Option.elim_some,true_iff];exact⟨x,zn h,by simpa using List.find?_some h⟩
theorem S7{l:List eF}(h:(l.map (·.aH)).Pairwise (·<·)){u v:eF}(hu:u∈l)(hv:v∈l)(e:u.aH=v.aH):u=v:=by
 induction l with
 |nil=>simp at hu
 |cons x l ih=>
  rw[eT,List.pairwise_cons]at h;rcases dc.1 hu with Ap|Ap<;>rcases dc.1 hv with Aq|Aq
  ·rw[Ap,Aq]
  ·have:=h.1 v.aH (jS.2 ⟨v,Aq,rfl⟩);rw[←Ap]at this;omega
  ·have:=h.1 u.aH (jS.2 ⟨u,Ap,rfl⟩);rw[←Aq]at this;omega
  ·exact ih h.2 Ap Aq
def mB(r:cK)(k:bB):Bool:=(LK r k).2
theorem KN{r:cK}(h:fY r=0)(k:bB):mB r k=decide (k∈mj r):=by
 rw[kP,decide_eq_true_iff];unfold mB LK mj;rw[List.mem_flatMap];cases hf:r.gC.find? λu=>decide (u.aH=k.unit)with
 |none=>simp only[Option.elim_none,Bool.false_eq_true,false_iff];rintro⟨u,hu,hk⟩;obtain⟨x,_,rfl⟩:=jS.1 hk;have:=List.find?_eq_none.1 hf u hu;simp at this
 |some u=>
  have hu:=zn hf;have hn:u.aH=k.unit:=by simpa using List.find?_some hf
  simp only[Option.elim_some,R8];constructor
  ·rintro⟨x,hx,e⟩;exact⟨u,hu,jS.2 ⟨x,hx,by rw[hn,e]⟩⟩
  ·rintro⟨v,hv,hk⟩;obtain⟨x,hx,rfl⟩:=jS.1 hk;obtain rfl:=S7 (RA h) hu hv hn;exact⟨x,hx,rfl⟩
theorem KP{r:cK}(h:fY r=0):(mj r).length≤16000:=by have h1:=Ek h r.gC;have h2:=JH h;show(r.gC.flatMap (lG r.cE)).length≤_;omega
theorem Tu{α:Type}{p:Prop}[Decidable p](a b:α):(if p then some a else some b)=some (if p then a else b):=by split<;>rfl
theorem Ss{α β:Type}{p:Prop}[Decidable p](a b:α)(f:α→Option β):(if p then some a else some b).bind f=f (if p then a else b):=by split<;>rfl
theorem before_eq(a b:bB):we a b=some (fP a b):=by
 unfold we fP;by_cases h:a.unit=b.unit
 ·simp [h,yQ,Fw]
 ·by_cases h2:a.unit<b.unit<;>simp [h,h2]
def zl(has:bB→Bool)(l:List aA)(i:Nat)(x:aA):Int:=
 if(!has x.key)=true then 8
 else if(!(cm x.level 0 65535))=true then 1
 else if(decide (0<(i:Int))&&!fP (pv l i).key x.key)=true then 7 else 0
def sW(has:bB→Bool)(l:List aT)(i:Nat)(p:aT):Int:=
 if(!(cm p.aH 1 999))=true then 1
 else if(decide (0<(i:Int))&&decide (p.aH≤(pv l i).aH))=true then 7
 else if(!(oG p.title))=true then 3
 else if 2000<(p.bY.length:Int)then 2
 else n8 (zl has p.bY) p.bY 0
def iD(r:cK)(l:List aT):Int:=
 if ¬(fY r=0)then fY r else if 200<(l.length:Int)then 2 else n8 (sW (mB r) l) l 0
theorem QW(c:Bool)(a b:bB):(c&&!(if c=true then fP a b else(default:Bool)))=(c&&!fP a b):=by cases c<;>rfl
theorem IS(r:cK)(l:List aT)(hr:oI r)(hl:dI qL l):yg r l=some (iD r l):=by
 unfold yg iD;simp only[ze hr,aC];rw[ze (by show 2≤bV;unfold bV;omega)];simp only[V4,aC];by_cases h0:fY r=0;case neg=>simp [h0]
 by_cases h1:200<(l.length:Int)
 ·simp [h0,h1]
 have hk:sO r=some ((mj r).foldl (λs x=>lP x true s) []):=by unfold sO;have:=KP h0;simp only[ze hr,aC,h0,if_true];rw[J2 (λs x=>lP x true s) (λ_ _=>True) (by unfold bV;omega) trivial (λ_ _ _ _ _=>trivial) (λ_ _ _ _ _=>rfl)];rfl
 simp only[h0,h1,not_true_eq_false,if_false,decide_false,Bool.false_eq_true,hk,aC]
 have has:∀k,(iG k ((mj r).foldl (λs x=>lP x true s) [])).getD false=mB r k:=by intro k;rw[E6,KN h0];simp [iG]
 rw[KM (f:=sW (mB r) l) hl.1 ?_]
 ·split
  ·rename_i h;rw[h]
  ·rfl
 intro i p hp;have HL:=hl.2 p (cx hp);obtain⟨_,ht,hs⟩:=HL;simp only[LM hp hl.1,aC,ze ht,has];rw[KM (f:=zl (mB r) p.bY) hs.1 ?_]
 ·unfold sW;repeat first|exact Tn _|exact go_ret|refine Lq (by decide) ?_
 intro j x hx;simp only[LM hx hs.1,aC,before_eq,Ss,QW];unfold zl;repeat first|exact go_ret|refine Lq (by decide) ?_
def iT(l:List aT)(n:Int):aT×Bool:=match l.find? λp=>decide (p.aH=n)with|some p=>(p,true)|none=>(⟨0,⟨#[]⟩,[]⟩,false)
def Cc(l:List aT)(k:bB)(v:sY):Int×Int:=
 if(decide (¬(v.level=0))&&decide (¬(v.lH=0)))=true then(0,3)
 else if(!(cm v.level 0 65535))=true then(0,1)
 else if v.lH=0 then(v.level,0)
 else match l.find? λp=>decide (p.aH=v.lH)with
  |none=>(0,8)
  |some p=>match p.bY.find? λs=>decide (s.key=k)with|none=>(0,8)|some s=>(s.level,0)
theorem RQ{α γ R:Type}{p:α→Bool}{l:List α}{body:Nat→α→Unit→Option (Lr Unit Unit R)}{r:α→Option R}{fin:Unit→Option Unit}{s:Unit}{K1:Unit→Option γ}{K2:R→Option γ}(hl:l.length≤bV)(hb:∀i x,l[i]? =some x→body i x ()=if p x=true then some (match r x with|some q=>.ret q|none=>.xC ())else some (.go ()))(hf:fin ()=some ():=by rfl):kS l body fin s K1 K2=match l.find? p with|some x=>(match r x with|some q=>K2 q|none=>K1 ())|none=>K1 ():=by
 rw[yV hl]
 have key:∀(rest pre:List α),l=pre++rest→gM body fin rest pre.length ()=some (match rest.find? p with|some x=>(match r x with|some q=>.inr q|none=>.inl ())|none=>.inl ()):=by
  intro rest;induction rest with
  |nil=>intro pre _;simp [gM,hf]
  |cons x rest ih=>
   intro pre hp;rw[gM,hb pre.length x (by rw[hp];simp),List.find?_cons];cases h:p x
   ·simp only[Bool.false_eq_true,if_false,aC];have:=ih (pre++[x]) (by simpa using hp);simpa using this
   ·simp only[if_true,aC];cases r x<;>rfl
 have k:=key l [] rfl;rw[List.length_nil]at k;rw[show s=()from rfl,k,aC];cases l.find? p with
 |none=>rfl
 |some x=>simp only;cases r x<;>rfl
theorem TW(l:List aT)(hl:dI qL l)(k:bB)(v:sY):yw l k v=some (Cc l k v):=by
 unfold yw Cc;split
 ·rfl
 split
 ·rfl
 split
 ·rfl
 rw[RQ (p:=λp=>decide (p.aH=v.lH)) (r:=λp=>(p.bY.find? λs=>decide (s.key=k)).map (·.level)) hl.1 ?_]
 ·cases hf:l.find? λp=>decide (p.aH=v.lH)with
  |none=>rfl
  |some p=>simp only;cases p.bY.find? λs=>decide (s.key=k)<;>rfl
 intro i p hp;have HL:=hl.2 p (cx hp);by_cases hn:p.aH=v.lH
 ·simp only[hn,not_true_eq_false,if_false,decide_true,if_true];rw[J1 (p:=λs=>decide (s.key=k)) (r:=λs=>s.level) HL.2.2.1 (by intro i x _;simp only[decide_eq_true_eq,Tu])];cases p.bY.find? λs=>decide (s.key=k)<;>rfl
 ·simp [hn]
theorem I5{r:cK}{l:List aT}(h:iD r l=0):fY r=0:=by
 unfold iD at h;by_cases h0:fY r=0
 ·exact h0
 ·rw[aM h0]at h;exact h
end
theorem Ut{i j:Nat}(h:i+j<9223372036854775808):A.shr (.int .u64 ((i+j:Nat):Int)) (.int .u64 1)=some (.int .u64 (((i+j) / 2:Nat):Int)):=by simp only[A.shr];rw[aK (by decide)];congr 2;rw[show(2:Int) ^ (min (Int.toNat 1) IntKind.u64.bits)=2 from rfl,Int.fdiv_eq_ediv_of_nonneg _ (by decide)];omega
theorem Vp{n:Nat}(h:n<9223372036854775808):A.conv .u64 (.aj (n:Int))=some (.int .u64 (n:Int)):=by simp only[A.conv];congr 2;unfold IntKind.wrap;simp [IntKind.bits,IntKind.signed];omega
theorem Vo{n:Nat}(h:n<9223372036854775808):A.conv .i64 (.int .u64 (n:Int))=some (.aj (n:Int)):=by simp only[A.conv];rw[dL (by unfold bE;omega)]
theorem G3{a b:Nat}(h:a+b<9223372036854775808):A.add (.aj (a:Int)) (.aj (b:Int))=some (.aj ((a+b:Nat):Int)):=by rw[xk,dL (by unfold bE;omega)];simp
theorem Ws{a:Nat}(h:a+1<9223372036854775808):A.add (.aj (a:Int)) (.aj 1)=some (.aj ((a+1:Nat):Int)):=G3 (b:=1) h
theorem G4(a b:Nat):A.lss (.aj (a:Int)) (.aj (b:Int))=some (.bool (decide (a<b))):=by rw[oO];have:((a:Int)<(b:Int))=(a<b):=propext ⟨λh=>by omega,λh=>by omega⟩;simp only[this]
theorem Wt(a:Int):A.lss (.aj a) (.aj 0)=some (.bool (decide (a<0))):=by rw[oO]
theorem NP{α:Type}{X Y:α}:(bif (AX.exit 0==AX.exit 0)then X else Y)=X:=rfl
theorem T4{f:an→Heap→Option (AX×an×Heap)}{σ:Heap}(pv:Nat→Nat→an){v0:an}{n p:Nat}(hp:p≤n)(h0:v0=pv 0 n)
  (hs:∀i j,i<j→j≤n→f (pv i j) σ=some (.normal,if(i+j) / 2<p then pv ((i+j) / 2+1) j else pv i ((i+j) / 2),σ))
  (he:∀i,i≤n→f (pv i i) σ=some (.exit 0,pv i i,σ)):A.loop f v0 σ=some (.exit 0,pv p p,σ):=by
 subst h0
 have key:∀k i j,j-i≤k→i≤p→p≤j→j≤n→∃m,A.iter f m (pv i j) σ=some (.exit 0,pv p p,σ):=by
  intro k;induction k with
  |zero=>
   intro i j hk h1 h2 h3;have:i=p:=by omega
   have:j=p:=by omega
   subst i;subst j;exact nO (he p h3) (by simp)
  |succ k ih=>
   intro i j hk h1 h2 h3;by_cases hij:i<j
   ·have hstep:=hs i j hij h3;by_cases hh:(i+j) / 2<p
    ·rw[aM hh]at hstep;exact wz hstep (ih _ _ (by omega) (by omega) h2 h3)
    ·rw[aK hh]at hstep;exact wz hstep (ih _ _ (by omega) h1 (by omega) (by omega))
   ·have:i=p:=by omega
    have:j=p:=by omega
    subst i;subst j;exact nO (he p h3) (by simp)
 obtain⟨m,hm⟩:=key n 0 n (by omega) (by omega) hp (bH _);exact uq hm
section
open Go.Sort
theorem L2:∀a:List UInt8,Op.bytesLess a a=false
 |[]=>rfl
 |x::l=>by simp [Op.bytesLess,UInt8.lt_irrefl,L2 l]
theorem Kz:∀a b c:List UInt8,Op.bytesLess a b=true→Op.bytesLess b c=true→Op.bytesLess a c=true
 |[],[],c,h,_=>by simp [Op.bytesLess]at h
 |[],_::_,[],_,k=>by simp [Op.bytesLess]at k
 |[],_::_,_::_,_,_=>rfl
 |_::_,[],c,h,_=>by simp [Op.bytesLess]at h
 |_::_,_::_,[],_,k=>by simp [Op.bytesLess]at k
 |x::a,y::b,z::c,h,k=>by
  rw[Op.bytesLess]at h k ⊢;simp only[Bool.or_eq_true,dP,decide_eq_true_eq,beq_iff_eq]at h k ⊢;rcases h with h|⟨rfl,h⟩<;>rcases k with k|⟨rfl,k⟩
  ·exact .inl (UInt8.lt_trans h k)
  ·exact .inl h
  ·exact .inl k
  ·exact .inr ⟨rfl,Kz a b c h k⟩
theorem Lx(a:bB):fP a a=false:=by simp [fP,L2]
theorem Kc{a b c:bB}(h:fP a b=true)(k:fP b c=true):fP a c=true:=by
 simp only[fP,Bool.or_eq_true,dP,decide_eq_true_eq]at h k ⊢;rcases h with h|⟨h1,h2⟩<;>rcases k with k|⟨k1,k2⟩
 ·left;omega
 ·left;omega
 ·left;omega
 ·right;exact⟨by omega,Kz _ _ _ h2 k2⟩
theorem FG{a b:bB}(h:fP a b=false)(k:fP b a=false):a=b:=by
 rw[←Ua];have h1:¬tI a b<0:=λe=>by rw[(Lb a b).1 e]at h;cases h
 have hba:tI b a=-tI a b∨True:=.inr trivial
 -- what is neither smaller nor greater is the same
 unfold tI at h1 ⊢;simp only[fP,iH,Bool.and_eq_false_iff,decide_eq_false_iff_not]at h k;have hu:a.unit=b.unit:=by omega
 simp only[hu,not_true_eq_false,if_false]at h1 ⊢
 have e1:Op.bytesLess a.param.data.toList b.param.data.toList=false:=by
  rcases h.2 with q|q
  ·exact absurd hu q
  ·simpa [yQ]using q
 have e2:Op.bytesLess b.param.data.toList a.param.data.toList=false:=by
  rcases k.2 with q|q
  ·exact absurd hu.symm q
  ·simpa [yQ]using q
 rw[Fv]
 have Zz:∀x y:List UInt8,Op.bytesLess x y=false→Op.bytesLess y x=false→x=y:=by
  intro x;induction x with
  |nil=>intro y p q;cases y with|nil=>rfl|cons y l=>simp [Op.bytesLess]at p
  |cons x xs ih=>
   intro y p q;cases y with
   |nil=>simp [Op.bytesLess]at q
   |cons y ys=>
    rw[Op.bytesLess]at p q;by_cases h1:x<y
    ·simp [h1]at p
    ·by_cases h2:y<x
     ·simp [h2]at q
     ·have:x=y:=UInt8.le_antisymm (UInt8.not_lt.1 h2) (UInt8.not_lt.1 h1);subst this;simp [h1]at p q;rw[ih ys p q]
 exact Zz _ _ e1 e2
theorem Sz(a b:bB):wR a b<0↔fP a b=true:=Lb a b
end
def NC(l:List Cu):Prop:=l.Pairwise λa b=>fP a.key b.key=true
structure Good (l : List rA) : Prop where
 len:l.length≤300
 num:∀c∈l,1≤c.aH∧c.aH≤9999999
 oz:l.Pairwise λa b=>a.aH<b.aH
 mv:∀c∈l,c.CF.length≤2000∧NC c.CF
 pts:∀c∈l,c.Gd.VR.length≤20
theorem EF{α:Type}[Inhabited α]{r:α→α→Prop}(tr:∀a b c,r a b→r b c→r a c):∀(l:List α),(∀i x,l[i+1]? =some x→r (l[i]?.getD default) x)→l.Pairwise r
 |[],_=>List.Pairwise.nil
 |[a],_=>by simp
 |a::b::l,h=>by
  have ih:=EF tr (b::l) (λi x hx=>h (i+1) x hx);have hab:r a b:=h 0 b rfl;refine List.pairwise_cons.2 ⟨λx hx=>?_,ih⟩;rcases dc.1 hx with rfl|hx
  ·exact hab
  ·exact tr _ _ _ hab ((List.pairwise_cons.1 ih).1 x hx)
section
theorem LN{α:Type}[Inhabited α](l:List α)(i:Nat):pv l (i+1)=l[i]?.getD default:=by simp [pv,List.getD_eq_getElem?_getD]
structure ZW (l : List rA) : Prop where
 len:l.length≤300
 num:∀c∈l,1≤c.aH∧c.aH≤9999999
 oz:l.Pairwise λa b=>a.aH<b.aH
section
variable {α R γ S B : Type}
end
end
section
open HP
def Lt(σ:Heap)(sh:Sh)(v t:AV):Prop:=(∃v',A.br σ 0 8 v=some v'∧A.own v'=false∧A.nn sh v'=A.nn sh t)∧A.own t=false∧(A.own v=false→A.nn sh v=A.nn sh t)
def C5(σ:Heap):List Sh→an→an→Prop
 |_,[],[]=>True
 |[],a::bR,t::ts=>Lt σ .k a t∧C5 σ [] bR ts
 |s::ss,a::bR,t::ts=>Lt σ s a t∧C5 σ ss bR ts
 |_,_,_=>False
theorem jW(v:AV):A.nn .k v=v:=by simp [A.nn]
theorem HS{σ:Heap}:∀{ss:List Sh}{bR ts:an},C5 σ ss bR ts→(∃tG,A.cX σ 0 8 bR=some tG∧tG.any A.own=false∧A.bW ss tG=A.bW ss ts)∧ts.any A.own=false∧(bR.any A.own=false→A.bW ss bR=A.bW ss ts)
 |ss,[],[],_=>⟨⟨[],by simp [A.cX],rfl,rfl⟩,rfl,λ_=>rfl⟩
 |[],a::bR,t::ts,h=>by obtain⟨⟨⟨v',h1,h2,h3⟩,h4,h5⟩,h6⟩:=h;obtain⟨⟨tG,k1,k2,k3⟩,k4,k5⟩:=HS h6;rw[jW,jW]at h3;simp only[A.bW]at k3 k5;refine⟨⟨v'::tG,by simp [A.cX,h1,k1],by simp [h2,k2],by simp [A.bW,h3,k3]⟩,by simp [h4,k4],λh=>?_⟩;simp only[List.any_cons,iH]at h;have:=h5 h.1;rw[jW,jW]at this;simp [A.bW,this,k5 h.2]
 |s::ss,a::bR,t::ts,h=>by obtain⟨⟨⟨v',h1,h2,h3⟩,h4,h5⟩,h6⟩:=h;obtain⟨⟨tG,k1,k2,k3⟩,k4,k5⟩:=HS h6;refine⟨⟨v'::tG,by simp [A.cX,h1,k1],by simp [h2,k2],by simp [A.bW,h3,k3]⟩,by simp [h4,k4],λh=>?_⟩;simp only[List.any_cons,iH]at h;simp [A.bW,h5 h.1,k5 h.2]
 |_,[],_::_,h=>by cases h
 |[],_::_,[],h=>by cases h
 |_::_,_::_,[],h=>by cases h
theorem zA{cP:List Sh}{cY:Sh}{r:an→Heap→au}{bR ts:an}{σ:Heap}{v:AV}(h:C5 σ cP bR ts)(e:∀σ,A.wrap true cP cY r ts σ=some (v,σ))(hs:A.uO v=true):A.wrap true cP cY r bR σ=some (v,σ):=by
 obtain⟨⟨tG,k1,k2,k3⟩,k4,k5⟩:=HS h;cases ho:bR.any A.own
 ·rw[LY (k5 ho) ho k4];exact e σ
 ·exact K8 ho k1 k2 (by rw[LY k3 k2 k4];exact e []) hs
theorem CE{σ:Heap}{sh:Sh}{v:AV}(h:Fz v)(ho:A.own v=false):Lt σ sh v v:=⟨⟨v,h σ 0 8,ho,rfl⟩,ho,λ_=>rfl⟩
theorem VE{σ:Heap}(n:Int):Lt σ .k (.aj n) (.aj n):=CE (wU _ _) rfl
section
variable {α : Type} {c : α → an} {sz : Nat} {B : aX → Prop} {aL σ : Heap} {R : HP} {v : AV} {l : List α}
theorem oC(H:Hs B aL σ (Sl (fl c) sz v l*R)):(l=[]∧(v=.aE∨v=.ez)∧Hs B aL σ R)∨∃id g,v=.os id g sz 0 l.length∧Hs B aL σ (blk id (.arr g sz (l.map c))*R):=by
 rcases yP H with h|⟨id,g,seg,rfl,hl,H⟩
 ·exact .inl h
 ·have K:=wT.1 (iW (show _=els (fl c) seg l*(blk id (.arr g sz seg)*R) by ac_rfl) H);obtain⟨rfl,K⟩:=K;exact .inr ⟨id,g,rfl,K⟩
theorem Mu{id g:Nat}{n:Nat}(H:Hs B aL σ (blk id (.arr g sz (l.map c))*R))(hn:n=l.length:=by rfl):Hs B aL σ (Sl (fl c) sz (.os id g sz 0 n) l*R):=
 uI (id:=id) (g:=g) (seg:=l.map c) (iW (show els (fl c) (l.map c) l*(blk id (.arr g sz (l.map c))*R)=_ by ac_rfl) (wT.2 ⟨rfl,H⟩)) hn
theorem Vt(hc:∀x,iJ (c x)){id g:Nat}(h:σ[id]? =some (.arr g sz (l.map c))){n:Nat}(hn:¬id<n)(d:Nat):A.br σ n (d+1) (.os id g sz 0 l.length)=some (sl sz c l):=by simp only[A.br,aK hn,h];rw[aM (by simp),List.drop_zero,gD (by simp),yH,Nf hc];rfl
theorem F8(H:Hs B aL σ (Sl (fl c) sz v l*R))(hc:∀x,iJ (c x)){n:Nat}(hn:n≤aL.length)(d:Nat):∃v',A.br σ n (d+1) v=some v'∧A.GZ v'=false∧A.nn (.s sz) v'=sl sz c l:=by
 rcases oC H with⟨rfl,rfl|rfl,_⟩|⟨id,g,rfl,K⟩
 ·exact⟨.aE,by simp [A.br],rfl,rfl⟩
 ·exact⟨.ez,by simp [A.br],rfl,rfl⟩
 ·obtain⟨h1,h2⟩:=nR K;exact⟨_,Vt hc h2 (by omega) d,rfl,rfl⟩
theorem Mc{P:HP}(H:Hs B aL σ P):Hs eH aL σ P:=⟨by obtain⟨bs,h,_⟩:=H.pre;exact⟨bs,h,λ_ _=>trivial⟩,H.own⟩
end
section
variable {α : Type} {E : an → α → HP} {sz : Nat} {aL σ : Heap} {R : HP} {v : AV} {l : List α}
end
def V3(x:rA)(vp vm:AV):an:=[.aj x.aH,.str x.title,.aj x.Ge,.aj x.up,.aj x.down,.aj x.other,.aj x.Gd.kind,vp,.bool x.block,.aj x.Ma,vm]
section
variable {B : aX → Prop} {aL σ : Heap} {R : HP} {M : AV → List Cu → HP} {e : an} {x : rA}
variable {v : AV} {l : List rA}
end
end
section
open HP
theorem FF{α:Type}{f:an→Heap→Option LS}{Q:LS→Prop}(l:List α)(I:Nat→an→Heap→Prop){v0:an}{σ:Heap}
  (hstep:∀i x v σ,l[i]? =some x→I i v σ→∃v' σ',f v σ=some (.normal,v',σ')∧I (i+1) v' σ')
  (hend:∀v σ,I l.length v σ→∃q,f v σ=some q∧q.1≠.normal∧Q q) (h0:I 0 v0 σ):∃q,A.loop f v0 σ=some q∧Q q:=by
 have key:∀(k i:Nat)v σ,l.length-i≤k→i≤l.length→I i v σ→∃q,(∃n,A.iter f n v σ=some q)∧Q q:=by
  intro k;induction k with
  |zero=>
   intro i v σ hk hle hI;have:i=l.length:=by omega
   subst this;obtain⟨q,h1,h2,h3⟩:=hend v σ hI;exact⟨q,nO h1 h2,h3⟩
  |succ k ih=>
   intro i v σ hk hle hI;by_cases hi:i<l.length
   ·obtain⟨v',σ',h1,h2⟩:=hstep i _ v σ (bQ hi) hI;obtain⟨q,hq,hQ⟩:=ih (i+1) v' σ' (by omega) (by omega) h2;exact⟨q,wz h1 hq,hQ⟩
   ·have:i=l.length:=by omega
    subst this;obtain⟨q,h1,h2,h3⟩:=hend v σ hI;exact⟨q,nO h1 h2,h3⟩
 obtain⟨q,⟨n,hn⟩,hQ⟩:=key _ 0 v0 σ (bH _) (kQ _) h0;exact⟨q,uq hn,hQ⟩
theorem FY{β:Type}{f:an→Heap→Option LS}{K:LS→Option β}{v0:an}{σ:Heap}{P:β→Prop}{Q:LS→Prop}(h:∃q,A.loop f v0 σ=some q∧Q q)(k:∀q,Q q→∃b,K q=some b∧P b):∃b,(A.loop f v0 σ).bind K=some b∧P b:=by obtain⟨q,h1,h2⟩:=h;obtain⟨b,h3,h4⟩:=k q h2;exact⟨b,by rw[h1];exact h3,h4⟩
section
variable {α : Type} {c : α → an} {sz : Nat} {B : aX → Prop} {aL σ : Heap} {R : HP} {v : AV} {l : List α}
theorem T9{most:Nat}{m r:an→Heap→au}{r0:AV→Heap→au}(hm:m=A.Cl (A.wrap true [(.s sz)] .k (A.fG r0)))(hr:∀a σ,r0 a σ=(A.C8 a .aE).bind λx1=>A.cond x1 (some (.aE,σ)) ((A.append sz most .ez a σ).bind λr2=>some (r2.1,r2.2)))
  (hl:l.length≤most) (hB:∀g g' seg,(seg=[]∨B (.arr g sz seg))→B (.arr g' sz (seg++l.map c))) (H:Hs B aL σ R):∃v σ',m [sl sz c l] σ=some (v,σ')∧A.cell v=some v∧Hs B aL σ' (Sl (fl c) sz v l*R):=by
 subst hm;cases l with
 |nil=>exact⟨.ez,σ,rfl,rfl,uf H (.inr rfl)⟩
 |cons x l=>
  obtain⟨v',σ',e1,H2⟩:=F7 (B:=B) (E:=fl c) (sz:=sz) (v:=.ez) (l:=[]) (ys:=(x::l).map c) (xs:=x::l) (most:=most) (uf (wT.2 ⟨rfl,H⟩) (.inr rfl)) (by simpa using hl) hB
  have hv:A.cell v'=some v':=by
   rcases oC H2 with⟨h,_,_⟩|⟨id,g,rfl,_⟩
   ·cases h
   ·rfl
  refine⟨v',σ',?_,hv,H2⟩;show A.wrap true [(.s sz)] .k (A.fG r0) [sl sz c (x::l)] σ=_;refine wrap_eq rfl ?_ rfl;show r0 (sl sz c (x::l)) σ=_;rw[hr,show A.C8 (sl sz c (x::l)) .aE=some (.bool false)from rfl,aC,bU,show sl sz c (x::l)=.sl sz ((x::l).map c)from rfl,e1];rfl
end
section
variable {aL σ : Heap} {R : HP}
end
end
section
open HP
theorem jq{f:an→Heap→Option LS}{Q:LS→Prop}(I:Nat→an→Heap→Prop)(hstep:∀n v σ,I n v σ→(∃m v' σ',m<n∧f v σ=some (.normal,v',σ')∧I m v' σ')∨∃q,f v σ=some q∧q.1≠.normal∧Q q){n:Nat}{v0:an}{σ:Heap}(h0:I n v0 σ):∃q,A.loop f v0 σ=some q∧Q q:=by
 have key:∀(k n:Nat)v σ,n≤k→I n v σ→∃q,(∃m,A.iter f m v σ=some q)∧Q q:=by
  intro k;induction k with
  |zero=>
   intro n v σ hn hI;rcases hstep n v σ hI with⟨m,_,_,hm,_⟩|⟨q,h1,h2,h3⟩
   ·omega
   ·exact⟨q,nO h1 h2,h3⟩
  |succ k ih=>
   intro n v σ hn hI;rcases hstep n v σ hI with⟨m,v',σ',hm,h1,h2⟩|⟨q,h1,h2,h3⟩
   ·obtain⟨q,hq,hQ⟩:=ih m v' σ' (by omega) h2;exact⟨q,wz h1 hq,hQ⟩
   ·exact⟨q,nO h1 h2,h3⟩
 obtain⟨q,⟨m,hm⟩,hQ⟩:=key n n v0 σ (bH _) h0;exact⟨q,uq hm,hQ⟩
theorem gT(X d:Option AV):A.guard (.bool true) true X d=X:=by have h:A.guard (.bool true) true X d=X:=rfl;exact h.trans (Eq.refl X)
theorem gF(X d:Option AV):A.guard (.bool false) false X d=X:=by have h:A.guard (.bool false) false X d=X:=rfl;exact h.trans (Eq.refl X)
theorem o8(X d:Option AV):A.guard (.bool false) true X d=d:=by have h:A.guard (.bool false) true X d=d:=rfl;exact h.trans (Eq.refl d)
theorem C9(X d:Option AV):A.guard (.bool true) false X d=d:=by have h:A.guard (.bool true) false X d=d:=rfl;exact h.trans (Eq.refl d)
theorem bS{α β:Type}(a:α)(f:α→Option β):(some a).bind f=f a:=by have h:(some a).bind f=f a:=rfl;exact h.trans (Eq.refl (f a))
theorem gn(n:Nat){α:Type}{X Y:α}:(bif (AX.exit n==AX.exit n)then X else Y)=X:=by rw[show(AX.exit n==AX.exit n)=true from beq_self_eq_true _];rfl
theorem sw(x y:AV):A.pick (.bool false) x y=some y:=rfl
theorem qA(x y:AV):A.pick (.bool true) x y=some x:=rfl
theorem CY:A.not (.bool true)=some (.bool false):=rfl
theorem GY:A.not (.bool false)=some (.bool true):=rfl
end
section
set_option maxRecDepth 100000
abbrev bn(id g n:Nat):AV:=.os id g 3 0 n
abbrev bp(g:Nat)(l:List aA):aX:=.arr g 3 (l.map ay)
theorem oS{a b:Nat}(h:a+b<4611686018427387904):A.add (.int .i64 (a:Int)) (.int .i64 (b:Int))=some (.int .i64 ((a+b:Nat):Int)):=by rw[xk,dL (by unfold bE;omega)];rfl
theorem jx{a:Nat}(h:a+1<4611686018427387904):A.add (.int .i64 (a:Int)) (.int .i64 1)=some (.int .i64 ((a+1:Nat):Int)):=oS (b:=1) h
theorem mC{a b:Nat}(h:b≤a)(h2:a<4611686018427387904):A.sub (.int .i64 (a:Int)) (.int .i64 (b:Int))=some (.int .i64 ((a-b:Nat):Int)):=by rw[xp,dL (by unfold bE;omega),Int.ofNat_sub h]
theorem CH{a:Nat}(h:1≤a)(h2:a<4611686018427387904):A.sub (.int .i64 (a:Int)) (.int .i64 1)=some (.int .i64 ((a-1:Nat):Int)):=mC (b:=1) h h2
theorem fE(a b:Nat):A.lss (.int .i64 (a:Int)) (.int .i64 (b:Int))=some (.bool (decide (a<b))):=by rw[oO];congr 2;rw[decide_eq_decide];omega
theorem CX(a b:Nat):A.gtr (.int .i64 (a:Int)) (.int .i64 (b:Int))=some (.bool (decide (b<a))):=by rw[xm];congr 2;rw[decide_eq_decide];omega
theorem Nv(a b:Nat):A.leq (.int .i64 (a:Int)) (.int .i64 (b:Int))=some (.bool (decide (a≤b))):=by rw[Gx];congr 2;rw[decide_eq_decide];omega
theorem Za(a b:Nat):A.neq .i (.int .i64 (a:Int)) (.int .i64 (b:Int))=some (.bool (decide (a≠b))):=by rw[nj];congr 2;rw[decide_eq_decide];omega
section
variable {id g n : Nat} {W : Heap} {l : List aA}
theorem jk{i:Nat}(h:i<n):A.aJ 3 (bn id g n) (.int .i64 (i:Int))=some (.oe id g i 0):=by
 have:((i:Int)<(n:Int)):=by omega
 simp [A.aJ,A.idx,this]
theorem l8{i:Nat}{x:aA}(h:W[id]? =some (bp g l))(hx:l[i]? =some x):((A.deref (.oe id g i 0) W).bind λc=>A.aB 0 3 c)=some (.agg (ay x)):=by simp only[A.deref,h,if_true,xj,hx,dN,List.drop_zero];rfl
theorem nH(x:aA):A.cells 3 (.agg (ay x))=some (ay x):=rfl
theorem sK{i:Nat}(y:aA)(h:W[id]? =some (bp g l))(hi:i<l.length):A.storeAt (.oe id g i 0) (ay y) W=some (W.set id (bp g (l.set i y))):=by
 have hx:(l.map ay)[i]? =some (ay l[i]):=by rw[xj,bQ hi];rfl
 simp only[A.storeAt,h,if_true,hx,aC];rw[show A.aV 0 (ay y) (ay l[i])=some (ay y)from rfl,dN];show _=some (W.set id (.arr g 3 ((l.set i y).map ay)));rw[List.map_set]
theorem jE(h:W[id]? =some (bp g l))(l':List aA):(W.set id (bp g l'))[id]? =some (bp g l'):=by have:=(bK.1 h).1;rw[jR this]
theorem mq(h:W[id]? =some (bp g l)):W.set id (bp g l)=W:=by obtain⟨hl,e⟩:=bK.1 h;rw[←e];exact List.set_getElem_self hl
end
theorem CJ{α:Type}(U V Z:List α)(x y:α):(U++x::(V++y::Z))[U.length]? =some x∧(U++x::(V++y::Z))[U.length+1+V.length]? =some y∧((U++x::(V++y::Z)).set U.length y).set (U.length+1+V.length) x=U++y::(V++x::Z)∧((U++x::(V++y::Z)).set (U.length+1+V.length) x).set U.length y=U++y::(V++x::Z):=by
 have e1:∀(a:α)(T:List α),(U++a::T).set U.length y=U++y::T:=λa T=>by rw[nZ _ _ (bH _),Nat.sub_self];rfl
 have e2:∀a,(U++a::(V++y::Z)).set (U.length+1+V.length) x=U++a::(V++x::Z):=λa=>by rw[nZ _ _ (by omega),show U.length+1+V.length-U.length=V.length+1 by omega,List.set_cons_succ,nZ _ _ (bH _),Nat.sub_self];rfl
 refine⟨?_,?_,?_,?_⟩
 ·rw[eC (bH _),Nat.sub_self];rfl
 ·rw[eC (by omega),show U.length+1+V.length-U.length=V.length+1 by omega,List.getElem?_cons_succ,eC (bH _),Nat.sub_self];rfl
 ·rw[e1,e2]
 ·rw[e2,e1]
theorem RE{id g:Nat}{W:Heap}{P X M Y Q:List aA}(hn:X.length=Y.length)(hl:(P++X++M++Y++Q).length<1000000000000)(h:W[id]? =some (bp g (P++X++M++Y++Q)))(f:AV):
  qG [bn id g (P++X++M++Y++Q).length,.int .i64 (P.length:Int),.int .i64 ((P.length+X.length+M.length:Nat):Int),.int .i64 (X.length:Int),f] W=some (.aG [],W.set id (bp g (P++Y++M++X++Q))):=by
 suffices hr:vO (bn id g (P++X++M++Y++Q).length) (.int .i64 (P.length:Int)) (.int .i64 ((P.length+X.length+M.length:Nat):Int)) (.int .i64 (X.length:Int)) f W=some (.aG [],W.set id (bp g (P++Y++M++X++Q))) by show(A.lR vO _ W).map _=_;have:A.lR vO (A.bW [] [bn id g (P++X++M++Y++Q).length,.int .i64 (P.length:Int),.int .i64 ((P.length+X.length+M.length:Nat):Int),.int .i64 (X.length:Int),f]) W=_:=hr;rw[this];rfl
 unfold vO;obtain⟨N,hN⟩:∃N,N=(P++X++M++Y++Q).length:=⟨_,rfl⟩
 have mH:N=P.length+X.length+M.length+Y.length+Q.length:=by rw[hN];simp;omega
 rw[←hN]at hl ⊢;obtain⟨L,hL⟩:∃L:Nat→List aA,L=λi=>P++(Y.take i++X.drop i)++M++(X.take i++Y.drop i)++Q:=⟨_,rfl⟩
 have X7:L 0=P++X++M++Y++Q:=by rw[hL];simp
 have X9:L X.length=P++Y++M++X++Q:=by rw[hL];simp [gD (Nat.le_of_eq hn.symm),List.drop_of_length_le (Nat.le_of_eq hn.symm)]
 have qw:∀i,(L i).length=N:=λi=>by rw[hL,mH];simp;omega
 have Aj:∃q,A.loop ((λv1 s2=>
   (A.lss (ah v1 0) (AV.int .i64 (X.length:Int))).bind λx4=>
   A.cond x4 (
    (A.add (AV.int .i64 (P.length:Int)) (ah v1 0)).bind λx5=>
    (A.add (AV.int .i64 ((P.length+X.length+M.length:Nat):Int)) (ah v1 0)).bind λx6=>
    (A.add (AV.int .i64 ((P.length+X.length+M.length:Nat):Int)) (ah v1 0)).bind λx7=>
    (A.aJ 3 (bn id g N) x7).bind λx8=>
    ((A.deref x8 s2).bind λc9=>A.aB 0 3 c9).bind λbg=>
    (A.add (AV.int .i64 (P.length:Int)) (ah v1 0)).bind λcg=>
    (A.aJ 3 (bn id g N) cg).bind λbP=>
    ((A.deref bP s2).bind λrO=>A.aB 0 3 rO).bind λcu=>
    (A.aJ 3 (bn id g N) x5).bind λbf=>
    (A.cells 3 bg).bind λuW=>
    (A.storeAt bf uW s2).bind λjZ=>
    (A.aJ 3 (bn id g N) x6).bind λbA=>
    (A.cells 3 cu).bind λoX=>
    (A.storeAt bA oX jZ).bind λdD=>
    (A.add (ah v1 0) cO).bind λbw=>
    some (AX.normal,[bw],dD)) (
    some (AX.exit 0,[(ah v1 0)],s2)))) [.int .i64 0] W=some q∧q=(.exit 0,[.int .i64 (X.length:Int)],W.set id (bp g (L X.length))):=by
  refine jq (λz u w=>∃i:Nat,i≤X.length∧u=[.int .i64 (i:Int)]∧z=X.length-i∧w=W.set id (bp g (L i))) ?_ (n:=X.length) ⟨0,kQ _,rfl,rfl,by rw[X7,mq h]⟩;rintro z u w ⟨i,hi,rfl,hz,rfl⟩;simp only[cz,dB];rw[fE,bS];by_cases hlt:i<X.length
  ·have ex:X.drop i=X[i]::X.drop (i+1):=List.drop_eq_getElem_cons hlt
   have ey:Y.drop i=Y[i]'(by omega)::Y.drop (i+1):=List.drop_eq_getElem_cons (by omega)
   have tx:X.take (i+1)=X.take i++[X[i]]:=List.take_succ_eq_append_getElem hlt
   have ty:Y.take (i+1)=Y.take i++[Y[i]'(by omega)]:=List.take_succ_eq_append_getElem (by omega)
   generalize X[i]=x at ex tx
   generalize Y[i]'(by omega)=y at ey ty
   have hU:(P++Y.take i).length=P.length+i:=by simp;omega
   have hV:(X.drop (i+1)++M++X.take i).length+(P.length+i)+1=P.length+X.length+M.length+i:=by simp;omega
   obtain⟨s1,s2,s3,s4⟩:=CJ (P++Y.take i) (X.drop (i+1)++M++X.take i) (Y.drop (i+1)++Q) x y;have eL:L i=(P++Y.take i)++x::((X.drop (i+1)++M++X.take i)++y::(Y.drop (i+1)++Q)):=by rw[hL];simp only[ex,ey];simp
   have XS:L (i+1)=(P++Y.take i)++y::((X.drop (i+1)++M++X.take i)++x::(Y.drop (i+1)++Q)):=by rw[hL];simp only[tx,ty];simp
   rw[←eL]at s1 s2 s3;rw[←XS]at s3;rw[hU]at s1 s2 s3;rw[show P.length+i+1+(X.drop (i+1)++M++X.take i).length=P.length+X.length+M.length+i by omega]at s2 s3;have hg:=jE h (L i);rw[cj hlt,cG,oS (by omega),bS,oS (by omega),bS,bS,jk (by omega),bS,l8 hg s2,bS,bS,jk (by omega),bS,l8 hg s1,bS,bS,nH,bS,sK y hg (by rw[qw];omega),bS,bS,nH,bS,sK x (jE hg _) (by rw[List.length_set,qw];omega),bS,jx (by omega),bS];refine .inl ⟨X.length-(i+1),_,_,by omega,rfl,i+1,hlt,rfl,rfl,?_⟩;rw[s3,List.set_set,List.set_set]
  ·have:i=X.length:=by omega
   subst this;rw[bZ hlt,bU];exact .inr ⟨_,rfl,by simp,rfl⟩
 obtain⟨q,e,rfl⟩:=Aj;rw[e,bS];simp only[gn];rw[X9]
theorem TF{id g:Nat}{W:Heap}{P X Y Q:List aA}(hl:(P++X++Y++Q).length<1000000000000)(hx:0<X.length)(hy:0<Y.length)(h:W[id]? =some (bp g (P++X++Y++Q)))(f:AV):
  xW [bn id g (P++X++Y++Q).length,.int .i64 (P.length:Int),.int .i64 ((P.length+X.length:Nat):Int),.int .i64 ((P.length+X.length+Y.length:Nat):Int),f] W=some (.aG [],W.set id (bp g (P++Y++X++Q))):=by
 obtain⟨N,hN⟩:∃N,N=(P++X++Y++Q).length:=⟨_,rfl⟩
 have mH:N=P.length+X.length+Y.length+Q.length:=by rw[hN];simp;omega
 rw[←hN]at hl ⊢;obtain⟨T,hT⟩:∃T,T=P++Y++X++Q:=⟨_,rfl⟩
 obtain⟨m,hm⟩:∃m,m=P.length+X.length:=⟨_,rfl⟩
 suffices hr:vR (bn id g N) (.int .i64 (P.length:Int)) (.int .i64 (m:Int)) (.int .i64 ((P.length+X.length+Y.length:Nat):Int)) f W=some (.aG [],W.set id (bp g T)) by
  show(A.lR vR _ W).map _=_;have:A.lR vR (A.bW [] [bn id g N,.int .i64 (P.length:Int),.int .i64 ((P.length+X.length:Nat):Int),.int .i64 ((P.length+X.length+Y.length:Nat):Int),f]) W=some (.aG [],W.set id (bp g T)):=by rw[hm]at hr;exact hr
  rw[this,←hT];rfl
 unfold vR;rw[mC (by omega) (by omega),bS,mC (by omega) (by omega),bS,show m-P.length=X.length by omega,show P.length+X.length+Y.length-m=Y.length by omega]
 have swp:∀(P' A' M' B' Q':List aA)(W':Heap),A'.length=B'.length→(P'++A'++M'++B'++Q').length=N→W'[id]? =some (bp g (P'++A'++M'++B'++Q'))→qG [bn id g N,.int .i64 (P'.length:Int),.int .i64 ((P'.length+A'.length+M'.length:Nat):Int),.int .i64 (A'.length:Int),f] W'=some (.aG [],W'.set id (bp g (P'++B'++M'++A'++Q'))):=λP' A' M' B' Q' W' h1 h2 h3=>by have:=RE h1 (by rw[h2];exact hl) h3 f;rwa[h2]at this
 have Aj:∃q,A.loop ((λv3 s4=>
   (A.neq .i (ah v3 0) (ah v3 1)).bind λx6=>
   A.cond x6 (
    (A.gtr (ah v3 0) (ah v3 1)).bind λx7=>
    (A.cond x7 (
     (A.sub (AV.int .i64 (m:Int)) (ah v3 0)).bind λx9=>
     (qG [(bn id g N),x9,(AV.int .i64 (m:Int)),(ah v3 1),f] s4).bind λvA=>
     (A.sub (ah v3 0) (ah v3 1)).bind λcg=>
     some ([cg,(ah v3 1)],vA.2)) (
     (A.sub (AV.int .i64 (m:Int)) (ah v3 0)).bind λbP=>
     (A.add (AV.int .i64 (m:Int)) (ah v3 1)).bind λbT=>
     (A.sub bT (ah v3 0)).bind λcu=>
     (qG [(bn id g N),bP,cu,(ah v3 0),f] s4).bind λfZ=>
     (A.sub (ah v3 1) (ah v3 0)).bind λbG=>
     some ([(ah v3 0),bG],fZ.2))).bind λr8=>
    some (AX.normal,[(ah r8.1 0),(ah r8.1 1)],r8.2)) (
    some (AX.exit 0,[(ah v3 0),(ah v3 1)],s4)))) [.int .i64 (X.length:Int),.int .i64 (Y.length:Int)] W=some q∧∃P' X' Y' Q':List aA,P'.length+X'.length=m∧X'.length=Y'.length∧P'++Y'++X'++Q'=T∧(P'++X'++Y'++Q').length=N∧q=(.exit 0,[.int .i64 (X'.length:Int),.int .i64 (X'.length:Int)],W.set id (bp g (P'++X'++Y'++Q'))):=by
  refine jq (λz u w=>∃P' X' Y' Q':List aA,P'.length+X'.length=m∧0<X'.length∧0<Y'.length∧P'++Y'++X'++Q'=T∧(P'++X'++Y'++Q').length=N∧z=X'.length+Y'.length∧u=[.int .i64 (X'.length:Int),.int .i64 (Y'.length:Int)]∧w=W.set id (bp g (P'++X'++Y'++Q'))) ?_ (n:=X.length+Y.length) ⟨P,X,Y,Q,hm.symm,hx,hy,hT.symm,hN.symm,rfl,rfl,(mq h).symm⟩;rintro z u w ⟨P',X',Y',Q',q1,q2,q3,q4,q5,rfl,rfl,rfl⟩;have OA:P'.length+X'.length+Y'.length+Q'.length=N:=by rw[←q5];simp;omega
  simp only[cz,dB];rw[Za,bS];by_cases hne:X'.length=Y'.length
  ·rw[bZ (by simp [hne]),bU];exact .inr ⟨_,rfl,by simp,P',X',Y',Q',q1,hne,q4,q5,by rw[hne]⟩
  rw[cj hne,cG,CX,bS];have hg:=jE h (P'++X'++Y'++Q');by_cases hgt:Y'.length<X'.length
  ·-- the head of X' with Y'
   obtain⟨X1,X2,hX,tW⟩:∃X1 X2,X'=X1++X2∧X1.length=Y'.length:=⟨X'.take Y'.length,X'.drop Y'.length,(List.take_append_drop _ _).symm,by simp;omega⟩
   subst hX;rw[List.length_append]at q1 q2 OA hgt hne;have hs:=swp P' X1 X2 Y' Q' _ tW (by rw[←q5];simp) (by rw[hg];simp);rw[List.length_append,cj hgt,cG,mC (by omega) (by omega),bS,show m-(X1.length+X2.length)=P'.length by omega];rw[show m=P'.length+X1.length+X2.length by omega,←tW,hs,bS];simp only;rw[mC (by omega) (by omega),bS,bS];simp only[cz,dB];refine .inl ⟨X2.length+X1.length,_,_,by omega,rfl,P'++Y',X2,X1,Q',by simp;omega,by omega,by omega,?_,by rw[←q5];simp;omega,rfl,by rw[show X1.length+X2.length-X1.length=X2.length by omega],?_⟩
   ·rw[←q4];simp
   ·rw[List.set_set]
  ·-- X' with the tail of Y'
   obtain⟨Y1,Y2,hY,Ab⟩:∃Y1 Y2,Y'=Y1++Y2∧Y2.length=X'.length:=⟨Y'.take (Y'.length-X'.length),Y'.drop (Y'.length-X'.length),(List.take_append_drop _ _).symm,by simp;omega⟩
   subst hY;rw[List.length_append]at q3 OA hgt hne;have hs:=swp P' X' Y1 Y2 Q' _ Ab.symm (by rw[←q5];simp) (by rw[hg];simp);rw[List.length_append,bZ hgt,bU,mC (by omega) (by omega),bS,oS (by omega),bS,mC (by omega) (by omega),bS,show m-X'.length=P'.length by omega,show m+(Y1.length+Y2.length) -X'.length=P'.length+X'.length+Y1.length by omega,hs,bS];simp only;rw[mC (by omega) (by omega),bS,bS];simp only[cz,dB];refine .inl ⟨Y2.length+Y1.length,_,_,by omega,rfl,P',Y2,Y1,X'++Q',by omega,by omega,by omega,?_,by rw[←q5];simp;omega,rfl,by rw[show Y1.length+Y2.length-X'.length=Y1.length by omega,Ab],?_⟩
   ·rw[←q4];simp
   ·rw[List.set_set];simp
 obtain⟨q,e,P',X',Y',Q',q1,q2,q3,q4,rfl⟩:=Aj;rw[e,bS];simp only[gn,cz,dB];have hg:=jE h (P'++X'++Y'++Q');have q4':P'.length+X'.length+Y'.length+Q'.length=N:=by rw[←q4];simp;omega
 have hs:=swp P' X' [] Y' Q' _ q2 (by rw[←q4];simp) (by rw[hg];simp);rw[List.length_nil,Nat.add_zero,q1]at hs;rw[mC (by omega) (by omega),bS,show m-X'.length=P'.length by omega,hs,bS,List.set_set];rw[←q3];simp
end
section
set_option maxRecDepth 100000
abbrev bu(x y:aA):Bool:=fP x.key y.key
def dm(l:List aA):Prop:=l.Pairwise λx y=>bu y x=false
abbrev fk(k:bB)(l:List aA):List aA:=l.filter λs=>decide (s.key=k)
def b7(Z S:List aA):Prop:=∀k,fk k Z=fk k S
theorem b7.refl(l:List aA):b7 l l:=λ_=>rfl
theorem b7.trans{a b c:List aA}(h:b7 a b)(k:b7 b c):b7 a c:=λx=>(h x).trans (k x)
theorem b7.app{a b c d:List aA}(h:b7 a b)(k:b7 c d):b7 (a++c) (b++d):=λx=>by show fk x (a++c)=fk x (b++d);unfold fk;rw[List.filter_append,List.filter_append];exact congr (congrArg _ (h x)) (k x)
theorem b7.mem{a b:List aA}(h:b7 a b){x:aA}(hx:x∈a):x∈b:=by have:x∈fk x.key a:=List.mem_filter.2 ⟨hx,by simp⟩;rw[h]at this;exact(List.mem_filter.1 this).1
theorem Cq{x y z:aA}(h:bu x y=true)(k:bu y z=true):bu x z=true:=Kc h k
theorem za{x y z:aA}(h:bu y x=false)(k:bu z y=false):bu z x=false:=by
 cases q:bu z x with
 |false=>rfl
 |true=>
  -- z < x; y not below x, so x = y or x < y
  by_cases e:bu x y=true
  ·rw[Cq q e]at k;cases k
  ·have:x.key=y.key:=FG (by simpa using e) h;unfold bu at k q;rw[←this,q]at k;cases k
theorem N4{x y:aA}(h:bu x y=true):bu y x=false:=by
 cases q:bu y x with
 |false=>rfl
 |true=>have:=Cq h q;unfold bu at this;rw[Lx]at this;cases this
theorem qT{x y:aA}(h:bu x y=true):x.key≠y.key:=λe=>by unfold bu at h;rw[e,Lx]at h;cases h
theorem Nt{x y z:aA}(h:bu x y=true)(k:bu z y=false):bu x z=true:=by
 cases q:bu x z with
 |true=>rfl
 |false=>rw[za k q]at h;cases h
theorem WO{x y z:aA}(h:bu y x=false)(k:bu y z=true):bu x z=true:=by
 cases q:bu x z with
 |true=>rfl
 |false=>rw[za q h]at k;cases k
theorem VD{S1 S2:List aA}{x:aA}(hs:dm (S1++S2))(hB:∀b∈S2,bu x b=true)(hA:∀y,S1.getLast? =some y→bu x y=false):dm (S1++x::S2)∧b7 (S1++x::S2) (S1++S2++[x]):=by
 have h:=List.pairwise_append.1 hs
 have X6:∀a∈S1,bu x a=false:=λa ha=>by
  cases hl:S1.getLast? with
  |none=>rw[List.getLast?_eq_none_iff]at hl;subst hl;simp at ha
  |some y=>
   have hy:=hA y hl;obtain⟨lQ,rfl⟩:=List.getLast?_eq_some_iff.1 hl;rcases dg.1 ha with ha|ha
   ·exact za ((List.pairwise_append.1 h.1).2.2 a ha y (by simp)) hy
   ·rw[List.mem_singleton.1 ha];exact hy
 refine⟨List.pairwise_append.2 ⟨h.1,List.pairwise_cons.2 ⟨λb hb=>N4 (hB b hb),h.2.1⟩,λa ha b hb=>?_⟩,λk=>?_⟩
 ·rcases dc.1 hb with rfl|hb
  ·exact X6 a ha
  ·exact h.2.2 a ha b hb
 ·show fk k _=fk k _;unfold fk;rw[gl,List.filter_append,List.filter_append];congr 1;rw[List.filter_append,List.filter_cons,List.filter_cons];by_cases hk:x.key=k
  ·have:S2.filter (λs=>decide (s.key=k))=[]:=by rw[List.filter_eq_nil_iff];intro b hb q;have:=qT (hB b hb);simp only[decide_eq_true_eq]at q;exact this (by rw[hk,q])
   rw[this];simp [hk]
  ·simp [hk]
def n4(dyn:Nat→an→Heap→au)(f:AV):Prop:=∀(x y:aA)(W:Heap),A.quiet (A.eB dyn f [.agg (ay x),.agg (ay y)] W) W=some (.int .i64 (wR x.key y.key))
theorem cmpL(x y:aA):A.lss (.int .i64 (wR x.key y.key)) (.int .i64 0)=some (.bool (bu x y)):=by
 rw[oO];congr 2;have:=Sz x.key y.key;unfold bu;cases q:fP x.key y.key with
 |true=>exact cj (this.2 q)
 |false=>exact bZ (λe=>by rw[this.1 e]at q;cases q)
section
variable {dyn : Nat → an → Heap → au} {f : AV} {id g N : Nat} {W : Heap}
theorem VC(hc:n4 dyn f){P S Q:List aA}{x:aA}(hN:(P++S++x::Q).length=N)(hl:N<1000000000000)(h:W[id]? =some (bp g (P++S++x::Q))):
  ∃S1 S2,S=S1++S2∧(∀b∈S2,bu x b=true)∧(∀y,S1.getLast? =some y→bu x y=false)∧∃u,A.loop ((λv6 s7=>
      (A.gtr (ah v6 0) (AV.int .i64 (P.length:Int))).bind λx9=>
      (A.guard x9 true (some f) aq).bind λbg=>
      (A.guard x9 true (some (bn id g N)) aq).bind λcg=>
      (A.guard x9 true (some (ah v6 0)) aq).bind λbP=>
      (A.guard x9 true (A.aJ 3 cg bP) aq).bind λbT=>
      (A.guard x9 true ((A.deref bT s7).bind λiq=>A.aB 0 3 iq) aq).bind λbf=>
      (A.guard x9 true (some (bn id g N)) aq).bind λbG=>
      (A.guard x9 true (some (ah v6 0)) aq).bind λbM=>
      (A.guard x9 true (A.sub bM cO) aq).bind λbA=>
      (A.guard x9 true (A.aJ 3 bG bA) aq).bind λcr=>
      (A.guard x9 true ((A.deref cr s7).bind λdD=>A.aB 0 3 dD) aq).bind λbw=>
      (A.guard x9 true (A.quiet (A.eB dyn bg [bf,bw] s7) s7) aq).bind λbX=>
      (A.guard x9 true (A.lss bX b9) aq).bind λcy=>
      (A.pick x9 cy bF).bind λcC=>
      A.cond cC (
       (A.sub (ah v6 0) cO).bind λcA=>
       (A.sub (ah v6 0) cO).bind λcD=>
       (A.aJ 3 (bn id g N) cD).bind λcN=>
       ((A.deref cN s7).bind λj0=>A.aB 0 3 j0).bind λdJ=>
       (A.aJ 3 (bn id g N) (ah v6 0)).bind λck=>
       ((A.deref ck s7).bind λnr=>A.aB 0 3 nr).bind λdK=>
       (A.aJ 3 (bn id g N) (ah v6 0)).bind λeN=>
       (A.cells 3 dJ).bind λlT=>
       (A.storeAt eN lT s7).bind λgA=>
       (A.aJ 3 (bn id g N) cA).bind λfR=>
       (A.cells 3 dK).bind λkg=>
       (A.storeAt fR kg gA).bind λiu=>
       (A.sub (ah v6 0) cO).bind λdQ=>
       some (AX.normal,[dQ],iu)) (
       some (AX.exit 2,[(ah v6 0)],s7)))) [.int .i64 ((P.length+S.length:Nat):Int)] W=some (.exit 2,u,W.set id (bp g (P++S1++x::(S2++Q)))):=by
 suffices hq:∃q,A.loop ((λv6 s7=>
      (A.gtr (ah v6 0) (AV.int .i64 (P.length:Int))).bind λx9=>
      (A.guard x9 true (some f) aq).bind λbg=>
      (A.guard x9 true (some (bn id g N)) aq).bind λcg=>
      (A.guard x9 true (some (ah v6 0)) aq).bind λbP=>
      (A.guard x9 true (A.aJ 3 cg bP) aq).bind λbT=>
      (A.guard x9 true ((A.deref bT s7).bind λiq=>A.aB 0 3 iq) aq).bind λbf=>
      (A.guard x9 true (some (bn id g N)) aq).bind λbG=>
      (A.guard x9 true (some (ah v6 0)) aq).bind λbM=>
      (A.guard x9 true (A.sub bM cO) aq).bind λbA=>
      (A.guard x9 true (A.aJ 3 bG bA) aq).bind λcr=>
      (A.guard x9 true ((A.deref cr s7).bind λdD=>A.aB 0 3 dD) aq).bind λbw=>
      (A.guard x9 true (A.quiet (A.eB dyn bg [bf,bw] s7) s7) aq).bind λbX=>
      (A.guard x9 true (A.lss bX b9) aq).bind λcy=>
      (A.pick x9 cy bF).bind λcC=>
      A.cond cC (
       (A.sub (ah v6 0) cO).bind λcA=>
       (A.sub (ah v6 0) cO).bind λcD=>
       (A.aJ 3 (bn id g N) cD).bind λcN=>
       ((A.deref cN s7).bind λj0=>A.aB 0 3 j0).bind λdJ=>
       (A.aJ 3 (bn id g N) (ah v6 0)).bind λck=>
       ((A.deref ck s7).bind λnr=>A.aB 0 3 nr).bind λdK=>
       (A.aJ 3 (bn id g N) (ah v6 0)).bind λeN=>
       (A.cells 3 dJ).bind λlT=>
       (A.storeAt eN lT s7).bind λgA=>
       (A.aJ 3 (bn id g N) cA).bind λfR=>
       (A.cells 3 dK).bind λkg=>
       (A.storeAt fR kg gA).bind λiu=>
       (A.sub (ah v6 0) cO).bind λdQ=>
       some (AX.normal,[dQ],iu)) (
       some (AX.exit 2,[(ah v6 0)],s7)))) [.int .i64 ((P.length+S.length:Nat):Int)] W=some q∧∃S1 S2 u,S=S1++S2∧(∀b∈S2,bu x b=true)∧(∀y,S1.getLast? =some y→bu x y=false)∧q=(.exit 2,u,W.set id (bp g (P++S1++x::(S2++Q)))) by
  obtain⟨q,e,S1,S2,u,h1,h2,h3,rfl⟩:=hq;exact⟨S1,S2,h1,h2,h3,u,e⟩
 refine jq (λz u w=>∃S1 S2:List aA,S=S1++S2∧(∀b∈S2,bu x b=true)∧z=S1.length∧u=[.int .i64 ((P.length+S1.length:Nat):Int)]∧w=W.set id (bp g (P++S1++x::(S2++Q)))) ?_ (n:=S.length) ⟨S,[],by simp,by simp,rfl,rfl,by rw[List.nil_append,mq h]⟩;rintro z u w ⟨S1,S2,hS,hB,rfl,rfl,rfl⟩;have hlen:P.length+S1.length+1+S2.length+Q.length=N:=by rw[←hN,hS];simp;omega
 simp only[cz];rw[CX,bS];cases hla:S1.getLast? with
 |none=>rw[List.getLast?_eq_none_iff]at hla;subst hla;rw[bZ (by simp)];simp only[o8,bS,sw,bU];exact .inr ⟨_,rfl,by simp,[],S2,_,hS,hB,by simp,rfl⟩
 |some y=>
  obtain⟨lQ,rfl⟩:=List.getLast?_eq_some_iff.1 hla;have hU:(P++lQ).length=P.length+lQ.length:=List.length_append;obtain⟨s1,s2,s3,s4⟩:=CJ (P++lQ) [] (S2++Q) y x;have eL:P++(lQ++[y])++x::(S2++Q)=(P++lQ)++y::([]++x::(S2++Q)):=by simp
  rw[←eL]at s1 s2 s4;rw[hU]at s1 s2 s4;rw[List.length_nil,Nat.add_zero]at s2 s4;have hg:=jE h (P++(lQ++[y])++x::(S2++Q));have Ai:P.length+(lQ++[y]).length=P.length+lQ.length+1:=by simp;omega
  have hlen':P.length+lQ.length+1+1+S2.length+Q.length=N:=by rw[←hlen];simp;omega
  rw[Ai,cj (by omega)];simp only[gT,bS,qA];rw[jk (by omega),bS];simp only[gT,bS];rw[l8 hg s2,bS];simp only[gT,bS];rw[CH (by omega) (by omega),bS,show P.length+lQ.length+1-1=P.length+lQ.length by omega];simp only[gT,bS];rw[jk (by omega),bS];simp only[gT,bS];rw[l8 hg s1,bS];simp only[gT,bS];rw[hc,bS,cmpL,bS];cases hlt:bu x y with
  |false=>rw[bU];exact .inr ⟨_,rfl,by simp,lQ++[y],S2,_,hS,hB,λz hz=>by simp at hz;rw[←hz];exact hlt,rfl⟩
  |true=>
   rw[cG,nH,bS,sK y hg (by simp<;>omega),bS,nH,bS,sK x (jE hg _) (by simp<;>omega),bS];refine .inl ⟨lQ.length,_,_,by simp,rfl,lQ,y::S2,by rw[hS];simp,λb hb=>?_,rfl,rfl,?_⟩
   ·rcases dc.1 hb with rfl|hb
    ·exact hlt
    ·exact hB b hb
   ·rw[List.set_set,List.set_set,s4];simp
theorem OK{r:AV→AV→AV→AV→Heap→au}{a0 a1 a2 a3:AV}{σ:Heap}{q:AV×Heap}(ha:A.bW [] [a0,a1,a2,a3]=[a0,a1,a2,a3])(h:r a0 a1 a2 a3 σ=some q):A.wrap false [] .k (A.uT r) [a0,a1,a2,a3] σ=some q:=by show((A.uT r) (A.bW [] [a0,a1,a2,a3]) σ).map _=_;rw[ha];show(r a0 a1 a2 a3 σ).map _=_;rw[h];rfl
theorem Ji(hc:n4 dyn f){P O Q:List aA}(hN:(P++O++Q).length=N)(hl:N<1000000000000)(h:W[id]? =some (bp g (P++O++Q))):
  ∃Z,dm Z∧b7 Z O∧Z.length=O.length∧qF dyn [bn id g N,.int .i64 (P.length:Int),.int .i64 ((P.length+O.length:Nat):Int),f] W=some (.aG [],W.set id (bp g (P++Z++Q))):=by
 have mH:P.length+O.length+Q.length=N:=by rw[←hN];simp;omega
 suffices hq:∃q,A.loop ((λv2 s3=>
   (A.lss (ah v2 0) (AV.int .i64 ((P.length+O.length:Nat):Int))).bind λx5=>
   A.cond x5 (
    (A.loop (λv6 s7=>
      (A.gtr (ah v6 0) (AV.int .i64 (P.length:Int))).bind λx9=>
      (A.guard x9 true (some f) aq).bind λbg=>
      (A.guard x9 true (some (bn id g N)) aq).bind λcg=>
      (A.guard x9 true (some (ah v6 0)) aq).bind λbP=>
      (A.guard x9 true (A.aJ 3 cg bP) aq).bind λbT=>
      (A.guard x9 true ((A.deref bT s7).bind λiq=>A.aB 0 3 iq) aq).bind λbf=>
      (A.guard x9 true (some (bn id g N)) aq).bind λbG=>
      (A.guard x9 true (some (ah v6 0)) aq).bind λbM=>
      (A.guard x9 true (A.sub bM cO) aq).bind λbA=>
      (A.guard x9 true (A.aJ 3 bG bA) aq).bind λcr=>
      (A.guard x9 true ((A.deref cr s7).bind λdD=>A.aB 0 3 dD) aq).bind λbw=>
      (A.guard x9 true (A.quiet (A.eB dyn bg [bf,bw] s7) s7) aq).bind λbX=>
      (A.guard x9 true (A.lss bX b9) aq).bind λcy=>
      (A.pick x9 cy bF).bind λcC=>
      A.cond cC (
       (A.sub (ah v6 0) cO).bind λcA=>
       (A.sub (ah v6 0) cO).bind λcD=>
       (A.aJ 3 (bn id g N) cD).bind λcN=>
       ((A.deref cN s7).bind λj0=>A.aB 0 3 j0).bind λdJ=>
       (A.aJ 3 (bn id g N) (ah v6 0)).bind λck=>
       ((A.deref ck s7).bind λnr=>A.aB 0 3 nr).bind λdK=>
       (A.aJ 3 (bn id g N) (ah v6 0)).bind λeN=>
       (A.cells 3 dJ).bind λlT=>
       (A.storeAt eN lT s7).bind λgA=>
       (A.aJ 3 (bn id g N) cA).bind λfR=>
       (A.cells 3 dK).bind λkg=>
       (A.storeAt fR kg gA).bind λiu=>
       (A.sub (ah v6 0) cO).bind λdQ=>
       some (AX.normal,[dQ],iu)) (
       some (AX.exit 2,[(ah v6 0)],s7))) [(ah v2 0)] s3).bind λko=>
    bif ko.1==AX.exit 2 then(
     (A.add (ah v2 0) cO).bind λeA=>
     some (AX.normal,[eA],ko.2.2))else
    none) (
    some (AX.exit 0,[(ah v2 0)],s3)))) [.int .i64 ((P.length+1:Nat):Int)] W=some q∧∃Z u,dm Z∧b7 Z O∧Z.length=O.length∧q=(.exit 0,u,W.set id (bp g (P++Z++Q))) by
  obtain⟨q,e,Z,u,h1,h2,h3,rfl⟩:=hq;refine⟨Z,h1,h2,h3,OK rfl ?_⟩;unfold AT;rw[jx (by omega),bS,e,bS];simp only[gn]
 by_cases hO:O=[]
 ·subst hO;refine jq (λz u w=>u=[.int .i64 ((P.length+1:Nat):Int)]∧w=W) ?_ (n:=0) ⟨rfl,rfl⟩;rintro z u w ⟨rfl,rfl⟩;simp only[cz];rw[fE,bS,bZ (by simp),bU];exact .inr ⟨_,rfl,by simp,[],_,List.Pairwise.nil,b7.refl _,rfl,by rw[mq h]⟩
 ·refine jq (λz u w=>∃S1 S2 S3:List aA,O=S1++S2∧dm S3∧b7 S3 S1∧S3.length=S1.length∧z=S2.length∧u=[.int .i64 ((P.length+S3.length:Nat):Int)]∧w=W.set id (bp g (P++S3++S2++Q))) ?_ (n:=O.length-1) ?_
  ·rintro z u w ⟨S1,S2,S3,rfl,h1,h2,h3,rfl,rfl,rfl⟩;simp only[cz,List.length_append];rw[List.length_append]at mH;rw[fE,bS];cases S2 with
   |nil=>rw[bZ (by rw[h3];simp),bU];exact .inr ⟨_,rfl,by simp,S3,_,h1,by simpa using h2,by simpa using h3,by rw[List.append_nil]⟩
   |cons y T=>
    rw[List.length_cons]at mH;rw[cj (by rw[h3,List.length_cons];omega),cG];have hg:=jE h (P++S3++y::T++Q);obtain⟨C,D,e1,e2,e3,u',e4⟩:=VC (g:=g) (id:=id) (W:=W.set id (bp g (P++S3++y::T++Q))) hc (P:=P) (S:=S3) (x:=y) (Q:=T++Q) (by simp;omega) hl (by rw[hg];simp);rw[e4,bS];simp only[gn];rw[jx (by omega),bS];subst e1;obtain⟨i1,i2⟩:=VD h1 e2 e3;refine .inl ⟨T.length,_,_,by simp,rfl,S1++[y],T,C++y::D,by simp,i1,i2.trans (h2.app (b7.refl [y])),?_,rfl,?_,?_⟩
    ·simp only[List.length_append,List.length_cons,List.length_nil]at h3 ⊢;omega
    ·simp only[List.length_append,List.length_cons];congr 3
    ·rw[List.set_set];simp
  ·obtain⟨x,T,rfl⟩:=List.exists_cons_of_ne_nil hO;exact⟨[x],T,[x],rfl,List.pairwise_singleton _ _,b7.refl _,rfl,by simp,rfl,by rw[show P++[x]++T++Q=P++x::T++Q by simp,mq h]⟩
end
end
section
set_option maxRecDepth 100000
abbrev nI(n:Nat):AV:=.int .i64 (n:Int)
theorem CG{β:Type}{i j:Nat}(h:i+j<4611686018427387904)(K:AV→Option β):((A.add (.int .i64 (i:Int)) (.int .i64 (j:Int))).bind λx6=>(A.conv .u64 x6).bind λx7=>(A.shr x7 (AV.int .u64 1)).bind λx8=>(A.conv .i64 x8).bind K)=K (.int .i64 (((i+j) / 2:Nat):Int)):=by
 have e1:A.conv .u64 (.int .i64 ((i+j:Nat):Int))=some (.int .u64 ((i+j:Nat):Int)):=by simp only[A.conv];congr 2;unfold IntKind.wrap;simp [IntKind.bits,IntKind.signed];omega
 have e2:A.shr (.int .u64 ((i+j:Nat):Int)) (.int .u64 1)=some (.int .u64 (((i+j) / 2:Nat):Int)):=by simp only[A.shr];rw[aK (by decide)];congr 2;rw[show(2:Int) ^ (min (Int.toNat 1) IntKind.u64.bits)=2 from rfl,Int.fdiv_eq_ediv_of_nonneg _ (by decide)];omega
 have e3:A.conv .i64 (.int .u64 (((i+j) / 2:Nat):Int))=some (.int .i64 (((i+j) / 2:Nat):Int)):=by simp only[A.conv];rw[dL (by unfold bE;omega)]
 rw[oS h,bS,e1,bS,e2,bS,e3,bS]
theorem Fb{body:an→Heap→Option LS}{W:Heap}{e:Nat}(pr:Nat→Bool){lo hi:Nat}(hlo:lo≤hi)
  (hx:∀i,body [nI i,nI i] W=some (.exit e,[nI i,nI i],W))
  (hs:∀i j,lo≤i→i<j→j≤hi→body [nI i,nI j] W=some (.normal,(bif pr ((i+j) / 2)then[nI ((i+j) / 2+1),nI j]else[nI i,nI ((i+j) / 2)]),W)):
  ∃i,lo≤i∧i≤hi∧(lo<i→pr (i-1)=true)∧(i<hi→pr i=false)∧A.loop body [nI lo,nI hi] W=some (.exit e,[nI i,nI i],W):=by
 suffices hq:∃q,A.loop body [nI lo,nI hi] W=some q∧∃i,lo≤i∧i≤hi∧(lo<i→pr (i-1)=true)∧(i<hi→pr i=false)∧q=(.exit e,[nI i,nI i],W) by obtain⟨q,h0,i,h1,h2,h3,h4,rfl⟩:=hq;exact⟨i,h1,h2,h3,h4,h0⟩
 refine jq (λz u w=>∃i j:Nat,lo≤i∧i≤j∧j≤hi∧(lo<i→pr (i-1)=true)∧(j<hi→pr j=false)∧z=j-i∧u=[nI i,nI j]∧w=W) ?_ (n:=hi-lo) ⟨lo,hi,bH _,hlo,bH _,λh=>by omega,λh=>by omega,rfl,rfl,rfl⟩;rintro z u w ⟨i,j,h1,h2,h3,h4,h5,rfl,rfl,rfl⟩;by_cases hij:i<j
 ·have:=hs i j h1 hij h3;cases hp:pr ((i+j) / 2)with
  |true=>rw[hp]at this;exact .inl ⟨j-((i+j) / 2+1),_,_,by omega,this,(i+j) / 2+1,j,by omega,by omega,h3,λ_=>by rw[Nat.add_sub_cancel];exact hp,h5,rfl,rfl,rfl⟩
  |false=>rw[hp]at this;exact .inl ⟨(i+j) / 2-i,_,_,by omega,this,i,(i+j) / 2,h1,by omega,by omega,h4,λ_=>hp,rfl,rfl,rfl⟩
 ·have:i=j:=by omega
  subst this;exact .inr ⟨_,hx i,by simp,i,h1,h3,h4,h5,rfl⟩
section
variable {dyn : Nat → an → Heap → au} {f : AV} {id g N : Nat} {W : Heap}
theorem CO{α:Type}{P X Z:List α}{t:Nat}(h:t<X.length):(P++X++Z)[P.length+t]? =some X[t]:=by rw[gl,eC (by omega),show P.length+t-P.length=t by omega,eG h,bQ h]
theorem U6(hc:n4 dyn f){P Y Q:List aA}{x:aA}(hN:(P++x::Y++Q).length=N)(hl:N<1000000000000)(h:W[id]? =some (bp g (P++x::Y++Q))):
  ∃Y1 Y2,Y=Y1++Y2∧(∀y,Y1.getLast? =some y→bu y x=true)∧(∀y,Y2.head? =some y→bu y x=false)∧∃i,i=P.length+1+Y1.length∧
  A.loop ((λv3 s4=>
    (A.lss (ah v3 0) (ah v3 1)).bind λx6=>
    A.cond x6 (
     (A.add (ah v3 0) (ah v3 1)).bind λx7=>
     (A.conv .u64 x7).bind λx8=>
     (A.shr x8 (AV.int .u64 1)).bind λx9=>
     (A.conv .i64 x9).bind λbg=>
     (A.aJ 3 (bn id g N) bg).bind λcg=>
     ((A.deref cg s4).bind λeU=>A.aB 0 3 eU).bind λbT=>
     (A.aJ 3 (bn id g N) (AV.int .i64 (P.length:Int))).bind λcu=>
     ((A.deref cu s4).bind λgz=>A.aB 0 3 gz).bind λbG=>
     (A.quiet (A.eB dyn f [bT,bG] s4) s4).bind λbM=>
     (A.lss bM b9).bind λbA=>
     (A.cond bA (
      (A.add bg cO).bind λcU=>
      some ([cU,(ah v3 1)],s4)) (
      some ([(ah v3 0),bg],s4))).bind λdU=>
     some (AX.normal,[(ah dU.1 0),(ah dU.1 1)],dU.2)) (
     some (AX.exit 0,[(ah v3 0),(ah v3 1)],s4)))) [nI (P.length+1),nI (P.length+1+Y.length)] W=some (.exit 0,[nI i,nI i],W)∧
  ∃u,A.loop ((λgH mK=>
     (A.sub (nI i) cO).bind λcA=>
     (A.lss (ah gH 0) cA).bind λcD=>
     A.cond cD (
      (A.add (ah gH 0) cO).bind λcN=>
      (A.add (ah gH 0) cO).bind λeM=>
      (A.aJ 3 (bn id g N) eM).bind λdJ=>
      ((A.deref dJ mK).bind λlS=>A.aB 0 3 lS).bind λfA=>
      (A.aJ 3 (bn id g N) (ah gH 0)).bind λdK=>
      ((A.deref dK mK).bind λzJ=>A.aB 0 3 zJ).bind λfQ=>
      (A.aJ 3 (bn id g N) (ah gH 0)).bind λeZ=>
      (A.cells 3 fA).bind λrP=>
      (A.storeAt eZ rP mK).bind λkg=>
      (A.aJ 3 (bn id g N) cN).bind λew=>
      (A.cells 3 fQ).bind λuZ=>
      (A.storeAt ew uZ kg).bind λqv=>
      (A.add (ah gH 0) cO).bind λeA=>
      some (AX.normal,[eA],qv)) (
      some (AX.exit 2,[(ah gH 0)],mK)))) [nI P.length] W=some (.exit 2,u,W.set id (bp g (P++(Y1++x::Y2)++Q))):=by
 have mH:P.length+1+Y.length+Q.length=N:=by rw[←hN];simp;omega
 have eL:P++x::Y++Q=(P++[x])++Y++Q:=by simp
 have cH:(P++x::Y++Q)[P.length]? =some x:=by simp
 obtain⟨i,b1,b2,b3,b4,b5⟩:=Fb (W:=W) (e:=0) (body:=((λv3 s4=>
    (A.lss (ah v3 0) (ah v3 1)).bind λx6=>
    A.cond x6 (
     (A.add (ah v3 0) (ah v3 1)).bind λx7=>
     (A.conv .u64 x7).bind λx8=>
     (A.shr x8 (AV.int .u64 1)).bind λx9=>
     (A.conv .i64 x9).bind λbg=>
     (A.aJ 3 (bn id g N) bg).bind λcg=>
     ((A.deref cg s4).bind λeU=>A.aB 0 3 eU).bind λbT=>
     (A.aJ 3 (bn id g N) (AV.int .i64 (P.length:Int))).bind λcu=>
     ((A.deref cu s4).bind λgz=>A.aB 0 3 gz).bind λbG=>
     (A.quiet (A.eB dyn f [bT,bG] s4) s4).bind λbM=>
     (A.lss bM b9).bind λbA=>
     (A.cond bA (
      (A.add bg cO).bind λcU=>
      some ([cU,(ah v3 1)],s4)) (
      some ([(ah v3 0),bg],s4))).bind λdU=>
     some (AX.normal,[(ah dU.1 0),(ah dU.1 1)],dU.2)) (
     some (AX.exit 0,[(ah v3 0),(ah v3 1)],s4))))) (λt=>(Y[t-(P.length+1)]?).any λy=>bu y x) (lo:=P.length+1) (hi:=P.length+1+Y.length) (by omega)
  (λi=>by
   simp only[cz,dB]
   rw[fE,bS,bZ (by omega),bU])
  (λi j h1 h2 h3=>by
   simp only[cz,dB];rw[fE,bS,cj h2,cG,CG (by omega)];obtain⟨t,ht,hk⟩:∃t,t<Y.length∧(i+j) / 2=P.length+1+t:=⟨(i+j) / 2-(P.length+1),by omega,by omega⟩
   have hy:(P++x::Y++Q)[(i+j) / 2]? =some Y[t]:=by rw[eL,hk,show P.length+1=(P++[x]).length by simp];exact CO ht
   rw[jk (by omega),bS,l8 h hy,bS,jk (by omega),bS,l8 h cH,bS,hc,bS,cmpL,bS];rw[show(i+j) / 2-(P.length+1)=t by omega,bQ ht,Option.any_some];cases bu Y[t] x with
   |true=>rw[cG,jx (by omega),bS,bS];rfl
   |false=>rw[bU,bS];rfl)
 obtain⟨t,rfl⟩:∃t,i=P.length+1+t:=⟨i-(P.length+1),by omega⟩
 have ht:t≤Y.length:=by omega
 refine⟨Y.take t,Y.drop t,(List.take_append_drop _ _).symm,λy hy=>?_,λy hy=>?_,P.length+1+t,by rw[i6,Nat.min_eq_left ht],b5,?_⟩
 ·have YJ:0<t:=by
   rcases Nat.eq_zero_or_pos t with rfl|e
   ·simp at hy
   ·exact e
  have:=b3 (by omega);rw[show P.length+1+t-1-(P.length+1)=t-1 by omega]at this;rw[List.getLast?_eq_getElem?,i6,Nat.min_eq_left ht,List.getElem?_take_of_lt (by omega)]at hy;rw[hy]at this;exact this
 ·rw[List.head?_drop]at hy;have:=b4 (by have:=(bK.1 hy).1;omega);rw[show P.length+1+t-(P.length+1)=t by omega,hy]at this;exact this
 ·suffices hq:∃q,A.loop ((λgH mK=>
     (A.sub (nI (P.length+1+t)) cO).bind λcA=>
     (A.lss (ah gH 0) cA).bind λcD=>
     A.cond cD (
      (A.add (ah gH 0) cO).bind λcN=>
      (A.add (ah gH 0) cO).bind λeM=>
      (A.aJ 3 (bn id g N) eM).bind λdJ=>
      ((A.deref dJ mK).bind λlS=>A.aB 0 3 lS).bind λfA=>
      (A.aJ 3 (bn id g N) (ah gH 0)).bind λdK=>
      ((A.deref dK mK).bind λzJ=>A.aB 0 3 zJ).bind λfQ=>
      (A.aJ 3 (bn id g N) (ah gH 0)).bind λeZ=>
      (A.cells 3 fA).bind λrP=>
      (A.storeAt eZ rP mK).bind λkg=>
      (A.aJ 3 (bn id g N) cN).bind λew=>
      (A.cells 3 fQ).bind λuZ=>
      (A.storeAt ew uZ kg).bind λqv=>
      (A.add (ah gH 0) cO).bind λeA=>
      some (AX.normal,[eA],qv)) (
      some (AX.exit 2,[(ah gH 0)],mK)))) [nI P.length] W=some q∧∃u,q=(.exit 2,u,W.set id (bp g (P++(Y.take t++x::Y.drop t)++Q))) by
   obtain⟨q,e,u,rfl⟩:=hq;exact⟨u,e⟩
  refine jq (λz u w=>∃s,s≤t∧z=t-s∧u=[nI (P.length+s)]∧w=W.set id (bp g (P++(Y.take s++x::Y.drop s)++Q))) ?_ (n:=t) ⟨0,kQ _,rfl,rfl,by simp only[List.take_zero,List.drop_zero,List.nil_append];rw[mq h]⟩;rintro z u w ⟨s,hs,rfl,rfl,rfl⟩;simp only[cz];rw[CH (by omega) (by omega),bS,show P.length+1+t-1=P.length+t by omega,fE,bS];by_cases hst:s<t
  ·have On:s<Y.length:=by omega
   have ey:Y.drop s=Y[s]::Y.drop (s+1):=List.drop_eq_getElem_cons On;have ty:Y.take (s+1)=Y.take s++[Y[s]]:=List.take_succ_eq_append_getElem On;generalize Y[s]=y at ey ty;have hU:(P++Y.take s).length=P.length+s:=by simp;omega
   obtain⟨s1,s2,s3,s4⟩:=CJ (P++Y.take s) [] (Y.drop (s+1)++Q) x y;have eL:P++(Y.take s++x::Y.drop s)++Q=(P++Y.take s)++x::([]++y::(Y.drop (s+1)++Q)):=by rw[ey];simp
   rw[←eL]at s1 s2 s3;rw[hU]at s1 s2 s3;rw[List.length_nil,Nat.add_zero]at s2 s3;have hg:=jE h (P++(Y.take s++x::Y.drop s)++Q);have Ai:(P++(Y.take s++x::Y.drop s)++Q).length=N:=by rw[←mH];simp;omega
   rw[cj (by omega),cG,jx (by omega),bS,bS,jk (by omega),bS,l8 hg s2,bS,jk (by omega),bS,l8 hg s1,bS,bS,nH,bS,sK y hg (by omega),bS,bS,nH,bS,sK x (jE hg _) (by rw[List.length_set];omega),bS,bS];refine .inl ⟨t-(s+1),_,_,by omega,rfl,s+1,hst,rfl,rfl,?_⟩;rw[List.set_set,List.set_set,s3,ty];simp
  ·have:s=t:=by omega
   subst this;rw[bZ (by omega),bU];exact .inr ⟨_,rfl,by simp,_,rfl⟩
theorem TJ(hc:n4 dyn f){P X Q:List aA}{y:aA}(hN:(P++X++y::Q).length=N)(hl:N<1000000000000)(h:W[id]? =some (bp g (P++X++y::Q))):
  ∃X1 X2,X=X1++X2∧(∀x,X1.getLast? =some x→bu y x=false)∧(∀x,X2.head? =some x→bu y x=true)∧∃i,i=P.length+X1.length∧
  A.loop ((λbJ ct=>
     (A.lss (ah bJ 0) (ah bJ 1)).bind λiC=>
     A.cond iC (
      (A.add (ah bJ 0) (ah bJ 1)).bind λeO=>
      (A.conv .u64 eO).bind λdW=>
      (A.shr dW (AV.int .u64 1)).bind λdX=>
      (A.conv .i64 dX).bind λe9=>
      (A.aJ 3 (bn id g N) (AV.int .i64 ((P.length+X.length:Nat):Int))).bind λsF=>
      ((A.deref sF ct).bind λzM=>A.aB 0 3 zM).bind λl6=>
      (A.aJ 3 (bn id g N) e9).bind λgq=>
      ((A.deref gq ct).bind λoZ=>A.aB 0 3 oZ).bind λgJ=>
      (A.quiet (A.eB dyn f [l6,gJ] ct) ct).bind λgd=>
      (A.lss gd b9).bind λkC=>
      (A.not kC).bind λfT=>
      (A.cond fT (
       (A.add e9 cO).bind λdO=>
       some ([dO,(ah bJ 1)],ct)) (
       some ([(ah bJ 0),e9],ct))).bind λeJ=>
      some (AX.normal,[(ah eJ.1 0),(ah eJ.1 1)],eJ.2)) (
      some (AX.exit 4,[(ah bJ 0),(ah bJ 1)],ct)))) [nI P.length,nI (P.length+X.length)] W=some (.exit 4,[nI i,nI i],W)∧
  ∃u,A.loop ((λgI mL=>
      (A.gtr (ah gI 0) (nI i)).bind λnG=>
      A.cond nG (
       (A.sub (ah gI 0) cO).bind λsH=>
       (A.sub (ah gI 0) cO).bind λvD=>
       (A.aJ 3 (bn id g N) vD).bind λAJ=>
       ((A.deref AJ mL).bind λzQ=>A.aB 0 3 zQ).bind λsI=>
       (A.aJ 3 (bn id g N) (ah gI 0)).bind λvF=>
       ((A.deref vF mL).bind λzT=>A.aB 0 3 zT).bind λvH=>
       (A.aJ 3 (bn id g N) (ah gI 0)).bind λl7=>
       (A.cells 3 sI).bind λzU=>
       (A.storeAt l7 zU mL).bind λzV=>
       (A.aJ 3 (bn id g N) sH).bind λAL=>
       (A.cells 3 vH).bind λzW=>
       (A.storeAt AL zW zV).bind λzX=>
       (A.sub (ah gI 0) cO).bind λAM=>
       some (AX.normal,[AM],zX)) (
       some (AX.exit 6,[(ah gI 0)],mL)))) [nI (P.length+X.length)] W=some (.exit 6,u,W.set id (bp g (P++(X1++y::X2)++Q))):=by
 have mH:P.length+X.length+1+Q.length=N:=by rw[←hN];simp;omega
 have YS:(P++X++y::Q)[P.length+X.length]? =some y:=by rw[eC (by simp)];simp
 obtain⟨i,b1,b2,b3,b4,b5⟩:=Fb (W:=W) (e:=4) (body:=((λbJ ct=>
     (A.lss (ah bJ 0) (ah bJ 1)).bind λiC=>
     A.cond iC (
      (A.add (ah bJ 0) (ah bJ 1)).bind λeO=>
      (A.conv .u64 eO).bind λdW=>
      (A.shr dW (AV.int .u64 1)).bind λdX=>
      (A.conv .i64 dX).bind λe9=>
      (A.aJ 3 (bn id g N) (AV.int .i64 ((P.length+X.length:Nat):Int))).bind λsF=>
      ((A.deref sF ct).bind λzM=>A.aB 0 3 zM).bind λl6=>
      (A.aJ 3 (bn id g N) e9).bind λgq=>
      ((A.deref gq ct).bind λoZ=>A.aB 0 3 oZ).bind λgJ=>
      (A.quiet (A.eB dyn f [l6,gJ] ct) ct).bind λgd=>
      (A.lss gd b9).bind λkC=>
      (A.not kC).bind λfT=>
      (A.cond fT (
       (A.add e9 cO).bind λdO=>
       some ([dO,(ah bJ 1)],ct)) (
       some ([(ah bJ 0),e9],ct))).bind λeJ=>
      some (AX.normal,[(ah eJ.1 0),(ah eJ.1 1)],eJ.2)) (
      some (AX.exit 4,[(ah bJ 0),(ah bJ 1)],ct))))) (λt=>(X[t-P.length]?).any λx=>!bu y x) (lo:=P.length) (hi:=P.length+X.length) (by omega)
  (λi=>by
   simp only[cz,dB]
   rw[fE,bS,bZ (by omega),bU])
  (λi j h1 h2 h3=>by
   simp only[cz,dB];rw[fE,bS,cj h2,cG,CG (by omega)];obtain⟨t,ht,hk⟩:∃t,t<X.length∧(i+j) / 2=P.length+t:=⟨(i+j) / 2-P.length,by omega,by omega⟩
   have hy:(P++X++y::Q)[(i+j) / 2]? =some X[t]:=by rw[hk];exact CO ht
   rw[jk (by omega),bS,l8 h YS,bS,jk (by omega),bS,l8 h hy,bS,hc,bS,cmpL,bS];rw[show(i+j) / 2-P.length=t by omega,bQ ht,Option.any_some];cases bu y X[t]with
   |true=>rw[show A.not (.bool true)=some (.bool false)from rfl,bS,bU,bS];rfl
   |false=>rw[show A.not (.bool false)=some (.bool true)from rfl,bS,cG,jx (by omega),bS,bS];rfl)
 obtain⟨t,rfl⟩:∃t,i=P.length+t:=⟨i-P.length,by omega⟩
 have ht:t≤X.length:=by omega
 refine⟨X.take t,X.drop t,(List.take_append_drop _ _).symm,λx hx=>?_,λx hx=>?_,P.length+t,by rw[i6,Nat.min_eq_left ht],b5,?_⟩
 ·have YJ:0<t:=by
   rcases Nat.eq_zero_or_pos t with rfl|e
   ·simp at hx
   ·exact e
  have:=b3 (by omega);rw[show P.length+t-1-P.length=t-1 by omega]at this;rw[List.getLast?_eq_getElem?,i6,Nat.min_eq_left ht,List.getElem?_take_of_lt (by omega)]at hx;rw[hx]at this;simpa using this
 ·rw[List.head?_drop]at hx;have:=b4 (by have:=(bK.1 hx).1;omega);rw[show P.length+t-P.length=t by omega,hx]at this;simpa using this
 ·suffices hq:∃q,A.loop ((λgI mL=>
      (A.gtr (ah gI 0) (nI (P.length+t))).bind λnG=>
      A.cond nG (
       (A.sub (ah gI 0) cO).bind λsH=>
       (A.sub (ah gI 0) cO).bind λvD=>
       (A.aJ 3 (bn id g N) vD).bind λAJ=>
       ((A.deref AJ mL).bind λzQ=>A.aB 0 3 zQ).bind λsI=>
       (A.aJ 3 (bn id g N) (ah gI 0)).bind λvF=>
       ((A.deref vF mL).bind λzT=>A.aB 0 3 zT).bind λvH=>
       (A.aJ 3 (bn id g N) (ah gI 0)).bind λl7=>
       (A.cells 3 sI).bind λzU=>
       (A.storeAt l7 zU mL).bind λzV=>
       (A.aJ 3 (bn id g N) sH).bind λAL=>
       (A.cells 3 vH).bind λzW=>
       (A.storeAt AL zW zV).bind λzX=>
       (A.sub (ah gI 0) cO).bind λAM=>
       some (AX.normal,[AM],zX)) (
       some (AX.exit 6,[(ah gI 0)],mL)))) [nI (P.length+X.length)] W=some q∧∃u,q=(.exit 6,u,W.set id (bp g (P++(X.take t++y::X.drop t)++Q))) by
   obtain⟨q,e,u,rfl⟩:=hq;exact⟨u,e⟩
  refine jq (λz u w=>∃s,t≤s∧s≤X.length∧z=s-t∧u=[nI (P.length+s)]∧w=W.set id (bp g (P++(X.take s++y::X.drop s)++Q))) ?_ (n:=X.length-t) ⟨X.length,ht,bH _,rfl,rfl,by rw[List.take_length,List.drop_length,show P++(X++[y])++Q=P++X++y::Q by simp,mq h]⟩;rintro z u w ⟨s,hs,gU,rfl,rfl,rfl⟩;simp only[cz];rw[CX,bS];by_cases hst:t<s
  ·obtain⟨r,rfl⟩:∃r,s=r+1:=⟨s-1,by omega⟩
   have Om:r<X.length:=by omega
   have ey:X.drop r=X[r]::X.drop (r+1):=List.drop_eq_getElem_cons Om;have ty:X.take (r+1)=X.take r++[X[r]]:=List.take_succ_eq_append_getElem Om;generalize X[r]=x at ey ty;have hU:(P++X.take r).length=P.length+r:=by simp;omega
   obtain⟨s1,s2,s3,s4⟩:=CJ (P++X.take r) [] (X.drop (r+1)++Q) x y;have eL:P++(X.take (r+1)++y::X.drop (r+1))++Q=(P++X.take r)++x::([]++y::(X.drop (r+1)++Q)):=by rw[ty];simp
   rw[←eL]at s1 s2 s4;rw[hU]at s1 s2 s4;rw[List.length_nil,show P.length+r+1+0=P.length+(r+1) by omega]at s2 s4;have hg:=jE h (P++(X.take (r+1)++y::X.drop (r+1))++Q);have Ai:(P++(X.take (r+1)++y::X.drop (r+1))++Q).length=N:=by rw[←mH];simp;omega
   rw[cj (by omega),cG,CH (by omega) (by omega),bS,bS,show P.length+(r+1) -1=P.length+r by omega,jk (i:=P.length+r) (by omega),bS,l8 hg s1,bS,jk (by omega),bS,l8 hg s2,bS,bS,nH,bS,sK x hg (by omega),bS,bS,nH,bS,sK y (jE hg _) (by rw[List.length_set];omega),bS,bS];refine .inl ⟨r-t,_,_,by omega,rfl,r,by omega,by omega,rfl,rfl,?_⟩;rw[List.set_set,List.set_set,s4,ey];simp
  ·have:s=t:=by omega
   subst this;rw[bZ (by omega),bU];exact .inr ⟨_,rfl,by simp,_,rfl⟩
theorem VW(hc:n4 dyn f){P X Y Q:List aA}(hN:(P++X++Y++Q).length=N)(hl:N<1000000000000)(h:W[id]? =some (bp g (P++X++Y++Q))){k s0 r:Nat}(h1:P.length≤s0)(h2:s0≤r)(h3:r≤P.length+X.length)(h4:r≤k)(h5:k≤s0+Y.length)(hk0:k<1000000000000):
  ∃s,s0≤s∧s≤r∧(s0<s→∀x y,X[s-1-P.length]? =some x→Y[k-s]? =some y→bu y x=false)∧(s<r→∀x y,X[s-P.length]? =some x→Y[k-1-s]? =some y→bu y x=true)∧
  A.loop ((λgb gG=>
     (A.lss (ah gb 0) (ah gb 1)).bind λAO=>
     A.cond AO (
      (A.add (ah gb 0) (ah gb 1)).bind λvJ=>
      (A.conv .u64 vJ).bind λvK=>
      (A.shr vK (AV.int .u64 1)).bind λzD=>
      (A.conv .i64 zD).bind λkX=>
      (A.sub (nI (k+(P.length+X.length) -1)) kX).bind λrK=>
      (A.aJ 3 (bn id g N) rK).bind λtQ=>
      ((A.deref tQ gG).bind λuJ=>A.aB 0 3 uJ).bind λzE=>
      (A.aJ 3 (bn id g N) kX).bind λuQ=>
      ((A.deref uQ gG).bind λzq=>A.aB 0 3 zq).bind λzF=>
      (A.quiet (A.eB dyn f [zE,zF] gG) gG).bind λuR=>
      (A.lss uR b9).bind λuS=>
      (A.not uS).bind λqq=>
      (A.cond qq (
       (A.add kX cO).bind λrM=>
       some ([rM,(ah gb 1)],gG)) (
       some ([(ah gb 0),kX],gG))).bind λoT=>
      some (AX.normal,[(ah oT.1 0),(ah oT.1 1)],oT.2)) (
      some (AX.exit 8,[(ah gb 0),(ah gb 1)],gG)))) [nI s0,nI r] W=some (.exit 8,[nI s,nI s],W):=by
 have mH:P.length+X.length+Y.length+Q.length=N:=by rw[←hN];simp;omega
 obtain⟨i,b1,b2,b3,b4,b5⟩:=Fb (W:=W) (e:=8) (body:=((λgb gG=>
     (A.lss (ah gb 0) (ah gb 1)).bind λAO=>
     A.cond AO (
      (A.add (ah gb 0) (ah gb 1)).bind λvJ=>
      (A.conv .u64 vJ).bind λvK=>
      (A.shr vK (AV.int .u64 1)).bind λzD=>
      (A.conv .i64 zD).bind λkX=>
      (A.sub (nI (k+(P.length+X.length) -1)) kX).bind λrK=>
      (A.aJ 3 (bn id g N) rK).bind λtQ=>
      ((A.deref tQ gG).bind λuJ=>A.aB 0 3 uJ).bind λzE=>
      (A.aJ 3 (bn id g N) kX).bind λuQ=>
      ((A.deref uQ gG).bind λzq=>A.aB 0 3 zq).bind λzF=>
      (A.quiet (A.eB dyn f [zE,zF] gG) gG).bind λuR=>
      (A.lss uR b9).bind λuS=>
      (A.not uS).bind λqq=>
      (A.cond qq (
       (A.add kX cO).bind λrM=>
       some ([rM,(ah gb 1)],gG)) (
       some ([(ah gb 0),kX],gG))).bind λoT=>
      some (AX.normal,[(ah oT.1 0),(ah oT.1 1)],oT.2)) (
      some (AX.exit 8,[(ah gb 0),(ah gb 1)],gG))))) (λc=>(X[c-P.length]?).any λx=>(Y[k-1-c]?).any λy=>!bu y x) (lo:=s0) (hi:=r) h2
  (λi=>by
   simp only[cz,dB]
   rw[fE,bS,bZ (by omega),bU])
  (λi j q1 q2 q3=>by
   simp only[cz,dB];rw[fE,bS,cj q2,cG,CG (by omega)];obtain⟨c,Oc⟩:∃c,c=(i+j) / 2:=⟨_,rfl⟩
   rw[←Oc];have c1:i≤c:=by omega
   have c2:c<j:=by omega
   have hx1:c-P.length<X.length:=by omega
   have hy1:k-1-c<Y.length:=by omega
   have hx:(P++X++Y++Q)[c]? =some X[c-P.length]:=by have:=CO (P:=P) (Z:=Y++Q) hx1;rw[show P.length+(c-P.length)=c by omega]at this;rw[←this];simp
   have hy:(P++X++Y++Q)[k+(P.length+X.length) -1-c]? =some Y[k-1-c]:=by have:=CO (P:=P++X) (Z:=Q) hy1;rw[List.length_append,show P.length+X.length+(k-1-c)=k+(P.length+X.length) -1-c by omega]at this;exact this
   rw[mC (by omega) (by omega),bS,jk (by omega),bS,l8 h hy,bS,jk (by omega),bS,l8 h hx,bS,hc,bS,cmpL,bS];rw[bQ hx1,bQ hy1,Option.any_some,Option.any_some];cases bu Y[k-1-c] X[c-P.length]with
   |true=>rw[show A.not (.bool true)=some (.bool false)from rfl,bS,bU,bS];rfl
   |false=>rw[show A.not (.bool false)=some (.bool true)from rfl,bS,cG,jx (by omega),bS,bS];rfl)
 refine⟨i,b1,b2,λq x y hx hy=>?_,λq x y hx hy=>?_,b5⟩
 ·have:=b3 q;simp only[hx,show k-1-(i-1)=k-i by omega,hy,Option.any_some]at this;simpa using this
 ·have:=b4 q;simp only[hx,hy,Option.any_some]at this;simpa using this
end
theorem Lv{l:List aA}{x:aA}(hs:dm l)(h:∀y,l.getLast? =some y→bu y x=true):∀y∈l,bu y x=true:=λy hy=>by
 obtain⟨z,hz⟩:∃z,l.getLast? =some z:=by
  cases e:l.getLast? with
  |none=>rw[List.getLast?_eq_none_iff]at e;subst e;simp at hy
  |some z=>exact⟨z,rfl⟩
 have hq:=h z hz;obtain⟨l',rfl⟩:=List.getLast?_eq_some_iff.1 hz;rcases dg.1 hy with e|e
 ·exact WO ((List.pairwise_append.1 hs).2.2 y e z (by simp)) hq
 ·rw[List.mem_singleton.1 e];exact hq
theorem Lu{l:List aA}{x:aA}(hs:dm l)(h:∀y,l.getLast? =some y→bu x y=false):∀y∈l,bu x y=false:=λy hy=>by
 obtain⟨z,hz⟩:∃z,l.getLast? =some z:=by
  cases e:l.getLast? with
  |none=>rw[List.getLast?_eq_none_iff]at e;subst e;simp at hy
  |some z=>exact⟨z,rfl⟩
 have hq:=h z hz;obtain⟨l',rfl⟩:=List.getLast?_eq_some_iff.1 hz;rcases dg.1 hy with e|e
 ·exact za ((List.pairwise_append.1 hs).2.2 y e z (by simp)) hq
 ·rw[List.mem_singleton.1 e];exact hq
theorem Lm{l:List aA}{x:aA}(hs:dm l)(h:∀y,l.head? =some y→bu y x=false):∀y∈l,bu y x=false:=λy hy=>by
 cases l with
 |nil=>simp at hy
 |cons z l=>
  rcases dc.1 hy with rfl|e
  ·exact h _ rfl
  ·exact za (h z rfl) ((List.pairwise_cons.1 hs).1 y e)
theorem Ln{l:List aA}{x:aA}(hs:dm l)(h:∀y,l.head? =some y→bu x y=true):∀y∈l,bu x y=true:=λy hy=>by
 cases l with
 |nil=>simp at hy
 |cons z l=>
  rcases dc.1 hy with rfl|e
  ·exact h _ rfl
  ·exact Nt (h z rfl) ((List.pairwise_cons.1 hs).1 y e)
theorem Uh{Y X:List aA}(h:∀y∈Y,∀x∈X,bu y x=true):b7 (Y++X) (X++Y):=λk=>by
 show(Y++X).filter _=(X++Y).filter _;rw[List.filter_append,List.filter_append];by_cases hY:∃y∈Y,y.key=k
 ·obtain⟨y,hy,rfl⟩:=hY
  have:X.filter (λs=>decide (s.key=y.key))=[]:=by rw[List.filter_eq_nil_iff];intro x hx q;exact qT (h y hy x hx) (of_decide_eq_true q).symm
  rw[this];simp
 ·have:Y.filter (λs=>decide (s.key=k))=[]:=by rw[List.filter_eq_nil_iff];intro y hy q;exact hY ⟨y,hy,of_decide_eq_true q⟩
  rw[this];simp
theorem Fi{X1 X2 Y1 Y2 Z1 Z2:List aA}(hX:dm (X1++X2))(hY:dm (Y1++Y2))(ha:∀x∈X1,∀y∈Y2,bu y x=false)(hb:∀y∈Y1,∀x∈X2,bu y x=true)
  (s1:dm Z1) (s2:dm Z2) (t1:b7 Z1 (X1++Y1)) (t2:b7 Z2 (X2++Y2)):dm (Z1++Z2)∧b7 (Z1++Z2) (X1++X2++(Y1++Y2)):=by
 have Yh:=List.pairwise_append.1 hX;have Yi:=List.pairwise_append.1 hY;refine⟨List.pairwise_append.2 ⟨s1,s2,λu hu v hv=>?_⟩,?_⟩
 ·rcases dg.1 (t1.mem hu)with q|q<;>rcases dg.1 (t2.mem hv)with p|p
  ·exact Yh.2.2 u q v p
  ·exact ha u q v p
  ·exact N4 (hb u q v p)
  ·exact Yi.2.2 u q v p
 ·refine(t1.app t2).trans ?_;have:=Uh hb;have e:=(b7.refl X1).app (this.app (b7.refl Y2));simp only[gl]at e ⊢;exact e
end
section
set_option maxRecDepth 100000
theorem ZF{r:AV→AV→AV→AV→AV→Heap→au}{a0 a1 a2 a3 a4:AV}{σ:Heap}{q:AV×Heap}(ha:A.bW [] [a0,a1,a2,a3,a4]=[a0,a1,a2,a3,a4])(h:r a0 a1 a2 a3 a4 σ=some q):A.wrap false [] .k (A.lR r) [a0,a1,a2,a3,a4] σ=some q:=by show((A.lR r) (A.bW [] [a0,a1,a2,a3,a4]) σ).map _=_;rw[ha];show(r a0 a1 a2 a3 a4 σ).map _=_;rw[h];rfl
theorem Nu(a:Nat):A.eql .i (.int .i64 (a:Int)) (.int .i64 1)=some (.bool (decide (a=1))):=by rw[qu];congr 2;rw[decide_eq_decide];omega
theorem FN{l:List aA}(k:Nat)(h:k≤l.length):∃a b,l=a++b∧a.length=k:=⟨l.take k,l.drop k,(List.take_append_drop _ _).symm,by simp;omega⟩
theorem Fy{α β:Type}(p q:Prop)[Decidable p][Decidable q](u v:AV)(X Y:Option α)(K:α→Option β)(hq:A.lss u v=some (.bool (decide q))):
  ((A.guard (.bool (decide p)) true (some u) aq).bind λG5=>(A.guard (.bool (decide p)) true (some v) aq).bind λrM=>(A.guard (.bool (decide p)) true (A.lss G5 rM) aq).bind λG6=>(A.pick (.bool (decide p)) G6 bF).bind λrN=>(A.cond rN X Y).bind K)=(bif decide (p∧q)then X else Y).bind K:=by
 by_cases hp:p
 ·rw[cj hp,gT,bS,gT,bS,hq,gT,bS,qA,bS];by_cases h:q
  ·rw[cj h,cG,cj ⟨hp,h⟩];rfl
  ·rw[bZ h,bU,bZ (λe=>h e.2)];rfl
 ·rw[bZ hp,o8,bS,o8,bS,o8,bS,sw,bS,bU,bZ (λe=>hp e.1)];rfl
section
variable {dyn : Nat → an → Heap → au} {f : AV} {id g N : Nat}
noncomputable abbrev Zx (dyn : Nat → an → Heap → au) (n : Nat) : an → Heap → au := fuel (vP dyn) n 106
theorem VV(hc:n4 dyn f)(hl:N<1000000000000):∀(F:Nat)(P X Y Q:List aA)(W:Heap)(n:Nat),(P++X++Y++Q).length=N→W[id]? =some (bp g (P++X++Y++Q))→dm X→dm Y→X≠[]→Y≠[]→X.length+Y.length≤2 ^ F→
  ∃Z,dm Z∧b7 Z (X++Y)∧Z.length=X.length+Y.length∧Zx dyn (n+F+1) [bn id g N,nI P.length,nI (P.length+X.length),nI (P.length+X.length+Y.length),f] W=some (.aG [],W.set id (bp g (P++Z++Q))):=by
 intro F;induction F with
 |zero=>intro P X Y Q W n hN h hX hY nX nY hs;have:=List.length_pos_iff.2 nX;have:=List.length_pos_iff.2 nY;omega
 |succ F ih=>
  intro P X Y Q W n hN h hX hY nX nY hs;have lX:=List.length_pos_iff.2 nX;have lY:=List.length_pos_iff.2 nY;have mH:P.length+X.length+Y.length+Q.length=N:=by rw[←hN];simp;omega
  suffices hr:∃Z,dm Z∧b7 Z (X++Y)∧Z.length=X.length+Y.length∧AW (fuel (vP dyn) (n+(F+1))) dyn (bn id g N) (nI P.length) (nI (P.length+X.length)) (nI (P.length+X.length+Y.length)) f W=some (.aG [],W.set id (bp g (P++Z++Q))) by obtain⟨Z,h1,h2,h3,h4⟩:=hr;exact⟨Z,h1,h2,h3,ZF rfl h4⟩
  unfold AW;rw[mC (by omega) (by omega),bS,show P.length+X.length-P.length=X.length by omega,Nu,bS];by_cases x1:X.length=1
  ·obtain⟨x,rfl⟩:∃x,X=[x]:=oK.1 x1;rw[cj x1,cG];rw[show P++[x]++Y++Q=P++x::Y++Q by simp]at h hN;obtain⟨Y1,Y2,rfl,e1,e2,i,hi,e3,u,e4⟩:=U6 hc hN hl h;obtain⟨Aa,Ab,hY3⟩:=List.pairwise_append.1 hY;have g1:=Lv Aa e1;have g2:=Lm Ab e2;obtain⟨m1,m2⟩:=Fi (X1:=[]) (X2:=[x]) (Y1:=Y1) (Y2:=Y2) (Z1:=Y1) (Z2:=x::Y2) (by simpa using hX) hY (by simp) (λy hy z hz=>by rw[List.mem_singleton.1 hz];exact g1 y hy) Aa (List.pairwise_cons.2 ⟨g2,Ab⟩) (b7.refl _) (b7.refl _);refine⟨Y1++x::Y2,m1,m2,by simp;omega,?_⟩;refine(congrArg (Option.bind · _) e3).trans ?_;rw[bS];simp only[gn];refine(congrArg (Option.bind · _) e4).trans ?_;rw[bS];simp only[gn]
  rw[bZ x1,bU,mC (by omega) (by omega),bS,show P.length+X.length+Y.length-(P.length+X.length)=Y.length by omega,Nu,bS];by_cases y1:Y.length=1
  ·obtain⟨y,rfl⟩:∃y,Y=[y]:=oK.1 y1;rw[cj y1,cG];rw[show P++X++[y]++Q=P++X++y::Q by simp]at h hN;obtain⟨X1,X2,rfl,e1,e2,i,hi,e3,u,e4⟩:=TJ hc hN hl h;obtain⟨tW,N9,hX3⟩:=List.pairwise_append.1 hX;have g1:=Lu tW e1;have g2:=Ln N9 e2;obtain⟨m1,m2⟩:=Fi (X1:=X1) (X2:=X2) (Y1:=[y]) (Y2:=[]) (Z1:=X1++[y]) (Z2:=X2) hX (by simpa using hY) (by simp) (λz hz x hx=>by rw[List.mem_singleton.1 hz];exact g2 x hx) (List.pairwise_append.2 ⟨tW,List.pairwise_singleton _ _,λx hx z hz=>by rw[List.mem_singleton.1 hz];exact g1 x hx⟩) N9 (b7.refl _) (by rw[List.append_nil];exact b7.refl _);refine⟨X1++y::X2,by simpa using m1,by simpa using m2,by simp;omega,?_⟩;refine(congrArg (Option.bind · _) e3).trans ?_;rw[bS];simp only[gn];refine(congrArg (Option.bind · _) e4).trans ?_;rw[bS];simp only[gn]
  rw[bZ y1,bU,CG (by omega)];obtain⟨k,hk⟩:∃k,k=(P.length+(P.length+X.length+Y.length)) / 2:=⟨_,rfl⟩
  rw[←hk,oS (by omega),bS,CX,bS]
  obtain⟨s0,r,q1,q2,q3,q4,q5,q6,q7,q8⟩:∃s0 r,P.length≤s0∧s0≤r∧r≤P.length+X.length∧r≤k∧k≤s0+Y.length∧(s0=P.length∨k=s0+Y.length)∧(r=P.length+X.length∨r=k)∧A.cond (.bool (decide (k<P.length+X.length))) ((A.sub (.int .i64 ((k+(P.length+X.length):Nat):Int)) (nI (P.length+X.length+Y.length))).bind λsJ=>some ([sJ,nI k],W)) (some ([nI P.length,nI (P.length+X.length)],W))=some ([nI s0,nI r],W):=by
   by_cases hkm:k<P.length+X.length
   ·refine⟨k+(P.length+X.length) -(P.length+X.length+Y.length),k,by omega,by omega,by omega,by omega,by omega,.inr (by omega),.inr rfl,?_⟩;rw[cj hkm,cG,mC (by omega) (by omega),bS]
   ·refine⟨P.length,P.length+X.length,by omega,by omega,by omega,by omega,by omega,.inl rfl,.inl rfl,?_⟩;rw[bZ hkm,bU]
  obtain⟨s,b1,b2,b3,b4,b5⟩:=VW hc hN hl h q1 q2 q3 q4 q5 (by omega);obtain⟨X1,X2,rfl,tW⟩:=FN (l:=X) (s-P.length) (by omega);obtain⟨Y1,Y2,rfl,Aa⟩:=FN (l:=Y) (k-s) (by omega);simp only[List.length_append]at lX lY hs mH x1 y1 hk q3 q5 q6 q7 q8 b5 ⊢;obtain⟨Ig,Ih,sX3⟩:=List.pairwise_append.1 hX;obtain⟨Ii,Ij,sY3⟩:=List.pairwise_append.1 hY
  have ha:∀x∈X1,∀y∈Y2,bu y x=false:=by
   intro x hx y hy;have p1:=List.length_pos_of_mem hx;have p2:=List.length_pos_of_mem hy;obtain⟨x0,hx0⟩:∃x0,X1[X1.length-1]? =some x0:=⟨_,bQ (by omega)⟩
   obtain⟨y0,hy0⟩:∃y0,Y2[0]? =some y0:=⟨_,bQ p2⟩
   have hq:=b3 (by omega) x0 y0 (by rw[eG (by omega),show s-1-P.length=X1.length-1 by omega];exact hx0) (by rw[eC (by omega),show k-s-Y1.length=0 by omega];exact hy0);have g1:=Lu (x:=y0) Ig (λz hz=>by rw[List.getLast?_eq_getElem?,hx0]at hz;cases hz;exact hq);exact Lm (x:=x) Ij (λz hz=>by rw[List.head?_eq_getElem?,hy0]at hz;cases hz;exact g1 x hx) y hy
  have hb:∀y∈Y1,∀x∈X2,bu y x=true:=by
   intro y hy x hx;have p1:=List.length_pos_of_mem hx;have p2:=List.length_pos_of_mem hy;obtain⟨x0,hx0⟩:∃x0,X2[0]? =some x0:=⟨_,bQ p1⟩
   obtain⟨y0,hy0⟩:∃y0,Y1[Y1.length-1]? =some y0:=⟨_,bQ (by omega)⟩
   have hq:=b4 (by omega) x0 y0 (by rw[eC (by omega),show s-P.length-X1.length=0 by omega];exact hx0) (by rw[eG (by omega),show k-1-s=Y1.length-1 by omega];exact hy0);have g1:=Lv (x:=x0) Ii (λz hz=>by rw[List.getLast?_eq_getElem?,hy0]at hz;cases hz;exact hq);exact Ln (x:=y) Ih (λz hz=>by rw[List.head?_eq_getElem?,hx0]at hz;cases hz;exact g1 y hy) x hx
  have hP:P++(X1++X2)++(Y1++Y2)++Q=P++X1++X2++Y1++(Y2++Q):=by simp
  have mJ:P.length+X1.length=s:=by omega
  have hk2:P.length+X1.length+Y1.length=k:=by omega
  obtain⟨W2,De⟩:∃W2,W2=W.set id (bp g (P++X1++Y1++(X2++Y2++Q))):=⟨_,rfl⟩
  have Af:W2[id]? =some (bp g (P++X1++Y1++(X2++Y2++Q))):=by rw[De];exact jE h _
  have W7:(bif decide (s<P.length+(X1.length+X2.length)∧P.length+(X1.length+X2.length)<k+(P.length+(X1.length+X2.length)) -s)then((xW [bn id g N,nI s,nI (P.length+(X1.length+X2.length)),nI (k+(P.length+(X1.length+X2.length)) -s),f] W).bind λXd=>some (([]:an),Xd.2))else some (([]:an),W))=some (([]:an),W2):=by
   by_cases hq:s<P.length+(X1.length+X2.length)∧P.length+(X1.length+X2.length)<k+(P.length+(X1.length+X2.length)) -s
   ·rw[cj hq,bh];have:=TF (id:=id) (g:=g) (W:=W) (P:=P++X1) (X:=X2) (Y:=Y1) (Q:=Y2++Q) (by rw[←hP,hN];exact hl) (by omega) (by omega) (by rw[h,hP]) f;rw[←hP,hN,List.length_append,mJ,show s+X2.length=P.length+(X1.length+X2.length) by omega,show P.length+(X1.length+X2.length)+Y1.length=k+(P.length+(X1.length+X2.length)) -s by omega]at this;rw[this,bS,De];simp
   ·rw[bZ hq,aQ,De]
    have:P++X1++Y1++(X2++Y2++Q)=P++(X1++X2)++(Y1++Y2)++Q:=by
     by_cases c:X2.length=0
     ·rw[List.length_eq_zero_iff.1 c];simp
     ·rw[List.length_eq_zero_iff.1 (show Y1.length=0 by omega)];simp
    rw[this,mq h]
  obtain⟨Z1,z1,z2,z3,kn⟩:∃Z1,dm Z1∧b7 Z1 (X1++Y1)∧Z1.length=X1.length+Y1.length∧(bif decide (P.length<s∧s<k)then((fuel (vP dyn) (n+(F+1)) 106 [bn id g N,nI P.length,nI s,nI k,f] W2).bind λG0=>some (([]:an),G0.2))else some (([]:an),W2))=some (([]:an),W2.set id (bp g (P++Z1++(X2++Y2++Q)))):=by
   by_cases hq:P.length<s∧s<k
   ·obtain⟨Z,w1,w2,w3,w4⟩:=ih P X1 Y1 (X2++Y2++Q) W2 n (by rw[←mH];simp;omega) Af Ig Ii (λe=>by rw[e]at tW;simp at tW;omega) (λe=>by rw[e]at Aa;simp at Aa;omega) (by rw[Nat.pow_succ]at hs;omega);rw[mJ,show s+Y1.length=k by omega]at w4;refine⟨Z,w1,w2,w3,?_⟩;rw[cj hq,bh];refine(congrArg (Option.bind · _) w4).trans ?_;rw[bS]
   ·refine⟨X1++Y1,?_,b7.refl _,List.length_append,?_⟩
    ·by_cases c:X1.length=0
     ·rw[List.length_eq_zero_iff.1 c];exact Ii
     ·rw[List.length_eq_zero_iff.1 (show Y1.length=0 by omega),List.append_nil];exact Ig
    ·rw[bZ hq,aQ,show P++(X1++Y1)++(X2++Y2++Q)=P++X1++Y1++(X2++Y2++Q) by simp,mq Af]
  obtain⟨W3,Hw⟩:∃W3,W3=W2.set id (bp g (P++Z1++(X2++Y2++Q))):=⟨_,rfl⟩
  have Of:W3[id]? =some (bp g (P++Z1++X2++Y2++Q)):=by rw[Hw,jE Af];simp
  rw[←Hw]at kn
  obtain⟨Z2,v1,v2,v3,vn⟩:∃Z2,dm Z2∧b7 Z2 (X2++Y2)∧Z2.length=X2.length+Y2.length∧(bif decide (k<k+(P.length+(X1.length+X2.length)) -s∧k+(P.length+(X1.length+X2.length)) -s<P.length+(X1.length+X2.length)+(Y1.length+Y2.length))then((fuel (vP dyn) (n+(F+1)) 106 [bn id g N,nI k,nI (k+(P.length+(X1.length+X2.length)) -s),nI (P.length+(X1.length+X2.length)+(Y1.length+Y2.length)),f] W3).bind λG0=>some (([]:an),G0.2))else some (([]:an),W3))=some (([]:an),W3.set id (bp g (P++Z1++Z2++Q))):=by
   have Yz:(P++Z1).length=k:=by rw[List.length_append,z3];omega
   by_cases hq:k<k+(P.length+(X1.length+X2.length)) -s∧k+(P.length+(X1.length+X2.length)) -s<P.length+(X1.length+X2.length)+(Y1.length+Y2.length)
   ·obtain⟨Z,w1,w2,w3,w4⟩:=ih (P++Z1) X2 Y2 Q W3 n (by rw[←mH];simp only[List.length_append,z3];omega) Of Ih Ij (λe=>by rw[e]at hq;simp at hq;omega) (λe=>by rw[e]at hq;simp at hq;omega) (by rw[Nat.pow_succ]at hs;omega);rw[Yz,show k+X2.length=k+(P.length+(X1.length+X2.length)) -s by omega,show k+(P.length+(X1.length+X2.length)) -s+Y2.length=P.length+(X1.length+X2.length)+(Y1.length+Y2.length) by omega]at w4;refine⟨Z,w1,w2,w3,?_⟩;rw[cj hq,bh];refine(congrArg (Option.bind · _) w4).trans ?_;rw[bS]
   ·refine⟨X2++Y2,?_,b7.refl _,List.length_append,?_⟩
    ·by_cases c:X2.length=0
     ·rw[List.length_eq_zero_iff.1 c];exact Ij
     ·rw[List.length_eq_zero_iff.1 (show Y2.length=0 by omega),List.append_nil];exact Ih
    ·rw[bZ hq,aQ,show P++Z1++(X2++Y2)++Q=P++Z1++X2++Y2++Q by simp,mq Of]
  obtain⟨m1,m2⟩:=Fi hX hY ha hb z1 v1 z2 v2;refine⟨Z1++Z2,m1,m2,by rw[List.length_append,z3,v3];omega,?_⟩;refine(congrArg (Option.bind · _) q8).trans ?_;rw[bS];simp only[cz,dB];rw[CH (by omega) (by omega),bS];refine(congrArg (Option.bind · _) b5).trans ?_;rw[bS];simp only[gn,cz,dB];rw[mC (by omega) (by omega),bS,fE,bS,Fy _ _ _ _ _ _ _ (fE _ _),W7,bS,fE,bS,Fy _ _ _ _ _ _ _ (fE _ _),kn,bS,fE,bS,Fy _ _ _ _ _ _ _ (fE _ _),vn,bS,Hw,De,List.set_set,List.set_set,gl P]
end
end
section
set_option maxRecDepth 100000
theorem MX{a:Nat}(h:a<2000000000000):A.mul (.int .i64 2) (.int .i64 (a:Int))=some (.int .i64 ((2*a:Nat):Int)):=by rw[CN,dL (by unfold bE;omega)];rfl
theorem VG{a:Nat}(h:a<2000000000000):A.mul (.int .i64 (a:Int)) (.int .i64 2)=some (.int .i64 ((2*a:Nat):Int)):=by rw[CN,dL (by unfold bE;omega),Int.mul_comm];rfl
structure G8 (bs : Nat) (L : List (List aA)) (R : List aA) : Prop where
 b:∀x∈L,x.length=bs∧dm x
 r:R.length<bs∧dm R
theorem BY{bs:Nat}{L:List (List aA)}(h:∀x∈L,x.length=bs∧dm x):L.flatten.length=L.length*bs:=by
 induction L with
 |nil=>simp
 |cons x L ih=>rw[List.flatten_cons,List.length_append,ih (λy hy=>h y (by simp [hy])),(h x (by simp)).1,List.length_cons,Nat.succ_mul];omega
theorem FC{D:List (List aA)}{Z:List aA}:(D++[Z]).flatten=D.flatten++Z:=by simp
theorem Cn{D:List (List aA)}{Z:List aA}{m:Nat}(h:Z.length=m):(D++[Z]).flatten.length=D.flatten.length+m:=by rw[FC,List.length_append,h]
theorem jF{α β:Type}{x y:Option α}(h:x=y)(f:α→Option β):x.bind f=y.bind f:=by rw[h]
section
variable {dyn : Nat → an → Heap → au} {f : AV} {id g N : Nat}
theorem NB(hc:n4 dyn f)(hl:N<1000000000000){P X Y Q:List aA}{W:Heap}(hN:(P++X++Y++Q).length=N)(h:W[id]? =some (bp g (P++X++Y++Q)))(hX:dm X)(hY:dm Y)(nX:X≠[])(nY:Y≠[]):
  ∃Z,dm Z∧b7 Z (X++Y)∧Z.length=X.length+Y.length∧pI dyn [bn id g N,nI P.length,nI (P.length+X.length),nI (P.length+X.length+Y.length),f] W=some (.aG [],W.set id (bp g (P++Z++Q))):=by
 have hs:X.length+Y.length≤2 ^ 40:=by
  have:P.length+X.length+Y.length+Q.length=N:=by rw[←hN];simp;omega
  have:(1000000000000:Nat)≤2 ^ 40:=by decide
  omega
 obtain⟨Z,h1,h2,h3,h4⟩:=VV hc hl 40 P X Y Q W 1999959 hN h hX hY nX nY hs;refine⟨Z,h1,h2,h3,?_⟩;have e:(1999959+40+1:Nat)=2000000:=rfl;rw[e]at h4;exact h4
theorem TM(hc:n4 dyn f)(hl:N<1000000000000){O:List aA}{W:Heap}(hN:O.length=N)(h:W[id]? =some (bp g O)):
  ∃D T:List (List aA),∃R:List aA,(∀x∈D,x.length=20∧dm x)∧R.length<20∧b7 (D.flatten++R) O∧(D.flatten++R).length=N∧∃b,A.loop ((λv1 s2=>
   (A.leq (ah v1 1) (nI N)).bind λx4=>
   A.cond x4 (
    (qF dyn [(bn id g N),(ah v1 0),(ah v1 1),f] s2).bind λr5=>
    (A.add (ah v1 1) (AV.int .i64 20)).bind λx6=>
    some (AX.normal,[(ah v1 1),x6],r5.2)) (
    some (AX.exit 0,[(ah v1 0),(ah v1 1)],s2)))) [.int .i64 0,.int .i64 20] W=some (.exit 0,[nI D.flatten.length,b],W.set id (bp g (D.flatten++R))):=by
 suffices hq:∃q,A.loop ((λv1 s2=>
   (A.leq (ah v1 1) (nI N)).bind λx4=>
   A.cond x4 (
    (qF dyn [(bn id g N),(ah v1 0),(ah v1 1),f] s2).bind λr5=>
    (A.add (ah v1 1) (AV.int .i64 20)).bind λx6=>
    some (AX.normal,[(ah v1 1),x6],r5.2)) (
    some (AX.exit 0,[(ah v1 0),(ah v1 1)],s2)))) [.int .i64 0,.int .i64 20] W=some q∧∃D:List (List aA),∃R:List aA,(∀x∈D,x.length=20∧dm x)∧R.length<20∧b7 (D.flatten++R) O∧(D.flatten++R).length=N∧∃b,q=(.exit 0,[nI D.flatten.length,b],W.set id (bp g (D.flatten++R))) by
  obtain⟨q,e,D,R,h1,h2,h3,h4,b,rfl⟩:=hq;exact⟨D,[],R,h1,h2,h3,h4,b,e⟩
 refine jq (λz u w=>∃D:List (List aA),∃R:List aA,(∀x∈D,x.length=20∧dm x)∧b7 (D.flatten++R) O∧(D.flatten++R).length=N∧z=R.length∧u=[nI D.flatten.length,nI (D.flatten.length+20)]∧w=W.set id (bp g (D.flatten++R))) ?_ (n:=O.length) ⟨[],O,by simp,b7.refl _,hN,rfl,rfl,by rw[List.flatten_nil,List.nil_append,mq h]⟩;rintro z u w ⟨D,R,h1,h2,h3,rfl,rfl,rfl⟩;have h3':D.flatten.length+R.length=N:=by rw[←h3,List.length_append]
 simp only[cz,dB];rw[Nv,bS];by_cases hq:D.flatten.length+20≤N
 ·obtain⟨R1,R2,rfl,Ye⟩:=FN (l:=R) 20 (by omega);rw[List.length_append]at h3';rw[cj hq,cG];obtain⟨Z,z1,z2,z3,z4⟩:=Ji (W:=W.set id (bp g (D.flatten++(R1++R2)))) (g:=g) (id:=id) hc (P:=D.flatten) (O:=R1) (Q:=R2) (by rw[gl];exact h3) hl (by rw[jE h];simp);rw[Ye]at z4 z3;rw[z4,bS];simp only;rw[show A.add (nI (D.flatten.length+20)) (.int .i64 20)=some (.int .i64 ((D.flatten.length+20+20:Nat):Int))from oS (b:=20) (by omega),bS];refine .inl ⟨R2.length,_,_,by simp;omega,rfl,D++[Z],R2,λx hx=>?_,?_,?_,rfl,?_,?_⟩
  ·rcases dg.1 hx with e|e
   ·exact h1 x e
   ·rw[List.mem_singleton.1 e];exact⟨z3,z1⟩
  ·refine b7.trans ?_ h2;have:=(b7.refl D.flatten).app (z2.app (b7.refl R2));simpa using this
  ·rw[List.length_append,Cn z3];omega
  ·rw[Cn z3]
  ·rw[List.set_set,FC]
 ·rw[bZ hq,bU];exact .inr ⟨_,rfl,by simp,D,R,h1,by omega,h2,h3,_,rfl⟩
theorem U9(hc:n4 dyn f)(hl:N<1000000000000){bs:Nat}(hb0:0<bs)(Yk:bs<N){L0:List (List aA)}{R O:List aA}{W:Heap}(hB:G8 bs L0 R)(hS:b7 (L0.flatten++R) O)(hN:(L0.flatten++R).length=N)(h:W[id]? =some (bp g (L0.flatten++R))):
  ∃D T:List (List aA),(∀x∈D,x.length=2*bs∧dm x)∧(∀x∈T,x.length=bs∧dm x)∧T.length≤1∧b7 (D.flatten++T.flatten++R) O∧(D.flatten++T.flatten++R).length=N∧∃b,A.loop ((λeu pG=>
       (A.leq (ah eu 1) (nI N)).bind λbM=>
       A.cond bM (
        (A.add (ah eu 0) (nI bs)).bind λbA=>
        (pI dyn [(bn id g N),(ah eu 0),bA,(ah eu 1),f] pG).bind λdU=>
        (A.mul (AV.int .i64 2) (nI bs)).bind λcU=>
        (A.add (ah eu 1) cU).bind λbw=>
        some (AX.normal,[(ah eu 1),bw],dU.2)) (
        some (AX.exit 4,[(ah eu 0),(ah eu 1)],pG)))) [.int .i64 0,nI (2*bs)] W=some (.exit 4,[nI D.flatten.length,b],W.set id (bp g (D.flatten++T.flatten++R))):=by
 suffices hq:∃q,A.loop ((λeu pG=>
       (A.leq (ah eu 1) (nI N)).bind λbM=>
       A.cond bM (
        (A.add (ah eu 0) (nI bs)).bind λbA=>
        (pI dyn [(bn id g N),(ah eu 0),bA,(ah eu 1),f] pG).bind λdU=>
        (A.mul (AV.int .i64 2) (nI bs)).bind λcU=>
        (A.add (ah eu 1) cU).bind λbw=>
        some (AX.normal,[(ah eu 1),bw],dU.2)) (
        some (AX.exit 4,[(ah eu 0),(ah eu 1)],pG)))) [.int .i64 0,nI (2*bs)] W=some q∧∃D T:List (List aA),(∀x∈D,x.length=2*bs∧dm x)∧(∀x∈T,x.length=bs∧dm x)∧T.length≤1∧b7 (D.flatten++T.flatten++R) O∧(D.flatten++T.flatten++R).length=N∧∃b,q=(.exit 4,[nI D.flatten.length,b],W.set id (bp g (D.flatten++T.flatten++R))) by
  obtain⟨q,e,D,T,h1,h2,h3,h4,h5,b,rfl⟩:=hq;exact⟨D,T,h1,h2,h3,h4,h5,b,e⟩
 refine jq (λz u w=>∃D T:List (List aA),(∀x∈D,x.length=2*bs∧dm x)∧(∀x∈T,x.length=bs∧dm x)∧b7 (D.flatten++T.flatten++R) O∧(D.flatten++T.flatten++R).length=N∧z=T.length∧u=[nI D.flatten.length,nI (D.flatten.length+2*bs)]∧w=W.set id (bp g (D.flatten++T.flatten++R))) ?_ (n:=L0.length) ⟨[],L0,by simp,hB.b,by simpa using hS,by simpa using hN,rfl,by simp,by rw[List.flatten_nil,List.nil_append,mq h]⟩;rintro z u w ⟨D,T,h1,h2,h3,h4,rfl,rfl,rfl⟩;have h4':D.flatten.length+T.length*bs+R.length=N:=by rw[←h4,List.length_append,List.length_append,BY h2]
 have hr:=hB.r.1;simp only[cz,dB];rw[Nv,bS];rcases T with _|⟨x,_|⟨y,T⟩⟩
 ·rw[bZ (by simp only[List.length_nil,Nat.zero_mul]at h4';omega),bU];exact .inr ⟨_,rfl,by simp,D,[],h1,by simp,by simp,h3,h4,_,rfl⟩
 ·rw[bZ (by simp only[List.length_cons,List.length_nil,Nat.zero_add,Nat.one_mul]at h4';omega),bU];exact .inr ⟨_,rfl,by simp,D,[x],h1,h2,by simp,h3,h4,_,rfl⟩
 ·have hx:=h2 x (by simp);have hy:=h2 y (by simp);have ht:∀z∈T,z.length=bs∧dm z:=λz hz=>h2 z (by simp [hz])
  rw[List.length_cons,List.length_cons,Nat.succ_mul,Nat.succ_mul]at h4';rw[cj (by omega),cG,oS (by omega),bS];have eL:D.flatten++(x::y::T).flatten++R=D.flatten++x++y++(T.flatten++R):=by simp
  obtain⟨Z,z1,z2,z3,z4⟩:=NB (W:=W.set id (bp g (D.flatten++(x::y::T).flatten++R))) (g:=g) (id:=id) hc hl (P:=D.flatten) (X:=x) (Y:=y) (Q:=T.flatten++R) (by rw[←eL];exact h4) (by rw[jE h,eL]) hx.2 hy.2 (λe=>by rw[e]at hx;simp at hx;omega) (λe=>by rw[e]at hy;simp at hy;omega);rw[hx.1,hy.1]at z3 z4;rw[show D.flatten.length+bs+bs=D.flatten.length+2*bs by omega]at z4;rw[z4,bS,MX (by omega),bS,oS (by omega),bS];have OL:Z.length=2*bs:=by omega
  refine .inl ⟨T.length,_,_,by simp only[List.length_cons];omega,rfl,D++[Z],T,λu hu=>?_,ht,?_,?_,rfl,?_,?_⟩
  ·rcases dg.1 hu with e|e
   ·exact h1 u e
   ·rw[List.mem_singleton.1 e];exact⟨by omega,z1⟩
  ·refine b7.trans ?_ h3;have:=(b7.refl D.flatten).app (z2.app (b7.refl (T.flatten++R)));simpa using this
  ·rw[List.length_append,List.length_append,Cn OL,BY ht];omega
  ·rw[Cn OL]
  ·rw[List.set_set,FC];simp
theorem U8(hc:n4 dyn f)(hl:N<1000000000000){bs:Nat}(hb0:0<bs)(Yk:bs<N){D T:List (List aA)}{R O:List aA}{W:Heap}(h1:∀x∈D,x.length=2*bs∧dm x)(h2:∀x∈T,x.length=bs∧dm x)(h3:T.length≤1)(hR:R.length<bs∧dm R)(hS:b7 (D.flatten++T.flatten++R) O)(hN:(D.flatten++T.flatten++R).length=N)(h:W[id]? =some (bp g (D.flatten++T.flatten++R))):
  ∃R2,G8 (2*bs) D R2∧b7 (D.flatten++R2) O∧(D.flatten++R2).length=N∧A.cond (.bool (decide (D.flatten.length+bs<N))) ((pI dyn [bn id g N,nI D.flatten.length,nI (D.flatten.length+bs),nI N,f] W).bind λiR=>some (([]:an),iR.2)) (some (([]:an),W))=some (([]:an),W.set id (bp g (D.flatten++R2))):=by
 have h4':D.flatten.length+T.length*bs+R.length=N:=by rw[←hN,List.length_append,List.length_append,BY h2]
 rcases T with _|⟨x,_|⟨y,T⟩⟩
 ·simp only[List.length_nil,Nat.zero_mul]at h4';refine⟨R,⟨h1,by omega,hR.2⟩,by simpa using hS,by rw[List.length_append];omega,?_⟩;rw[bZ (by omega),bU];rw[show D.flatten++([]:List (List aA)).flatten++R=D.flatten++R by simp]at h;rw[mq h]
 ·simp only[List.length_cons,List.length_nil,Nat.zero_add,Nat.one_mul]at h4';have hx:=h2 x (by simp);have eL:D.flatten++[x].flatten++R=D.flatten++x++R++[]:=by simp
  by_cases hr:R=[]
  ·subst hr;refine⟨x,⟨h1,by omega,hx.2⟩,by simpa using hS,by rw[List.length_append,hx.1];simp only[List.length_nil]at h4';omega,?_⟩;simp only[List.length_nil]at h4';rw[bZ (by omega),bU];rw[show D.flatten++[x].flatten++([]:List aA)=D.flatten++x by simp]at h;rw[mq h]
  ·have hrl:=List.length_pos_iff.2 hr;obtain⟨Z,z1,z2,z3,z4⟩:=NB hc hl (P:=D.flatten) (X:=x) (Y:=R) (Q:=[]) (by rw[←eL];exact hN) (by rw[h,eL]) hx.2 hR.2 (λe=>by rw[e]at hx;simp at hx;omega) hr;rw[hx.1]at z4 z3;rw[show D.flatten.length+bs+R.length=N by omega]at z4;refine⟨Z,⟨h1,by omega,z1⟩,?_,by rw[List.length_append,z3];omega,?_⟩
   ·refine b7.trans ((b7.refl D.flatten).app z2) ?_;simpa using hS
   ·rw[cj (by omega),cG,z4,bS,List.append_nil]
 ·simp at h3
theorem OJ{r:AV→AV→AV→Heap→au}{a0 a1 a2:AV}{σ:Heap}{q:AV×Heap}(h:r a0 a1 a2 σ=some q):A.wrap false [] .k (A.jX r) [a0,a1,a2] σ=some q:=by show(r a0 a1 a2 σ).map _=_;rw[h];rfl
theorem OI{r:AV→AV→Heap→au}{a0 a1:AV}{σ:Heap}{q:AV×Heap}(h:r a0 a1 σ=some q):A.wrap false [] .k (A.dh r) [a0,a1] σ=some q:=by show(r a0 a1 σ).map _=_;rw[h];rfl
theorem TN(hc:n4 dyn f)(hl:N<1000000000000){O:List aA}{W:Heap}(hN:O.length=N)(h:W[id]? =some (bp g O)):
  ∃Z,dm Z∧b7 Z O∧Z.length=N∧vQ dyn [bn id g N,f] W=some (.aG [],W.set id (bp g Z)):=by
 suffices hr:∃Z,dm Z∧b7 Z O∧Z.length=N∧xX dyn [bn id g N,nI N,f] W=some (.aG [],W.set id (bp g Z)) by obtain⟨Z,h1,h2,h3,h4⟩:=hr;refine⟨Z,h1,h2,h3,OI ?_⟩;unfold AY;rw[show A.bl (bn id g N)=some (nI N)from rfl,bS,h4,bS]
 obtain⟨D,_,R,d1,d2,d3,d4,b,d5⟩:=TM hc hl hN h;have NO:D.flatten.length+R.length=N:=by rw[←d4,List.length_append]
 obtain⟨R2,r1,r2,r3,r4⟩:=Ji (W:=W.set id (bp g (D.flatten++R))) (g:=g) (id:=id) hc (P:=D.flatten) (O:=R) (Q:=[]) (by rw[List.append_nil];exact d4) hl (by rw[jE h,List.append_nil]);rw[NO,List.append_nil,List.set_set]at r4;have Zs:qF dyn [bn id g N,nI D.flatten.length,nI N,f] (W.set id (bp g (D.flatten++R)))=some (.aG [],W.set id (bp g (D.flatten++R2))):=r4
 obtain⟨q,hq,Z,u,z1,z2,z3,rfl⟩:∃q,A.loop ((λv9 AA=>
    (A.lss (ah v9 0) (nI N)).bind λbP=>
    A.cond bP (
     (A.mul (AV.int .i64 2) (ah v9 0)).bind λbT=>
     (A.loop (λeu pG=>
       (A.leq (ah eu 1) (nI N)).bind λbM=>
       A.cond bM (
        (A.add (ah eu 0) (ah v9 0)).bind λbA=>
        (pI dyn [(bn id g N),(ah eu 0),bA,(ah eu 1),f] pG).bind λdU=>
        (A.mul (AV.int .i64 2) (ah v9 0)).bind λcU=>
        (A.add (ah eu 1) cU).bind λbw=>
        some (AX.normal,[(ah eu 1),bw],dU.2)) (
        some (AX.exit 4,[(ah eu 0),(ah eu 1)],pG))) [b9,bT] AA).bind λjf=>
     bif jf.1==AX.exit 4 then(
      (A.add (ah jf.2.1 0) (ah v9 0)).bind λcy=>
      (A.lss cy (nI N)).bind λcC=>
      (A.cond cC (
       (pI dyn [(bn id g N),(ah jf.2.1 0),cy,(nI N),f] jf.2.2).bind λiR=>
       some (([]:an),iR.2)) (
       some (([]:an),jf.2.2))).bind λsA=>
      (A.mul (ah v9 0) (AV.int .i64 2)).bind λcN=>
      some (AX.normal,[cN],sA.2))else
     none) (
     some (AX.exit 2,[(ah v9 0)],AA)))) [.int .i64 20] (W.set id (bp g (D.flatten++R2)))=some q∧∃Z u,dm Z∧b7 Z O∧Z.length=N∧q=(.exit 2,u,W.set id (bp g Z)):=by
  refine jq (λz u w=>∃(bs:Nat)(L:List (List aA))(T:List aA),0<bs∧G8 bs L T∧b7 (L.flatten++T) O∧(L.flatten++T).length=N∧z=N-bs∧u=[nI bs]∧w=W.set id (bp g (L.flatten++T))) ?_ (n:=N-20) ⟨20,D,R2,by omega,⟨d1,by omega,r1⟩,((b7.refl _).app r2).trans d3,by rw[List.length_append,r3];exact NO,rfl,rfl,rfl⟩;rintro z u w ⟨bs,L,T,hb,hB,hS,hn,rfl,rfl,rfl⟩;have hn':L.length*bs+T.length=N:=by rw[←hn,List.length_append,BY hB.b]
  simp only[cz];rw[fE,bS];by_cases hlt:bs<N
  ·rw[cj hlt,cG];obtain⟨D',T',p1,p2,p3,p4,p5,b',p6⟩:=U9 (W:=W.set id (bp g (L.flatten++T))) (g:=g) (id:=id) hc hl hb hlt hB hS hn (jE h _);obtain⟨R',q1,q2,q3,q4⟩:=U8 (W:=W.set id (bp g (D'.flatten++T'.flatten++T))) (g:=g) (id:=id) hc hl hb hlt p1 p2 p3 hB.r p4 p5 (jE h _);rw[List.set_set]at p6 q4;have hd':D'.flatten.length≤N:=by rw[←q3,List.length_append];omega
   refine .inl ⟨N-2*bs,[nI (2*bs)],W.set id (bp g (D'.flatten++R')),by omega,?_,2*bs,D',R',by omega,q1,q2,q3,rfl,rfl,rfl⟩;refine(jF (MX (by omega)) _).trans ?_;rw[bS];refine(jF p6 _).trans ?_;rw[bS];simp only[gn,cz];rw[oS (by omega),bS,fE,bS];refine(jF q4 _).trans ?_;rw[bS,VG (by omega),bS]
  ·rw[bZ hlt,bU];refine .inr ⟨_,rfl,by simp,L.flatten++T,_,?_,hS,hn,rfl⟩;have Yl:=hB.r;rcases L with _|⟨x,_|⟨y,L⟩⟩
   ·exact Yl.2
   ·simp only[List.length_cons,List.length_nil,Nat.zero_add,Nat.one_mul]at hn';rw[List.length_eq_zero_iff.1 (show T.length=0 by omega)];simpa using(hB.b x (by simp)).2
   ·rw[List.length_cons,List.length_cons,Nat.succ_mul,Nat.succ_mul]at hn';omega
 refine⟨Z,z1,z2,z3,OJ ?_⟩;unfold AZ;refine(jF d5 _).trans ?_;rw[bS];simp only[gn,cz];rw[Zs,bS];refine(jF hq _).trans ?_;rw[bS];simp only[gn]
end
end
end Go.Proofs.Ytjjjjbgohkklnaa
