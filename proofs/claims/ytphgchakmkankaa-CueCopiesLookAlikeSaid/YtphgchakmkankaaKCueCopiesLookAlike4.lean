/- Parts of the proof of CueCopiesLookAlike, in order. -/
import Derived.Orders
import Derived.Below
import Derived.WalkKit
import Derived.Laws.StructEq
import Derived.Laws.Append
import Derived.Laws.AppendOwn
import Derived.Test.YtphgchakmkankaaRows
import Derived.KernelRfl
import Derived.Lib.Bytealg
import Derived.Sort.Defs
import Derived.Lib.BitFns
import Derived.Test.YtphgchakmkankaaShelf
import Derived.Lib.Overlaps
import Derived.IntWalk
import Derived.Sort.Statements
import Derived.Shelf.SlSortCmp.WholeK
import Derived.Shelf.SlSortCmp.NoneTotal
import Derived.Sort.AssemblyPlain
import Derived.Lib.Strings
import Derived.Test.YtphgchakmkankaaKCueCopiesLookAlike3
namespace Go.Proofs.Ytphgchakmkankaa
set_option linter.unusedSectionVars false
set_option maxRecDepth 100000
set_option linter.unusedVariables false
set_option linter.unusedSimpArgs false
noncomputable def x_word_Within : Fx := ⟨Try.prog, nmT, A.tab (fun _ _ => none) [], (fun _ _ _ => none), [], [], 15, []⟩
theorem w_word_Within : Sound Try.prog nmT 89 (A.wrap true [] .k (A.ar3 (r_word_Within))) :=
 Sound.wrap (Sound.run3 (X := x_word_Within) (fn := Try.f89) (ann := (.s .n (.s .n .n))) .F trivial (Snd.of rfl All.nil (fun _ => Sound.none)) Try.func89 Try.call89 (fun a0 a1 a2 σ => by kernel_rfl)) _ _ _ rfl rfl
theorem s_word_Within : Sound Try.prog nmT 89 m_word_Within := w_word_Within
noncomputable def x_word_Title : Fx := ⟨Try.prog, nmT, A.tab (fun _ _ => none) [], (fun _ _ _ => none), [], [], 40, []⟩
theorem w_word_Title : Sound Try.prog nmT 90 (A.wrap true [] .k (A.ar1 (r_word_Title))) :=
 Sound.wrap (Sound.run1 (X := x_word_Title) (fn := Try.f90) (ann := (.s .n (.s (.s .n (.b (.l [2, 6] [.exit 0, .ret] (.s .n (.s (.j .n .n) (.s (.b (.s .n (.s .n (.j (.s .n .n) .n)))) .n)))))) (.s .n .n)))) .F trivial (Snd.of rfl All.nil (fun _ => Sound.none)) Try.func90 Try.call90 (fun a0 σ => by kernel_rfl)) _ _ _ rfl rfl
theorem s_word_Title : Sound Try.prog nmT 90 m_word_Title := w_word_Title
noncomputable def x_cue_isTime : Fx := ⟨Try.prog, nmT, A.tab (fun _ _ => none) [(89, m_word_Within)], (fun _ _ _ => none), [], [], 5, []⟩
theorem w_cue_isTime : Sound Try.prog nmT 91 (A.wrap true [] .k (A.ar1 (r_cue_isTime))) :=
 Sound.wrap (Sound.run1 (X := x_cue_isTime) (fn := Try.f91) (ann := (.s .n (.s .n .n))) .F trivial (Snd.of rfl (All.cons s_word_Within All.nil) (fun _ => Sound.none)) Try.func91 Try.call91 (fun a0 σ => by kernel_rfl)) _ _ _ rfl rfl
theorem s_cue_isTime : Sound Try.prog nmT 91 m_cue_isTime := w_cue_isTime
noncomputable def x_word_When : Fx := ⟨Try.prog, nmT, A.tab (fun _ _ => none) [], (fun _ _ _ => none), [], [], 7, []⟩
theorem w_word_When : Sound Try.prog nmT 38 (A.wrap true [] .k (A.ar2 (r_word_When))) :=
 Sound.wrap (Sound.run2 (X := x_word_When) (fn := Try.f38) (ann := (.s .n (.s (.s .n (.j (.s .n .n) .n)) (.s .n .n)))) .F trivial (Snd.of rfl All.nil (fun _ => Sound.none)) Try.func38 Try.call38 (fun a0 a1 σ => by kernel_rfl)) _ _ _ rfl rfl
theorem s_word_When : Sound Try.prog nmT 38 m_word_When := w_word_When
noncomputable def x_level_CheckCurve : Fx := ⟨Try.prog, nmT, A.tab (fun _ _ => none) [(89, m_word_Within), (38, m_word_When)], (fun _ _ _ => none), [1, 5], [], 90, []⟩
theorem w_level_CheckCurve : Sound Try.prog nmT 92 (A.wrap true [(.a [.k, (.s 2)])] .k (A.ar1 (r_level_CheckCurve))) :=
 Sound.wrap (Sound.run1 (X := x_level_CheckCurve) (fn := Try.f92) (ann := (.s .n (.s (.s .n (.j (.s .n .n) .n)) (.s .n (.s (.s .n (.j (.s .n .n) .n)) (.s (.s .n (.j (.s .n .n) .n)) (.s (.s .n (.j (.s .n .n) .n)) (.s (.s .n (.b (.l [2, 28] [.exit 0, .ret] (.s .n (.s (.j .n .n) (.s (.b (.s .n (.s .n (.j (.s .n .n) .n)))) .n)))))) (.s (.s .n (.j (.s .n .n) .n)) (.s (.s .n (.b (.l [2, 6] [.exit 2, .ret] (.s (.s .n (.j .n .n)) (.s (.b (.s .n (.j (.s .n .n) .n))) .n))))) (.s .n .n))))))))))) .F trivial (Snd.of rfl (All.cons s_word_Within (All.cons s_word_When All.nil)) (fun _ => Sound.none)) Try.func92 Try.call92 (fun a0 σ => by kernel_rfl)) _ _ _ rfl rfl
theorem s_level_CheckCurve : Sound Try.prog nmT 92 m_level_CheckCurve := w_level_CheckCurve
noncomputable def x_word_Row : Fx := ⟨Try.prog, nmT, A.tab (fun _ _ => none) [], (fun _ _ _ => none), [], [], 35, []⟩
theorem w_word_Row : Sound Try.prog nmT 134 (A.wrap true [] .k (A.ar1 (r_word_Row))) :=
 Sound.wrap (Sound.run1 (X := x_word_Row) (fn := Try.f134) (ann := (.s .n (.s (.s .n (.b (.l [2, 7] [.exit 0, .ret] (.s .n (.s (.j .n .n) (.s (.b (.s .n (.s .n (.s .n (.j (.s .n .n) .n))))) .n)))))) (.s .n .n)))) .F trivial (Snd.of rfl All.nil (fun _ => Sound.none)) Try.func134 Try.call134 (fun a0 σ => by kernel_rfl)) _ _ _ rfl rfl
theorem s_word_Row : Sound Try.prog nmT 134 m_word_Row := w_word_Row
noncomputable def x_word_Name : Fx := ⟨Try.prog, nmT, A.tab (fun _ _ => none) [(134, m_word_Row)], (fun _ _ _ => none), [], [], 20, []⟩
theorem w_word_Name : Sound Try.prog nmT 109 (A.wrap true [] .k (A.ar1 (r_word_Name))) :=
 Sound.wrap (Sound.run1 (X := x_word_Name) (fn := Try.f109) (ann := (.s .n (.s .n .n))) .F trivial (Snd.of rfl (All.cons s_word_Row All.nil) (fun _ => Sound.none)) Try.func109 Try.call109 (fun a0 σ => by kernel_rfl)) _ _ _ rfl rfl
theorem s_word_Name : Sound Try.prog nmT 109 m_word_Name := w_word_Name
noncomputable def x_cue_compare : Fx := ⟨Try.prog, nmT, A.tab (fun _ _ => none) [(130, m_strings_Compare)], (fun _ _ _ => none), [2, 3], [], 20, []⟩
theorem w_cue_compare : Sound Try.prog nmT 88 (A.wrap true [] .k (A.ar2 (r_cue_compare))) :=
 Sound.wrap (Sound.run2 (X := x_cue_compare) (fn := Try.f88) (ann := (.s .n (.s (.s .n (.j (.s (.s .n (.j (.s .n .n) .n)) (.s .n .n)) .n)) (.s .n .n)))) .F trivial (Snd.of rfl (All.cons s_strings_Compare All.nil) (fun _ => Sound.none)) Try.func88 Try.call88 (fun a0 a1 σ => by kernel_rfl)) _ _ _ rfl rfl
theorem s_cue_compare : Sound Try.prog nmT 88 m_cue_compare := w_cue_compare
noncomputable def x_cue_checkMoves : Fx := ⟨Try.prog, nmT, A.tab (fun _ _ => none) [(89, m_word_Within), (109, m_word_Name), (91, m_cue_isTime), (88, m_cue_compare)], (fun _ _ _ => none), [4], [], 99, []⟩
theorem w_cue_checkMoves : Sound Try.prog nmT 64 (A.wrap true [(.s 8)] .k (A.ar1 (r_cue_checkMoves))) :=
 Sound.wrap (Sound.run1 (X := x_cue_checkMoves) (fn := Try.f64) (ann := (.s .n (.s (.s .n (.b (.l [2, 7] [.exit 0, .ret] (.s .n (.s (.j .n .n) (.s (.b (.s .n (.b (.s .n (.j (.s .n .n) (.s .n (.j (.s .n .n) (.s .n (.j (.s .n .n) (.s .n (.j (.s .n .n) (.s .n (.j (.s .n .n) (.s .n (.j (.s .n .n) (.s .n (.j (.s .n .n) .n))))))))))))))))) .n)))))) (.s .n .n)))) .F trivial (Snd.of rfl (All.cons s_word_Within (All.cons s_word_Name (All.cons s_cue_isTime (All.cons s_cue_compare All.nil)))) (fun _ => Sound.none)) Try.func64 Try.call64 (fun a0 σ => by kernel_rfl)) _ _ _ rfl rfl
theorem s_cue_checkMoves : Sound Try.prog nmT 64 m_cue_checkMoves := w_cue_checkMoves
noncomputable def x_cue_form : Fx := ⟨Try.prog, nmT, A.tab (fun _ _ => none) [(89, m_word_Within), (90, m_word_Title), (91, m_cue_isTime), (92, m_level_CheckCurve), (64, m_cue_checkMoves), (38, m_word_When)], (fun _ _ _ => none), [5], [], 101, []⟩
theorem w_cue_form : Sound Try.prog nmT 35 (A.wrap true [(.e 11 [.k, .k, .k, .k, .k, .k, .k, (.s 2), .k, .k, (.s 8)])] .k (A.ar1 (r_cue_form))) :=
 Sound.wrap (Sound.run1 (X := x_cue_form) (fn := Try.f35) (ann := (.s .n (.s (.s .n (.j (.s .n .n) .n)) (.s .n (.s (.s .n (.b (.l [2, 3, 13] [.exit 0, .ret] (.s .n (.s (.j .n .n) (.s (.b (.s .n (.s (.b (.s .n (.j (.s .n .n) (.s .n (.j (.s .n .n) (.s .n (.j (.s .n .n) (.s .n (.j (.s .n .n) .n))))))))) (.s (.s .n (.s .n (.j (.s .n .n) .n))) (.s (.s .n (.j (.s .n .n) .n)) (.s (.s .n (.s .n (.j (.s .n .n) .n))) .n)))))) .n)))))) (.s .n .n)))))) .F trivial (Snd.of rfl (All.cons s_word_Within (All.cons s_word_Title (All.cons s_cue_isTime (All.cons s_level_CheckCurve (All.cons s_cue_checkMoves (All.cons s_word_When All.nil)))))) (fun _ => Sound.none)) Try.func35 Try.call35 (fun a0 σ => by kernel_rfl)) _ _ _ rfl rfl
theorem s_cue_form : Sound Try.prog nmT 35 m_cue_form := w_cue_form
noncomputable def x_slices_BinarySearchFunc_api_Cue_int (dyn : Nat → List AV → Heap → Option (AV × Heap)) : Fx := ⟨Try.prog, nmT, A.tab (fun _ _ => none) [], dyn, [], [], 49, []⟩
theorem w_slices_BinarySearchFunc_api_Cue_int (dyn : Nat → List AV → Heap → Option (AV × Heap)) (hd : ∀ f, Sound Try.prog nmT f (dyn (nmT.getD f 0))) : Sound Try.prog nmT 93 (A.wrap true [(.s 11)] .k (A.ar3 (r_slices_BinarySearchFunc_api_Cue_int dyn))) :=
 Sound.wrap (Sound.run3 (X := x_slices_BinarySearchFunc_api_Cue_int dyn) (fn := Try.f93) (ann := (.s .n (.s .n (.s .n (.s (.b (.l [9, 10] [.exit 0] (.s (.s .n (.j .n .n)) (.b (.s .n (.s .n (.c [9, 10] .n .n))))))) (.s .n .n)))))) .F trivial (Snd.of rfl All.nil (hd)) Try.func93 Try.call93 (fun a0 a1 a2 σ => by kernel_rfl)) _ _ _ rfl rfl
theorem s_slices_BinarySearchFunc_api_Cue_int (dyn : Nat → List AV → Heap → Option (AV × Heap)) (hd : ∀ f, Sound Try.prog nmT f (dyn (nmT.getD f 0))) : Sound Try.prog nmT 93 (m_slices_BinarySearchFunc_api_Cue_int dyn) := w_slices_BinarySearchFunc_api_Cue_int dyn hd
noncomputable def x_cue_place_fn1 : Fx := ⟨Try.prog, nmT, A.tab (fun _ _ => none) [], (fun _ _ _ => none), [2], [], 9, []⟩
theorem w_cue_place_fn1 : Sound Try.prog nmT 94 (A.wrap true [(.a [.k, .k, .k, .k, .k, .k, .k, (.s 2), .k, .k, (.s 8)])] .k (A.ar2 (r_cue_place_fn1))) :=
 Sound.wrap (Sound.run2 (X := x_cue_place_fn1) (fn := Try.f94) (ann := (.s .n (.s .n .n))) .F trivial (Snd.of rfl All.nil (fun _ => Sound.none)) Try.func94 Try.call94 (fun a0 a1 σ => by kernel_rfl)) _ _ _ rfl rfl
theorem s_cue_place_fn1 : Sound Try.prog nmT 94 m_cue_place_fn1 := w_cue_place_fn1
noncomputable def x_cue_place : Fx := ⟨Try.prog, nmT, A.tab (fun _ _ => none) [(93, m_slices_BinarySearchFunc_api_Cue_int (A.tab (fun _ _ => none) [(177, m_cue_place_fn1)]))], (A.tab (fun _ _ => none) [(177, m_cue_place_fn1)]), [], [], 11, []⟩
theorem w_cue_place : Sound Try.prog nmT 36 (A.wrap true [(.e 11 [.k, .k, .k, .k, .k, .k, .k, (.s 2), .k, .k, (.s 8)])] .k (A.ar2 (r_cue_place))) :=
 Sound.wrap (Sound.run2 (X := x_cue_place) (fn := Try.f36) (ann := (.s .n (.s .n .n))) .F trivial (Snd.of rfl (All.cons (s_slices_BinarySearchFunc_api_Cue_int _ (dyn_of (DAll.cons (nm_sound s_cue_place_fn1 (by kernel_rfl) rfl) DAll.nil))) All.nil) (dyn_of (DAll.cons (nm_sound s_cue_place_fn1 (by kernel_rfl) rfl) DAll.nil))) Try.func36 Try.call36 (fun a0 a1 σ => by kernel_rfl)) _ _ _ rfl rfl
theorem s_cue_place : Sound Try.prog nmT 36 m_cue_place := w_cue_place
noncomputable def x_cue_numberFault : Fx := ⟨Try.prog, nmT, A.tab (fun _ _ => none) [(89, m_word_Within), (38, m_word_When)], (fun _ _ _ => none), [], [], 7, []⟩
theorem w_cue_numberFault : Sound Try.prog nmT 63 (A.wrap true [] .k (A.ar1 (r_cue_numberFault))) :=
 Sound.wrap (Sound.run1 (X := x_cue_numberFault) (fn := Try.f63) (ann := (.s .n (.s .n .n))) .F trivial (Snd.of rfl (All.cons s_word_Within (All.cons s_word_When All.nil)) (fun _ => Sound.none)) Try.func63 Try.call63 (fun a0 σ => by kernel_rfl)) _ _ _ rfl rfl
theorem s_cue_numberFault : Sound Try.prog nmT 63 m_cue_numberFault := w_cue_numberFault
noncomputable def x_word_First : Fx := ⟨Try.prog, nmT, A.tab (fun _ _ => none) [], (fun _ _ _ => none), [], [], 15, []⟩
theorem w_word_First : Sound Try.prog nmT 37 (A.wrap true [(.s 1)] .k (A.ar1 (r_word_First))) :=
 Sound.wrap (Sound.run1 (X := x_word_First) (fn := Try.f37) (ann := (.s .n (.s (.s .n (.b (.l [2, 7] [.exit 0, .ret] (.s .n (.s (.j .n .n) (.s (.b (.s .n (.s .n (.j (.s .n .n) .n)))) .n)))))) (.s .n .n)))) .F trivial (Snd.of rfl All.nil (fun _ => Sound.none)) Try.func37 Try.call37 (fun a0 σ => by kernel_rfl)) _ _ _ rfl rfl
theorem s_word_First : Sound Try.prog nmT 37 m_word_First := w_word_First
noncomputable def x_cue_state : Fx := ⟨Try.prog, nmT, A.tab (fun _ _ => none) [], (fun _ _ _ => none), [5, 7], [], 40, []⟩
theorem w_cue_state : Sound Try.prog nmT 55 (A.wrap true [(.e 11 [.k, .k, .k, .k, .k, .k, .k, (.s 2), .k, .k, (.s 8)])] .k (A.ar1 (r_cue_state))) :=
 Sound.wrap (Sound.run1 (X := x_cue_state) (fn := Try.f55) (ann := (.s .n (.s .n (.s (.s .n (.b (.l [11] [.exit 0] (.s .n (.s (.j .n .n) (.s (.b (.s .n (.s .n (.b (.l [5, 18] [.exit 2] (.s .n (.s (.j .n .n) (.s (.b (.s .n (.s .n (.c [5] .n .n)))) .n)))))))) .n)))))) (.s .n .n))))) .F trivial (Snd.of rfl All.nil (fun _ => Sound.none)) Try.func55 Try.call55 (fun a0 σ => by kernel_rfl)) _ _ _ rfl rfl
theorem s_cue_state : Sound Try.prog nmT 55 m_cue_state := w_cue_state
noncomputable def x_slices_Clone_api_Point : Fx := ⟨Try.prog, nmT, A.tab (fun _ _ => none) [], (fun _ _ _ => none), [], [], 8, []⟩
theorem w_slices_Clone_api_Point : Sound Try.prog nmT 85 (A.wrap true [(.s 2)] .k (A.ar1 (r_slices_Clone_api_Point))) :=
 Sound.wrap (Sound.run1 (X := x_slices_Clone_api_Point) (fn := Try.f85) (ann := (.s .n (.s (.s .n (.j (.s .n .n) .n)) (.s .n .n)))) .K trivial (Snd.of rfl All.nil (fun _ => Sound.none)) Try.func85 Try.call85 (fun a0 σ => by kernel_rfl)) _ _ _ rfl rfl
theorem s_slices_Clone_api_Point : Sound Try.prog nmT 85 m_slices_Clone_api_Point := clone_sound w_slices_Clone_api_Point Try.call85 cz_Point
noncomputable def x_cue_move : Fx := ⟨Try.prog, nmT, A.tab (fun _ _ => none) [], (fun _ _ _ => none), [3, 4, 5], [], 19, []⟩
theorem w_cue_move : Sound Try.prog nmT 60 (A.wrap true [] .k (A.ar2 (r_cue_move))) :=
 Sound.wrap (Sound.run2 (X := x_cue_move) (fn := Try.f60) (ann := (.s .n (.s .n (.s .n .n)))) .F trivial (Snd.of rfl All.nil (fun _ => Sound.none)) Try.func60 Try.call60 (fun a0 a1 σ => by kernel_rfl)) _ _ _ rfl rfl
theorem s_cue_move : Sound Try.prog nmT 60 m_cue_move := w_cue_move
noncomputable def x_slices_Clone_api_Move : Fx := ⟨Try.prog, nmT, A.tab (fun _ _ => none) [], (fun _ _ _ => none), [], [], 8, []⟩
theorem w_slices_Clone_api_Move : Sound Try.prog nmT 99 (A.wrap true [(.s 8)] .k (A.ar1 (r_slices_Clone_api_Move))) :=
 Sound.wrap (Sound.run1 (X := x_slices_Clone_api_Move) (fn := Try.f99) (ann := (.s .n (.s (.s .n (.j (.s .n .n) .n)) (.s .n .n)))) .K trivial (Snd.of rfl All.nil (fun _ => Sound.none)) Try.func99 Try.call99 (fun a0 σ => by kernel_rfl)) _ _ _ rfl rfl
theorem s_slices_Clone_api_Move : Sound Try.prog nmT 99 m_slices_Clone_api_Move := clone_sound w_slices_Clone_api_Move Try.call99 cz_Move
noncomputable def x_cue_copied : Fx := ⟨Try.prog, nmT, A.tab (fun _ _ => none) [(85, m_slices_Clone_api_Point), (99, m_slices_Clone_api_Move)], (fun _ _ _ => none), [5], [], 28, []⟩
theorem w_cue_copied : Sound Try.prog nmT 53 (A.wrap true [(.e 11 [.k, .k, .k, .k, .k, .k, .k, (.s 2), .k, .k, (.s 8)])] .k (A.ar1 (r_cue_copied))) :=
 Sound.wrap (Sound.run1 (X := x_cue_copied) (fn := Try.f53) (ann := (.s .n (.s .n (.s (.s .n (.b (.l [3, 8] [.exit 0] (.s .n (.s (.j .n .n) (.s (.b (.s .n (.s .n (.s .n .n)))) .n)))))) (.s .n .n))))) .K trivial (Snd.of rfl (All.cons s_slices_Clone_api_Point (All.cons s_slices_Clone_api_Move All.nil)) (fun _ => Sound.none)) Try.func53 Try.call53 (fun a0 σ => by kernel_rfl)) _ _ _ rfl rfl
theorem s_cue_copied : Sound Try.prog nmT 53 m_cue_copied := w_cue_copied
noncomputable def x_slices_Reverse_api_Cue : Fx := ⟨Try.prog, nmT, A.tab (fun _ _ => none) [], (fun _ _ _ => none), [], [], 28, []⟩
theorem w_slices_Reverse_api_Cue : Sound Try.prog nmT 161 (A.wrap false [] .k (A.ar1 (r_slices_Reverse_api_Cue))) :=
 Sound.wrap (Sound.run1 (X := x_slices_Reverse_api_Cue) (fn := Try.f161) (ann := (.s .n (.b (.l [2, 3] [.exit 0] (.s (.s .n (.j .n .n)) (.s (.b .n) .n)))))) .K trivial (Snd.of rfl All.nil (fun _ => Sound.none)) Try.func161 Try.call161 (fun a0 σ => by kernel_rfl)) _ _ _ rfl rfl
theorem s_slices_Reverse_api_Cue : Sound Try.prog nmT 161 m_slices_Reverse_api_Cue := w_slices_Reverse_api_Cue
noncomputable def x_slices_rotateLeft_api_Cue : Fx := ⟨Try.prog, nmT, A.tab (fun _ _ => none) [(161, m_slices_Reverse_api_Cue)], (fun _ _ _ => none), [], [], 14, []⟩
theorem w_slices_rotateLeft_api_Cue : Sound Try.prog nmT 135 (A.wrap false [] .k (A.ar2 (r_slices_rotateLeft_api_Cue))) :=
 Sound.wrap (Sound.run2 (X := x_slices_rotateLeft_api_Cue) (fn := Try.f135) (ann := (.s .n (.s .n .n))) .K trivial (Snd.of rfl (All.cons s_slices_Reverse_api_Cue All.nil) (fun _ => Sound.none)) Try.func135 Try.call135 (fun a0 a1 σ => by kernel_rfl)) _ _ _ rfl rfl
theorem s_slices_rotateLeft_api_Cue : Sound Try.prog nmT 135 m_slices_rotateLeft_api_Cue := w_slices_rotateLeft_api_Cue
noncomputable def x_slices_rotateRight_api_Cue : Fx := ⟨Try.prog, nmT, A.tab (fun _ _ => none) [(135, m_slices_rotateLeft_api_Cue)], (fun _ _ _ => none), [], [], 10, []⟩
theorem w_slices_rotateRight_api_Cue : Sound Try.prog nmT 111 (A.wrap false [] .k (A.ar2 (r_slices_rotateRight_api_Cue))) :=
 Sound.wrap (Sound.run2 (X := x_slices_rotateRight_api_Cue) (fn := Try.f111) (ann := .n) .K trivial (Snd.of rfl (All.cons s_slices_rotateLeft_api_Cue All.nil) (fun _ => Sound.none)) Try.func111 Try.call111 (fun a0 a1 σ => by kernel_rfl)) _ _ _ rfl rfl
theorem s_slices_rotateRight_api_Cue : Sound Try.prog nmT 111 m_slices_rotateRight_api_Cue := w_slices_rotateRight_api_Cue
noncomputable def x_slices_Insert_api_Cue : Fx := ⟨Try.prog, nmT, A.tab (fun _ _ => none) [(110, m_slices_overlaps), (111, m_slices_rotateRight_api_Cue)], (fun _ _ _ => none), [], [], 95, []⟩
theorem w_slices_Insert_api_Cue : Sound Try.prog nmT 65 (A.wrap false [] .k (A.ar3 (r_slices_Insert_api_Cue))) :=
 Sound.wrap (Sound.run3 (X := x_slices_Insert_api_Cue) (fn := Try.f65) (ann := (.s .n (.s .n (.s .n (.s (.s .n (.j (.s .n .n) .n)) (.s .n (.s (.s .n (.j (.s .n .n) .n)) (.s (.s .n (.j (.s .n (.s .n (.s .n (.s .n .n)))) .n)) (.s .n (.s (.s .n (.j (.s .n (.s .n (.s .n .n))) .n)) (.s .n (.s .n (.s .n .n))))))))))))) .R trivial (Snd.of rfl (All.cons s_slices_overlaps_api_Cue_ (All.cons s_slices_rotateRight_api_Cue All.nil)) (fun _ => Sound.none)) Try.func65 Try.call65 (fun a0 a1 a2 σ => by kernel_rfl)) _ _ _ rfl rfl
theorem s_slices_Insert_api_Cue : Sound Try.prog nmT 65 m_slices_Insert_api_Cue := w_slices_Insert_api_Cue
noncomputable def x_cue_keysOf : Fx := ⟨Try.prog, nmT, A.tab (fun _ _ => none) [], (fun _ _ _ => none), [5], [], 19, []⟩
theorem w_cue_keysOf : Sound Try.prog nmT 67 (A.wrap true [(.s 8)] .k (A.ar1 (r_cue_keysOf))) :=
 Sound.wrap (Sound.run1 (X := x_cue_keysOf) (fn := Try.f67) (ann := (.s .n (.s .n (.s (.s .n (.b (.l [3, 8] [.exit 0] (.s .n (.s (.j .n .n) (.s (.b (.s .n .n)) .n)))))) (.s .n .n))))) .K trivial (Snd.of rfl All.nil (fun _ => Sound.none)) Try.func67 Try.call67 (fun a0 σ => by kernel_rfl)) _ _ _ rfl rfl
theorem s_cue_keysOf : Sound Try.prog nmT 67 m_cue_keysOf := w_cue_keysOf
noncomputable def x_slices_BinarySearchFunc_api_Move_api_Key (dyn : Nat → List AV → Heap → Option (AV × Heap)) : Fx := ⟨Try.prog, nmT, A.tab (fun _ _ => none) [], dyn, [4], [], 49, []⟩
theorem w_slices_BinarySearchFunc_api_Move_api_Key (dyn : Nat → List AV → Heap → Option (AV × Heap)) (hd : ∀ f, Sound Try.prog nmT f (dyn (nmT.getD f 0))) : Sound Try.prog nmT 107 (A.wrap true [(.s 8)] .k (A.ar3 (r_slices_BinarySearchFunc_api_Move_api_Key dyn))) :=
 Sound.wrap (Sound.run3 (X := x_slices_BinarySearchFunc_api_Move_api_Key dyn) (fn := Try.f107) (ann := (.s .n (.s .n (.s .n (.s (.b (.l [4, 9, 10] [.exit 0] (.s (.s .n (.j .n .n)) (.b (.s .n (.s .n (.c [4, 9, 10] .n .n))))))) (.s .n .n)))))) .F trivial (Snd.of rfl All.nil (hd)) Try.func107 Try.call107 (fun a0 a1 a2 σ => by kernel_rfl)) _ _ _ rfl rfl
theorem s_slices_BinarySearchFunc_api_Move_api_Key (dyn : Nat → List AV → Heap → Option (AV × Heap)) (hd : ∀ f, Sound Try.prog nmT f (dyn (nmT.getD f 0))) : Sound Try.prog nmT 107 (m_slices_BinarySearchFunc_api_Move_api_Key dyn) := w_slices_BinarySearchFunc_api_Move_api_Key dyn hd
noncomputable def x_cue_moveAt_fn1 : Fx := ⟨Try.prog, nmT, A.tab (fun _ _ => none) [(88, m_cue_compare)], (fun _ _ _ => none), [2, 3], [], 9, []⟩
theorem w_cue_moveAt_fn1 : Sound Try.prog nmT 108 (A.wrap true [] .k (A.ar2 (r_cue_moveAt_fn1))) :=
 Sound.wrap (Sound.run2 (X := x_cue_moveAt_fn1) (fn := Try.f108) (ann := (.s .n (.s .n .n))) .F trivial (Snd.of rfl (All.cons s_cue_compare All.nil) (fun _ => Sound.none)) Try.func108 Try.call108 (fun a0 a1 σ => by kernel_rfl)) _ _ _ rfl rfl
theorem s_cue_moveAt_fn1 : Sound Try.prog nmT 108 m_cue_moveAt_fn1 := w_cue_moveAt_fn1
noncomputable def x_cue_moveAt : Fx := ⟨Try.prog, nmT, A.tab (fun _ _ => none) [(107, m_slices_BinarySearchFunc_api_Move_api_Key (A.tab (fun _ _ => none) [(185, m_cue_moveAt_fn1)]))], (A.tab (fun _ _ => none) [(185, m_cue_moveAt_fn1)]), [2, 3], [], 12, []⟩
theorem w_cue_moveAt : Sound Try.prog nmT 58 (A.wrap true [(.a [.k, .k, .k, .k, .k, .k, .k, (.s 2), .k, .k, (.s 8)])] .k (A.ar2 (r_cue_moveAt))) :=
 Sound.wrap (Sound.run2 (X := x_cue_moveAt) (fn := Try.f58) (ann := (.s .n (.s .n .n))) .F trivial (Snd.of rfl (All.cons (s_slices_BinarySearchFunc_api_Move_api_Key _ (dyn_of (DAll.cons (nm_sound s_cue_moveAt_fn1 (by kernel_rfl) rfl) DAll.nil))) All.nil) (dyn_of (DAll.cons (nm_sound s_cue_moveAt_fn1 (by kernel_rfl) rfl) DAll.nil))) Try.func58 Try.call58 (fun a0 a1 σ => by kernel_rfl)) _ _ _ rfl rfl
theorem s_cue_moveAt : Sound Try.prog nmT 58 m_cue_moveAt := w_cue_moveAt
noncomputable def x_slices_Reverse_api_Move : Fx := ⟨Try.prog, nmT, A.tab (fun _ _ => none) [], (fun _ _ _ => none), [], [], 28, []⟩
theorem w_slices_Reverse_api_Move : Sound Try.prog nmT 183 (A.wrap false [] .k (A.ar1 (r_slices_Reverse_api_Move))) :=
 Sound.wrap (Sound.run1 (X := x_slices_Reverse_api_Move) (fn := Try.f183) (ann := (.s .n (.b (.l [2, 3] [.exit 0] (.s (.s .n (.j .n .n)) (.s (.b .n) .n)))))) .K trivial (Snd.of rfl All.nil (fun _ => Sound.none)) Try.func183 Try.call183 (fun a0 σ => by kernel_rfl)) _ _ _ rfl rfl
theorem s_slices_Reverse_api_Move : Sound Try.prog nmT 183 m_slices_Reverse_api_Move := w_slices_Reverse_api_Move
noncomputable def x_slices_rotateLeft_api_Move : Fx := ⟨Try.prog, nmT, A.tab (fun _ _ => none) [(183, m_slices_Reverse_api_Move)], (fun _ _ _ => none), [], [], 14, []⟩
theorem w_slices_rotateLeft_api_Move : Sound Try.prog nmT 160 (A.wrap false [] .k (A.ar2 (r_slices_rotateLeft_api_Move))) :=
 Sound.wrap (Sound.run2 (X := x_slices_rotateLeft_api_Move) (fn := Try.f160) (ann := (.s .n (.s .n .n))) .K trivial (Snd.of rfl (All.cons s_slices_Reverse_api_Move All.nil) (fun _ => Sound.none)) Try.func160 Try.call160 (fun a0 a1 σ => by kernel_rfl)) _ _ _ rfl rfl
theorem s_slices_rotateLeft_api_Move : Sound Try.prog nmT 160 m_slices_rotateLeft_api_Move := w_slices_rotateLeft_api_Move
noncomputable def x_slices_rotateRight_api_Move : Fx := ⟨Try.prog, nmT, A.tab (fun _ _ => none) [(160, m_slices_rotateLeft_api_Move)], (fun _ _ _ => none), [], [], 10, []⟩
theorem w_slices_rotateRight_api_Move : Sound Try.prog nmT 132 (A.wrap false [] .k (A.ar2 (r_slices_rotateRight_api_Move))) :=
 Sound.wrap (Sound.run2 (X := x_slices_rotateRight_api_Move) (fn := Try.f132) (ann := .n) .K trivial (Snd.of rfl (All.cons s_slices_rotateLeft_api_Move All.nil) (fun _ => Sound.none)) Try.func132 Try.call132 (fun a0 a1 σ => by kernel_rfl)) _ _ _ rfl rfl
theorem s_slices_rotateRight_api_Move : Sound Try.prog nmT 132 m_slices_rotateRight_api_Move := w_slices_rotateRight_api_Move
noncomputable def x_slices_Insert_api_Move : Fx := ⟨Try.prog, nmT, A.tab (fun _ _ => none) [(131, m_slices_overlaps), (132, m_slices_rotateRight_api_Move)], (fun _ _ _ => none), [], [], 95, []⟩
theorem w_slices_Insert_api_Move : Sound Try.prog nmT 101 (A.wrap false [] .k (A.ar3 (r_slices_Insert_api_Move))) :=
 Sound.wrap (Sound.run3 (X := x_slices_Insert_api_Move) (fn := Try.f101) (ann := (.s .n (.s .n (.s .n (.s (.s .n (.j (.s .n .n) .n)) (.s .n (.s (.s .n (.j (.s .n .n) .n)) (.s (.s .n (.j (.s .n (.s .n (.s .n (.s .n .n)))) .n)) (.s .n (.s (.s .n (.j (.s .n (.s .n (.s .n .n))) .n)) (.s .n (.s .n (.s .n .n))))))))))))) .R trivial (Snd.of rfl (All.cons s_slices_overlaps_api_Move_ (All.cons s_slices_rotateRight_api_Move All.nil)) (fun _ => Sound.none)) Try.func101 Try.call101 (fun a0 a1 a2 σ => by kernel_rfl)) _ _ _ rfl rfl
theorem s_slices_Insert_api_Move : Sound Try.prog nmT 101 m_slices_Insert_api_Move := w_slices_Insert_api_Move
noncomputable def x_cue_put : Fx := ⟨Try.prog, nmT, A.tab (fun _ _ => none) [(58, m_cue_moveAt), (101, m_slices_Insert_api_Move)], (fun _ _ _ => none), [3], [], 34, [101]⟩
theorem w_cue_put : Sound Try.prog nmT 59 (A.wrap false [] .k (A.ar2 (r_cue_put))) :=
 Sound.wrap (Sound.run2 (X := x_cue_put) (fn := Try.f59) (ann := (.s .n (.s .n (.s (.s .n (.j (.s .n .n) .n)) .n)))) .K trivial (Snd.of rfl (All.cons s_cue_moveAt (All.cons s_slices_Insert_api_Move All.nil)) (fun _ => Sound.none)) Try.func59 Try.call59 (fun a0 a1 σ => by kernel_rfl)) _ _ _ rfl rfl
theorem s_cue_put : Sound Try.prog nmT 59 m_cue_put := w_cue_put
noncomputable def x_cue_restore : Fx := ⟨Try.prog, nmT, A.tab (fun _ _ => none) [(58, m_cue_moveAt), (60, m_cue_move), (59, m_cue_put)], (fun _ _ _ => none), [7], [], 32, []⟩
theorem w_cue_restore : Sound Try.prog nmT 69 (A.wrap false [] .k (A.ar3 (r_cue_restore))) :=
 Sound.wrap (Sound.run3 (X := x_cue_restore) (fn := Try.f69) (ann := (.s .n (.b (.l [12] [.exit 0] (.s .n (.s (.j .n .n) (.s (.b (.s .n (.s .n (.s .n (.c [] .n .n))))) .n))))))) .K trivial (Snd.of rfl (All.cons s_cue_moveAt (All.cons s_cue_move (All.cons s_cue_put All.nil))) (fun _ => Sound.none)) Try.func69 Try.call69 (fun a0 a1 a2 σ => by kernel_rfl)) _ _ _ rfl rfl
theorem s_cue_restore : Sound Try.prog nmT 69 m_cue_restore := w_cue_restore
noncomputable def x_cue_done : Fx := ⟨Try.prog, nmT, A.tab (fun _ _ => none) [(35, m_cue_form)], (fun _ _ _ => none), [], [], 11, []⟩
theorem w_cue_done : Sound Try.prog nmT 40 (A.wrap false [] .k (A.ar1 (r_cue_done))) :=
 Sound.wrap (Sound.run1 (X := x_cue_done) (fn := Try.f40) (ann := (.s .n (.s (.s .n (.s .n (.j (.s .n .n) .n))) (.s .n .n)))) .K trivial (Snd.of rfl (All.cons s_cue_form All.nil) (fun _ => Sound.none)) Try.func40 Try.call40 (fun a0 σ => by kernel_rfl)) _ _ _ rfl rfl
theorem s_cue_done : Sound Try.prog nmT 40 m_cue_done := w_cue_done
noncomputable def x_cue_Copy_fn1 : Fx := ⟨Try.prog, nmT, A.tab (fun _ _ => none) [(88, m_cue_compare)], (fun _ _ _ => none), [2, 3], [], 10, []⟩
theorem w_cue_Copy_fn1 : Sound Try.prog nmT 87 (A.wrap true [] .k (A.ar2 (r_cue_Copy_fn1))) :=
 Sound.wrap (Sound.run2 (X := x_cue_Copy_fn1) (fn := Try.f87) (ann := (.s .n (.s .n .n))) .F trivial (Snd.of rfl (All.cons s_cue_compare All.nil) (fun _ => Sound.none)) Try.func87 Try.call87 (fun a0 a1 σ => by kernel_rfl)) _ _ _ rfl rfl
theorem s_cue_Copy_fn1 : Sound Try.prog nmT 87 m_cue_Copy_fn1 := w_cue_Copy_fn1
noncomputable def x_cue_Copy : Fx := ⟨Try.prog, nmT, A.tab (fun _ _ => none) [(35, m_cue_form), (36, m_cue_place), (38, m_word_When), (63, m_cue_numberFault), (37, m_word_First), (55, m_cue_state), (85, m_slices_Clone_api_Point), (60, m_cue_move), (86, m_slices_SortFunc_Move), (53, m_cue_copied), (65, m_slices_Insert_api_Cue), (67, A.finC (.s 2) m_cue_keysOf), (69, m_cue_restore), (40, m_cue_done)], (A.tab (fun _ _ => none) [(271, m_cue_Copy_fn1)]), [16, 17, 18, 19, 21, 22], [], 158, [53, 65, 69]⟩
theorem w_cue_Copy : Sound Try.prog nmT 33 (A.wrap true [(.e 11 [.k, .k, .k, .k, .k, .k, .k, (.s 2), .k, .k, (.s 8)])] (.t [(.e 11 [.k, .k, .k, .k, .k, .k, .k, (.s 2), .k, .k, (.s 8)]), .k]) (A.ar3 (r_cue_Copy))) :=
 Sound.wrap (Sound.run3 (X := x_cue_Copy) (fn := Try.f33) (ann := (.s .n (.s (.s .n (.s .n (.j (.s .n .n) .n))) (.s .n (.s .n (.s (.s .n (.s .n (.j (.s .n .n) .n))) (.s .n (.s .n (.s .n (.s .n (.s (.s .n (.b (.lc [16] [.exit 0] (.s .n (.s (.j .n .n) (.b (.s .n (.s .n (.s .n (.c [16] .n .n)))))))))) (.s (.s .n (.b (.lc [16] [.exit 2] (.s .n (.s (.j .n .n) (.b (.s .n (.s .n (.s .n (.c [16] .n .n)))))))))) (.s .n (.s .n (.s (.s .n (.c [] .n .n)) (.s .n .n)))))))))))))))) (.N (A.nn (.t [(.e 11 [.k, .k, .k, .k, .k, .k, .k, (.s 2), .k, .k, (.s 8)]), .k]))) (fun _ _ _ h => nn_rep _ _ _ rfl h) (Snd.of rfl (All.cons s_cue_form (All.cons s_cue_place (All.cons s_word_When (All.cons s_cue_numberFault (All.cons s_word_First (All.cons s_cue_state (All.cons s_slices_Clone_api_Point (All.cons s_cue_move (All.cons s_slices_SortFunc_api_Move_api_Move_ (All.cons s_cue_copied (All.cons s_slices_Insert_api_Cue (All.cons (Sound.finC s_cue_keysOf (.s 2) rfl) (All.cons s_cue_restore (All.cons s_cue_done All.nil)))))))))))))) (dyn_of (DAll.cons (nm_sound s_cue_Copy_fn1 (by kernel_rfl) rfl) DAll.nil))) Try.func33 Try.call33 (fun a0 a1 a2 σ => by kernel_rfl)) _ _ _ rfl rfl
theorem s_cue_Copy : Sound Try.prog nmT 33 m_cue_Copy := w_cue_Copy
noncomputable def x_cue_State_fn1 : Fx := ⟨Try.prog, nmT, A.tab (fun _ _ => none) [(88, m_cue_compare)], (fun _ _ _ => none), [2, 3], [], 10, []⟩
theorem w_cue_State_fn1 : Sound Try.prog nmT 127 (A.wrap true [] .k (A.ar2 (r_cue_State_fn1))) :=
 Sound.wrap (Sound.run2 (X := x_cue_State_fn1) (fn := Try.f127) (ann := (.s .n (.s .n .n))) .F trivial (Snd.of rfl (All.cons s_cue_compare All.nil) (fun _ => Sound.none)) Try.func127 Try.call127 (fun a0 a1 σ => by kernel_rfl)) _ _ _ rfl rfl
theorem s_cue_State_fn1 : Sound Try.prog nmT 127 m_cue_State_fn1 := w_cue_State_fn1
noncomputable def x_cue_State : Fx := ⟨Try.prog, nmT, A.tab (fun _ _ => none) [(35, m_cue_form), (36, m_cue_place), (55, m_cue_state), (126, m_slices_SortFunc_Entry)], (A.tab (fun _ _ => none) [(297, m_cue_State_fn1)]), [11], [], 42, []⟩
theorem w_cue_State : Sound Try.prog nmT 82 (A.wrap true [(.e 11 [.k, .k, .k, .k, .k, .k, .k, (.s 2), .k, .k, (.s 8)])] (.t [(.s 5), .k]) (A.ar2 (r_cue_State))) :=
 Sound.wrap (Sound.run2 (X := x_cue_State) (fn := Try.f82) (ann := (.s .n (.s (.s .n (.s .n (.j (.s .n .n) .n))) (.s .n (.s (.s .n (.j (.s .n .n) .n)) (.s .n (.s (.s .n (.b (.lc [9] [.exit 0] (.s .n (.s (.j .n .n) (.b (.s .n .n))))))) (.s .n (.s .n .n))))))))) (.N (A.nn (.t [(.s 5), .k]))) (fun _ _ _ h => nn_rep _ _ _ rfl h) (Snd.of rfl (All.cons s_cue_form (All.cons s_cue_place (All.cons s_cue_state (All.cons s_slices_SortFunc_api_Entry_api_Entry_ All.nil)))) (dyn_of (DAll.cons (nm_sound s_cue_State_fn1 (by kernel_rfl) rfl) DAll.nil))) Try.func82 Try.call82 (fun a0 a1 σ => by kernel_rfl)) _ _ _ rfl rfl
theorem s_cue_State : Sound Try.prog nmT 82 m_cue_State := w_cue_State
noncomputable def x_slices_Clone_api_Entry : Fx := ⟨Try.prog, nmT, A.tab (fun _ _ => none) [], (fun _ _ _ => none), [], [], 8, []⟩
theorem w_slices_Clone_api_Entry : Sound Try.prog nmT 83 (A.wrap true [(.s 5)] .k (A.ar1 (r_slices_Clone_api_Entry))) :=
 Sound.wrap (Sound.run1 (X := x_slices_Clone_api_Entry) (fn := Try.f83) (ann := (.s .n (.s (.s .n (.j (.s .n .n) .n)) (.s .n .n)))) .K trivial (Snd.of rfl All.nil (fun _ => Sound.none)) Try.func83 Try.call83 (fun a0 σ => by kernel_rfl)) _ _ _ rfl rfl
theorem s_slices_Clone_api_Entry : Sound Try.prog nmT 83 m_slices_Clone_api_Entry := clone_sound w_slices_Clone_api_Entry Try.call83 cz_Entry
end Go.Proofs.Ytphgchakmkankaa

namespace Go.Proofs.Ytphgchakmkankaa
set_option linter.unusedSectionVars false
set_option maxRecDepth 100000
set_option linter.unusedVariables false
set_option linter.unusedSimpArgs false
noncomputable def x_W5_values : Fx := ⟨Try.prog, nmT, A.tab (fun _ _ => none) [(82, m_cue_State), (83, m_slices_Clone_api_Entry)], (fun _ _ _ => none), [], [], 31, []⟩
theorem w_W5_values : Sound Try.prog nmT 28 (A.wrap true [(.e 11 [.k, .k, .k, .k, .k, .k, .k, (.s 2), .k, .k, (.s 8)])] (.t [(.s 5), .k]) (A.ar2 (r_W5_values))) :=
 Sound.wrap (Sound.run2 (X := x_W5_values) (fn := Try.f28) (ann := (.s .n (.s .n (.s .n (.s (.s .n (.b (.l [20] [.exit 0] (.s .n (.s (.j .n .n) (.s (.b (.s .n .n)) .n)))))) (.s .n .n)))))) .F trivial (Snd.of rfl (All.cons s_cue_State (All.cons s_slices_Clone_api_Entry All.nil)) (fun _ => Sound.none)) Try.func28 Try.call28 (fun a0 a1 σ => by kernel_rfl)) _ _ _ rfl rfl
theorem s_W5_values : Sound Try.prog nmT 28 m_W5_values := w_W5_values
noncomputable def x_slices_Equal_api_Entry : Fx := ⟨Try.prog, nmT, A.tab (fun _ _ => none) [], (fun _ _ _ => none), [], [], 26, []⟩
theorem w_slices_Equal_api_Entry : Sound Try.prog nmT 30 (A.wrap true [(.s 5), (.s 5)] .k (A.ar2 (r_slices_Equal_api_Entry))) :=
 Sound.wrap (Sound.run2 (X := x_slices_Equal_api_Entry) (fn := Try.f30) (ann := (.s .n (.s (.s .n (.j (.s .n .n) .n)) (.s (.s .n (.b (.l [4, 13] [.exit 0, .ret] (.s .n (.s (.j .n .n) (.s (.b (.s .n (.s .n (.j (.s .n .n) .n)))) .n)))))) (.s .n .n))))) .F trivial (Snd.of rfl All.nil (fun _ => Sound.none)) Try.func30 Try.call30 (fun a0 a1 σ => by kernel_rfl)) _ _ _ rfl rfl
theorem s_slices_Equal_api_Entry : Sound Try.prog nmT 30 m_slices_Equal_api_Entry := w_slices_Equal_api_Entry
noncomputable def x_W5_asBefore : Fx := ⟨Try.prog, nmT, A.tab (fun _ _ => none) [(28, m_W5_values), (30, m_slices_Equal_api_Entry)], (fun _ _ _ => none), [10], [], 58, []⟩
theorem w_W5_asBefore : Sound Try.prog nmT 27 (A.wrap true [(.e 11 [.k, .k, .k, .k, .k, .k, .k, (.s 2), .k, .k, (.s 8)]), (.e 11 [.k, .k, .k, .k, .k, .k, .k, (.s 2), .k, .k, (.s 8)])] .k (A.ar4 (r_W5_asBefore))) :=
 Sound.wrap (Sound.run4 (X := x_W5_asBefore) (fn := Try.f27) (ann := (.s .n (.s (.s .n (.b (.l [8, 17] [.exit 0, .ret] (.s .n (.s (.j .n .n) (.s (.b (.s .n (.s (.s .n (.j .n .n)) (.s .n (.s .n (.s .n (.j (.s .n .n) .n))))))) .n)))))) (.s .n .n)))) .F trivial (Snd.of rfl (All.cons s_W5_values (All.cons s_slices_Equal_api_Entry All.nil)) (fun _ => Sound.none)) Try.func27 Try.call27 (fun a0 a1 a2 a3 σ => by kernel_rfl)) _ _ _ rfl rfl
theorem s_W5_asBefore : Sound Try.prog nmT 27 m_W5_asBefore := w_W5_asBefore
noncomputable def x_cue_wayFault : Fx := ⟨Try.prog, nmT, A.tab (fun _ _ => none) [(38, m_word_When)], (fun _ _ _ => none), [], [], 10, []⟩
theorem w_cue_wayFault : Sound Try.prog nmT 39 (A.wrap true [] .k (A.ar1 (r_cue_wayFault))) :=
 Sound.wrap (Sound.run1 (X := x_cue_wayFault) (fn := Try.f39) (ann := (.s .n (.s .n .n))) .F trivial (Snd.of rfl (All.cons s_word_When All.nil) (fun _ => Sound.none)) Try.func39 Try.call39 (fun a0 σ => by kernel_rfl)) _ _ _ rfl rfl
theorem s_cue_wayFault : Sound Try.prog nmT 39 m_cue_wayFault := w_cue_wayFault
noncomputable def x_slices_Delete_api_Cue : Fx := ⟨Try.prog, nmT, A.tab (fun _ _ => none) [], (fun _ _ _ => none), [], [], 33, []⟩
theorem w_slices_Delete_api_Cue : Sound Try.prog nmT 50 (A.wrap false [] .k (A.ar3 (r_slices_Delete_api_Cue))) :=
 Sound.wrap (Sound.run3 (X := x_slices_Delete_api_Cue) (fn := Try.f50) (ann := (.s .n (.s .n (.s (.s .n (.j (.s .n .n) .n)) (.s .n (.s .n (.s .n (.s .n .n)))))))) .R trivial (Snd.of rfl All.nil (fun _ => Sound.none)) Try.func50 Try.call50 (fun a0 a1 a2 σ => by kernel_rfl)) _ _ _ rfl rfl
theorem s_slices_Delete_api_Cue : Sound Try.prog nmT 50 m_slices_Delete_api_Cue := w_slices_Delete_api_Cue
noncomputable def x_cue_blocked : Fx := ⟨Try.prog, nmT, A.tab (fun _ _ => none) [], (fun _ _ _ => none), [], [], 19, []⟩
theorem w_cue_blocked : Sound Try.prog nmT 66 (A.wrap true [(.e 11 [.k, .k, .k, .k, .k, .k, .k, (.s 2), .k, .k, (.s 8)])] .k (A.ar2 (r_cue_blocked))) :=
 Sound.wrap (Sound.run2 (X := x_cue_blocked) (fn := Try.f66) (ann := (.s .n (.s (.s .n (.b (.l [4, 5] [.exit 0, .ret] (.s (.s .n (.j .n .n)) (.s (.b (.s .n (.j (.s .n .n) .n))) .n))))) (.s .n .n)))) .F trivial (Snd.of rfl All.nil (fun _ => Sound.none)) Try.func66 Try.call66 (fun a0 a1 σ => by kernel_rfl)) _ _ _ rfl rfl
theorem s_cue_blocked : Sound Try.prog nmT 66 m_cue_blocked := w_cue_blocked
noncomputable def x_slices_IndexFunc_api_Cue (dyn : Nat → List AV → Heap → Option (AV × Heap)) : Fx := ⟨Try.prog, nmT, A.tab (fun _ _ => none) [], dyn, [], [], 19, []⟩
theorem w_slices_IndexFunc_api_Cue (dyn : Nat → List AV → Heap → Option (AV × Heap)) (hd : ∀ f, Sound Try.prog nmT f (dyn (nmT.getD f 0))) : Sound Try.prog nmT 84 (A.wrap true [(.s 11)] .k (A.ar2 (r_slices_IndexFunc_api_Cue dyn))) :=
 Sound.wrap (Sound.run2 (X := x_slices_IndexFunc_api_Cue dyn) (fn := Try.f84) (ann := (.s .n (.s (.s .n (.b (.l [4, 8] [.exit 0, .ret] (.s .n (.s (.j .n .n) (.s (.b (.s .n (.s .n (.j (.s .n .n) .n)))) .n)))))) (.s .n .n)))) .F trivial (Snd.of rfl All.nil (hd)) Try.func84 Try.call84 (fun a0 a1 σ => by kernel_rfl)) _ _ _ rfl rfl
theorem s_slices_IndexFunc_api_Cue (dyn : Nat → List AV → Heap → Option (AV × Heap)) (hd : ∀ f, Sound Try.prog nmT f (dyn (nmT.getD f 0))) : Sound Try.prog nmT 84 (m_slices_IndexFunc_api_Cue dyn) := w_slices_IndexFunc_api_Cue dyn hd
noncomputable def x_slices_ContainsFunc_api_Cue (dyn : Nat → List AV → Heap → Option (AV × Heap)) : Fx := ⟨Try.prog, nmT, A.tab (fun _ _ => none) [(84, m_slices_IndexFunc_api_Cue dyn)], dyn, [], [], 9, []⟩
theorem w_slices_ContainsFunc_api_Cue (dyn : Nat → List AV → Heap → Option (AV × Heap)) (hd : ∀ f, Sound Try.prog nmT f (dyn (nmT.getD f 0))) : Sound Try.prog nmT 31 (A.wrap true [(.s 11)] .k (A.ar2 (r_slices_ContainsFunc_api_Cue dyn))) :=
 Sound.wrap (Sound.run2 (X := x_slices_ContainsFunc_api_Cue dyn) (fn := Try.f31) (ann := (.s .n (.s .n .n))) .F trivial (Snd.of rfl (All.cons (s_slices_IndexFunc_api_Cue dyn hd) All.nil) (hd)) Try.func31 Try.call31 (fun a0 a1 σ => by kernel_rfl)) _ _ _ rfl rfl
theorem s_slices_ContainsFunc_api_Cue (dyn : Nat → List AV → Heap → Option (AV × Heap)) (hd : ∀ f, Sound Try.prog nmT f (dyn (nmT.getD f 0))) : Sound Try.prog nmT 31 (m_slices_ContainsFunc_api_Cue dyn) := w_slices_ContainsFunc_api_Cue dyn hd
noncomputable def x_cue_moved_fn1 : Fx := ⟨Try.prog, nmT, A.tab (fun _ _ => none) [(58, m_cue_moveAt)], (fun _ _ _ => none), [2], [], 13, []⟩
theorem w_cue_moved_fn1 : Sound Try.prog nmT 112 (A.wrap true [(.a [.k, .k, .k, .k, .k, .k, .k, (.s 2), .k, .k, (.s 8)])] .k (A.ar2 (r_cue_moved_fn1))) :=
 Sound.wrap (Sound.run2 (X := x_cue_moved_fn1) (fn := Try.f112) (ann := (.s .n (.s .n (.s .n .n)))) .F trivial (Snd.of rfl (All.cons s_cue_moveAt All.nil) (fun _ => Sound.none)) Try.func112 Try.call112 (fun a0 a1 σ => by kernel_rfl)) _ _ _ rfl rfl
theorem s_cue_moved_fn1 : Sound Try.prog nmT 112 m_cue_moved_fn1 := w_cue_moved_fn1
noncomputable def x_cue_moved : Fx := ⟨Try.prog, nmT, A.tab (fun _ _ => none) [(31, m_slices_ContainsFunc_api_Cue (A.tab (fun _ _ => none) [(187, m_cue_moved_fn1), (187, m_cue_moved_fn1)]))], (A.tab (fun _ _ => none) [(187, m_cue_moved_fn1), (187, m_cue_moved_fn1)]), [], [], 8, []⟩
theorem w_cue_moved : Sound Try.prog nmT 68 (A.wrap true [(.e 11 [.k, .k, .k, .k, .k, .k, .k, (.s 2), .k, .k, (.s 8)])] .k (A.ar2 (r_cue_moved))) :=
 Sound.wrap (Sound.run2 (X := x_cue_moved) (fn := Try.f68) (ann := (.s .n (.s .n .n))) .F trivial (Snd.of rfl (All.cons (s_slices_ContainsFunc_api_Cue _ (dyn_of (DAll.cons (nm_sound s_cue_moved_fn1 (by kernel_rfl) rfl) (DAll.cons (nm_sound s_cue_moved_fn1 (by kernel_rfl) rfl) DAll.nil)))) All.nil) (dyn_of (DAll.cons (nm_sound s_cue_moved_fn1 (by kernel_rfl) rfl) (DAll.cons (nm_sound s_cue_moved_fn1 (by kernel_rfl) rfl) DAll.nil)))) Try.func68 Try.call68 (fun a0 a1 σ => by kernel_rfl)) _ _ _ rfl rfl
theorem s_cue_moved : Sound Try.prog nmT 68 m_cue_moved := w_cue_moved
noncomputable def x_cue_deleted : Fx := ⟨Try.prog, nmT, A.tab (fun _ _ => none) [(53, m_cue_copied), (50, m_slices_Delete_api_Cue), (66, m_cue_blocked), (68, m_cue_moved), (59, m_cue_put)], (fun _ _ _ => none), [8, 11], [], 61, [59]⟩
theorem w_cue_deleted : Sound Try.prog nmT 41 (A.wrap true [(.e 11 [.k, .k, .k, .k, .k, .k, .k, (.s 2), .k, .k, (.s 8)])] (.e 11 [.k, .k, .k, .k, .k, .k, .k, (.s 2), .k, .k, (.s 8)]) (A.ar3 (r_cue_deleted))) :=
 Sound.wrap (Sound.run3 (X := x_cue_deleted) (fn := Try.f41) (ann := (.s .n (.s .n (.s .n (.s .n (.s .n (.s (.s .n (.c [8, 9] .n .n)) (.s (.s .n (.j (.s .n .n) .n)) (.s (.s .n (.b (.l [41] [.exit 0] (.s .n (.s (.j .n .n) (.s (.b (.s .n (.s .n (.c [] .n .n)))) .n)))))) (.s .n .n)))))))))) .F trivial (Snd.of rfl (All.cons s_cue_copied (All.cons s_slices_Delete_api_Cue (All.cons s_cue_blocked (All.cons s_cue_moved (All.cons s_cue_put All.nil))))) (fun _ => Sound.none)) Try.func41 Try.call41 (fun a0 a1 a2 σ => by kernel_rfl)) _ _ _ rfl rfl
theorem s_cue_deleted : Sound Try.prog nmT 41 m_cue_deleted := w_cue_deleted
noncomputable def x_cue_Delete : Fx := ⟨Try.prog, nmT, A.tab (fun _ _ => none) [(35, m_cue_form), (36, m_cue_place), (38, m_word_When), (39, m_cue_wayFault), (37, m_word_First), (41, m_cue_deleted), (40, m_cue_done)], (fun _ _ _ => none), [], [], 40, []⟩
theorem w_cue_Delete : Sound Try.prog nmT 12 (A.wrap true [(.e 11 [.k, .k, .k, .k, .k, .k, .k, (.s 2), .k, .k, (.s 8)])] (.t [(.e 11 [.k, .k, .k, .k, .k, .k, .k, (.s 2), .k, .k, (.s 8)]), .k]) (A.ar3 (r_cue_Delete))) :=
 Sound.wrap (Sound.run3 (X := x_cue_Delete) (fn := Try.f12) (ann := (.s .n (.s (.s .n (.s .n (.j (.s .n .n) .n))) (.s .n (.s (.s .n (.s .n (.j (.s .n .n) .n))) (.s .n .n)))))) .F trivial (Snd.of rfl (All.cons s_cue_form (All.cons s_cue_place (All.cons s_word_When (All.cons s_cue_wayFault (All.cons s_word_First (All.cons s_cue_deleted (All.cons s_cue_done All.nil))))))) (fun _ => Sound.none)) Try.func12 Try.call12 (fun a0 a1 a2 σ => by kernel_rfl)) _ _ _ rfl rfl
theorem s_cue_Delete : Sound Try.prog nmT 12 m_cue_Delete := w_cue_Delete
noncomputable def x_cue_Shift : Fx := ⟨Try.prog, nmT, A.tab (fun _ _ => none) [(33, m_cue_Copy), (12, m_cue_Delete)], (fun _ _ _ => none), [], [], 25, []⟩
theorem w_cue_Shift : Sound Try.prog nmT 34 (A.wrap true [(.e 11 [.k, .k, .k, .k, .k, .k, .k, (.s 2), .k, .k, (.s 8)])] (.t [(.e 11 [.k, .k, .k, .k, .k, .k, .k, (.s 2), .k, .k, (.s 8)]), .k]) (A.ar3 (r_cue_Shift))) :=
 Sound.wrap (Sound.run3 (X := x_cue_Shift) (fn := Try.f34) (ann := (.s .n (.s .n (.s (.s .n (.j (.s .n .n) .n)) (.s .n .n))))) .F trivial (Snd.of rfl (All.cons s_cue_Copy (All.cons s_cue_Delete All.nil)) (fun _ => Sound.none)) Try.func34 Try.call34 (fun a0 a1 a2 σ => by kernel_rfl)) _ _ _ rfl rfl
theorem s_cue_Shift : Sound Try.prog nmT 34 m_cue_Shift := w_cue_Shift
noncomputable def x_W5_CueCopiesLookAlike : Fx := ⟨Try.prog, nmT, A.tab (fun _ _ => none) [(33, m_cue_Copy), (28, m_W5_values), (30, m_slices_Equal_api_Entry), (27, m_W5_asBefore), (34, m_cue_Shift)], (fun _ _ _ => none), [], [], 92, []⟩
theorem w_W5_CueCopiesLookAlike : Sound Try.prog nmT 11 (A.wrap true [(.e 11 [.k, .k, .k, .k, .k, .k, .k, (.s 2), .k, .k, (.s 8)])] .k (A.ar3 (r_W5_CueCopiesLookAlike))) :=
 Sound.wrap (Sound.run3 (X := x_W5_CueCopiesLookAlike) (fn := Try.f11) (ann := (.s .n (.s .n (.s (.s .n (.j (.s .n .n) .n)) (.s .n (.s .n (.s (.s .n (.j (.s .n .n) .n)) (.s .n (.s (.s .n (.j (.s .n .n) .n)) (.s .n (.s .n .n))))))))))) .F trivial (Snd.of rfl (All.cons s_cue_Copy (All.cons s_W5_values (All.cons s_slices_Equal_api_Entry (All.cons s_W5_asBefore (All.cons s_cue_Shift All.nil))))) (fun _ => Sound.none)) Try.func11 Try.call11 (fun a0 a1 a2 σ => by kernel_rfl)) _ _ _ rfl rfl
theorem s_W5_CueCopiesLookAlike : Sound Try.prog nmT 11 m_W5_CueCopiesLookAlike := w_W5_CueCopiesLookAlike
end Go.Proofs.Ytphgchakmkankaa

namespace Go.Proofs.Ytphgchakmkankaa
set_option linter.unusedSectionVars false
set_option linter.unusedVariables false
set_option linter.unusedSimpArgs false
def HP := (Nat → Option Blk) → Prop
namespace HP
set_option linter.unusedSectionVars false
def emp : HP := fun h => ∀ i, h i = none
def blk (id : Nat) (b : Blk) : HP := fun h => ∀ i, h i = if i = id then some b else none
def star (P Q : HP) : HP := fun h => ∃ f g, P f ∧ Q g ∧ (∀ i, f i = none ∨ g i = none) ∧ ∀ i, h i = (f i).or (g i)
def pr (p : Prop) : HP := fun h => p ∧ ∀ i, h i = none
def ex {α : Type} (P : α → HP) : HP := fun h => ∃ x, P x h
instance : Mul HP := ⟨star⟩
theorem star_comm (P Q : HP) : P * Q = Q * P := by
 have key : ∀ P Q : HP, ∀ h, (P * Q) h → (Q * P) h := by
  rintro P Q h ⟨f, g, hf, hg, hd, hh⟩
  refine ⟨g, f, hg, hf, fun i => (hd i).symm, fun i => ?_⟩
  rw [hh i]
  rcases hd i with e | e <;> rw [e] <;> simp
 funext h
 exact propext ⟨key P Q h, key Q P h⟩
theorem star_assoc (P Q R : HP) : P * Q * R = P * (Q * R) := by
 funext h
 apply propext
 constructor
 ·rintro ⟨f, g, ⟨f1, f2, h1, h2, hd1, hf⟩, hg, hd, hh⟩
  refine ⟨f1, fun i => (f2 i).or (g i), h1, ⟨f2, g, h2, hg, fun i => ?_, fun i => rfl⟩, fun i => ?_, fun i => ?_⟩
  ·have := hd i; rw [hf i] at this
   rcases this with e | e
   ·cases h : f1 i <;> simp [h] at e <;> exact .inl e
   ·exact .inr e
  ·have a := hd i; have b := hd1 i; rw [hf i] at a
   rcases b with b | b
   ·exact .inl b
   ·rcases a with a | a
    ·cases h : f1 i <;> simp [h] at a; exact .inl rfl
    ·exact .inr (show (f2 i).or (g i) = none by rw [b, a]; rfl)
  ·rw [hh i, hf i]; cases f1 i <;> simp
 ·rintro ⟨f, g, hf, ⟨g1, g2, h1, h2, hd1, hg⟩, hd, hh⟩
  refine ⟨fun i => (f i).or (g1 i), g2, ⟨f, g1, hf, h1, fun i => ?_, fun i => rfl⟩, h2, fun i => ?_, fun i => ?_⟩
  ·have := hd i; rw [hg i] at this
   rcases this with e | e
   ·exact .inl e
   ·cases h : g1 i <;> simp [h] at e; exact .inr rfl
  ·have a := hd i; have b := hd1 i; rw [hg i] at a
   rcases b with b | b
   ·rcases a with a | a
    ·exact .inl (show (f i).or (g1 i) = none by rw [a, b]; rfl)
    ·rw [b] at a; exact .inr (by simpa using a)
   ·exact .inr b
  ·show h i = ((f i).or (g1 i)).or (g2 i)
   rw [hh i, hg i]; cases f i <;> simp
theorem emp_star (P : HP) : emp * P = P := by
 funext h
 apply propext
 constructor
 ·rintro ⟨f, g, hf, hg, hd, hh⟩
  have : h = g := by funext i; rw [hh i, hf i]; rfl
  rw [this]; exact hg
 ·intro hp
  exact ⟨fun _ => none, h, fun _ => rfl, hp, fun _ => .inl rfl, fun i => by simp⟩
theorem star_emp (P : HP) : P * emp = P := by rw [star_comm, emp_star]
instance : Std.Associative (α := HP) (· * ·) := ⟨star_assoc⟩
instance : Std.Commutative (α := HP) (· * ·) := ⟨star_comm⟩
end HP
open HP
structure Hs (B : Blk → Prop) (σ0 σ : Heap) (P : HP) : Prop where
 pre : ∃ bs, σ = σ0 ++ bs ∧ ∀ b ∈ bs, B b
 own : ∃ h, P h ∧ ∀ i b, h i = some b → σ0.length ≤ i ∧ σ[i]? = some b
def anyB : Blk → Prop := fun _ => True
section
variable {B : Blk → Prop} {σ0 σ : Heap} {P Q R : HP} {id : Nat} {b b' : Blk}
theorem hs_eq (e : P = Q) (H : Hs B σ0 σ P) : Hs B σ0 σ Q := e ▸ H
theorem hs_mono (k : ∀ h, P h → Q h) (H : Hs B σ0 σ (P * R)) : Hs B σ0 σ (Q * R) := by
 obtain ⟨h1, h, ⟨f, g, hf, hg, hd, hh⟩, h2⟩ := H
 exact ⟨h1, h, ⟨f, g, k f hf, hg, hd, hh⟩, h2⟩
theorem hs_drop (H : Hs B σ0 σ (P * R)) : Hs B σ0 σ R := by
 obtain ⟨h1, h, ⟨f, g, hf, hg, hd, hh⟩, h2⟩ := H
 refine ⟨h1, g, hg, fun i b hb => h2 i b ?_⟩
 rw [hh i]
 rcases hd i with e | e
 ·rw [e, hb]; rfl
 ·rw [e] at hb; cases hb
theorem hs_pr {p : Prop} : Hs B σ0 σ (pr p * R) ↔ p ∧ Hs B σ0 σ R := by
 constructor
 ·intro H
  refine ⟨?_, hs_drop H⟩
  obtain ⟨h1, h, ⟨f, g, hf, hg, hd, hh⟩, h2⟩ := H
  exact hf.1
 ·rintro ⟨hp, h1, h, hr, h2⟩
  exact ⟨h1, h, ⟨fun _ => none, h, ⟨hp, fun _ => rfl⟩, hr, fun _ => .inl rfl, fun i => by simp⟩, h2⟩
theorem hs_ex {α : Type} {P : α → HP} : Hs B σ0 σ (ex P * R) ↔ ∃ x, Hs B σ0 σ (P x * R) := by
 constructor
 ·rintro ⟨h1, h, ⟨f, g, ⟨x, hf⟩, hg, hd, hh⟩, h2⟩
  exact ⟨x, h1, h, ⟨f, g, hf, hg, hd, hh⟩, h2⟩
 ·rintro ⟨x, h1, h, ⟨f, g, hf, hg, hd, hh⟩, h2⟩
  exact ⟨h1, h, ⟨f, g, ⟨x, hf⟩, hg, hd, hh⟩, h2⟩
theorem hs_nil (σ : Heap) : Hs B σ σ emp := ⟨⟨[], by simp, by simp⟩, fun _ => none, fun _ => rfl, fun _ _ h => by cases h⟩
theorem hs_len (H : Hs B σ0 σ P) : σ0.length ≤ σ.length := by obtain ⟨⟨bs, rfl, _⟩, _⟩ := H; simp
theorem hs_get (H : Hs B σ0 σ (blk id b * R)) : σ0.length ≤ id ∧ σ[id]? = some b := by
 obtain ⟨h1, h, ⟨f, g, hf, hg, hd, hh⟩, h2⟩ := H
 exact h2 id b (by rw [hh id, hf id]; simp)
theorem hs_B (H : Hs B σ0 σ (blk id b * R)) : B b := by
 obtain ⟨h1, h2⟩ := hs_get H
 obtain ⟨⟨bs, rfl, hb⟩, _⟩ := H
 rw [List.getElem?_append_right h1] at h2
 exact hb b (List.mem_of_getElem? h2)
theorem hs_set (H : Hs B σ0 σ (blk id b * R)) (hb : B b') : Hs B σ0 (σ.set id b') (blk id b' * R) := by
 obtain ⟨hid, hget⟩ := hs_get H
 have hlt := (List.getElem?_eq_some_iff.1 hget).1
 obtain ⟨⟨bs, rfl, hB⟩, h, ⟨f, g, hf, hg, hd, hh⟩, h2⟩ := H
 refine ⟨⟨bs.set (id - σ0.length) b', by rw [List.set_append_right _ _ hid], fun x hx => ?_⟩, fun i => if i = id then some b' else g i, ⟨fun i => if i = id then some b' else none, g, fun i => rfl, hg, fun i => ?_, fun i => ?_⟩, fun i x hx => ?_⟩
 ·rcases List.mem_or_eq_of_mem_set hx with hx | hx
  ·exact hB x hx
  ·subst hx; exact hb
 ·have := hd i; rw [hf i] at this
  by_cases e : i = id
  ·simp only [e, if_true] at this ⊢
   rcases this with h | h
   ·cases h
   ·exact .inr h
  ·simp [e]
 ·by_cases e : i = id <;> simp [e]
 ·by_cases e : i = id
  ·subst e
   simp only [if_true, Option.some.injEq] at hx
   subst hx
   exact ⟨hid, by rw [List.getElem?_set_self hlt]⟩
  ·simp only [e, if_false] at hx
   rw [List.getElem?_set_ne (fun e' => e e'.symm)]
   have := h2 i x (by rw [hh i, hf i]; simp [e, hx])
   exact this
theorem hs_new (H : Hs B σ0 σ R) (hb : B b) : Hs B σ0 (σ ++ [b]) (blk σ.length b * R) := by
 have hl := hs_len H
 obtain ⟨⟨bs, rfl, hB⟩, h, hr, h2⟩ := H
 have hn : ∀ i x, h i = some x → i < (σ0 ++ bs).length := fun i x hx => (List.getElem?_eq_some_iff.1 (h2 i x hx).2).1
 refine ⟨⟨bs ++ [b], by simp, fun x hx => ?_⟩, fun i => if i = (σ0 ++ bs).length then some b else h i, ⟨fun i => if i = (σ0 ++ bs).length then some b else none, h, fun i => rfl, hr, fun i => ?_, fun i => ?_⟩, fun i x hx => ?_⟩
 ·rcases List.mem_append.1 hx with hx | hx
  ·exact hB x hx
  ·simp at hx; subst hx; exact hb
 ·by_cases e : i = (σ0 ++ bs).length
  ·right
   cases hi : h i with
   | none => rfl
   | some x => have := hn i x hi; omega
  ·simp only [e, if_false, true_or]
 ·by_cases e : i = (σ0 ++ bs).length <;> simp only [e, if_true, if_false, Option.or_some, Option.none_or, Option.some_or]
 ·by_cases e : i = (σ0 ++ bs).length
  ·subst e
   simp only [if_true, Option.some.injEq] at hx
   subst hx
   exact ⟨hl, by simp⟩
  ·simp only [e, if_false] at hx
   obtain ⟨k1, k2⟩ := h2 i x hx
   exact ⟨k1, by rw [List.getElem?_append_left (hn i x hx)]; exact k2⟩
end
section
variable {α : Type} {E : List AV → α → HP} {B : Blk → Prop} {σ0 σ : Heap} {R : HP}
def els (E : List AV → α → HP) : List (List AV) → List α → HP
 | [], [] => emp
 | e :: es, x :: l => E e x * els E es l
 | _, _ => pr False
theorem els_len : ∀ {es : List (List AV)} {l : List α} {R : HP}, Hs B σ0 σ (els E es l * R) → es.length = l.length
 | [], [], _, _ => rfl
 | [], _ :: _, _, H => (hs_pr.1 H).1.elim
 | _ :: _, [], _, H => (hs_pr.1 H).1.elim
 | e :: es, x :: l, R, H => by
  have := els_len (es := es) (l := l) (R := E e x * R) (hs_eq (by rw [els]; ac_rfl) H)
  simp [this]
theorem els_app : ∀ {es1 es2 : List (List AV)} {l1 l2 : List α}, es1.length = l1.length → els E (es1 ++ es2) (l1 ++ l2) = els E es1 l1 * els E es2 l2
 | [], es2, [], l2, _ => by rw [els, emp_star]; rfl
 | e :: es1, es2, x :: l1, l2, h => by
  simp only [List.cons_append, els]
  rw [els_app (by simpa using h)]
  ac_rfl
theorem els_one (e : List AV) (x : α) : els E [e] [x] = E e x := by rw [els, els, star_emp]
theorem els_at {es : List (List AV)} {l : List α} {i : Nat} {e : List AV} {x : α} (hl : es.length = l.length) (he : es[i]? = some e) (hx : l[i]? = some x) : els E es l = els E (es.eraseIdx i) (l.eraseIdx i) * E e x := by
 have h1 := (List.getElem?_eq_some_iff.1 he).1
 have h2 := (List.getElem?_eq_some_iff.1 hx).1
 have e1 : es = es.take i ++ e :: es.drop (i + 1) := by
  rw [← (List.getElem?_eq_some_iff.1 he).2, List.getElem_cons_drop, List.take_append_drop]
 have e2 : l = l.take i ++ x :: l.drop (i + 1) := by
  rw [← (List.getElem?_eq_some_iff.1 hx).2, List.getElem_cons_drop, List.take_append_drop]
 conv => lhs; rw [e1, e2]
 rw [els_app (by simp; omega), els, List.eraseIdx_eq_take_drop_succ, List.eraseIdx_eq_take_drop_succ, els_app (by simp; omega)]
 ac_rfl
def fl (c : α → List AV) : List AV → α → HP := fun e x => pr (e = c x)
theorem els_fl {c : α → List AV} : ∀ {es : List (List AV)} {l : List α} {R : HP}, Hs B σ0 σ (els (fl c) es l * R) ↔ es = l.map c ∧ Hs B σ0 σ R
 | [], [], R => by rw [els, emp_star]; simp
 | [], x :: l, R => by show Hs B σ0 σ (pr False * R) ↔ _; rw [hs_pr]; simp
 | e :: es, [], R => by show Hs B σ0 σ (pr False * R) ↔ _; rw [hs_pr]; simp
 | e :: es, x :: l, R => by
  rw [els, fl, star_assoc, hs_pr, els_fl, List.map_cons, List.cons.injEq, and_assoc]
def Sl (E : List AV → α → HP) (sz : Nat) (v : AV) (l : List α) : HP := fun h => (l = [] ∧ (v = .nsl ∨ v = .ez) ∧ emp h) ∨ ∃ id g seg, v = .os id g sz 0 l.length ∧ (blk id (.arr g sz seg) * els E seg l) h
variable {sz : Nat} {v : AV} {l : List α}
theorem sl_cases (H : Hs B σ0 σ (Sl E sz v l * R)) : (l = [] ∧ (v = .nsl ∨ v = .ez) ∧ Hs B σ0 σ R) ∨ ∃ id g seg, v = .os id g sz 0 l.length ∧ seg.length = l.length ∧ Hs B σ0 σ (blk id (.arr g sz seg) * (els E seg l * R)) := by
 have H2 := hs_drop H
 obtain ⟨h1, h, ⟨f, g, hf, hg, hd, hh⟩, h2⟩ := H
 rcases hf with ⟨k1, k2, k3⟩ | ⟨id, gg, seg, k1, k2⟩
 ·exact .inl ⟨k1, k2, H2⟩
 ·have K : Hs B σ0 σ (blk id (.arr gg sz seg) * (els E seg l * R)) := hs_eq (star_assoc _ _ _) ⟨h1, h, ⟨f, g, k2, hg, hd, hh⟩, h2⟩
  exact .inr ⟨id, gg, seg, k1, els_len (R := blk id (.arr gg sz seg) * R) (hs_eq (by ac_rfl) K), K⟩
theorem slz (H : Hs B σ0 σ R) (hv : v = .nsl ∨ v = .ez) : Hs B σ0 σ (Sl E sz v [] * R) :=
 hs_mono (P := emp) (fun h k => .inl ⟨rfl, hv, k⟩) (hs_eq (emp_star R).symm H)
theorem sl_os {id g : Nat} {seg : List (List AV)} {n : Nat} (H : Hs B σ0 σ (blk id (.arr g sz seg) * (els E seg l * R))) (hn : n = l.length := by rfl) : Hs B σ0 σ (Sl E sz (.os id g sz 0 n) l * R) :=
 hs_mono (P := blk id (.arr g sz seg) * els E seg l) (fun h k => .inr ⟨id, g, seg, by rw [hn], k⟩) (hs_eq (star_assoc _ _ _).symm H)
theorem sl_len (H : Hs B σ0 σ (Sl E sz v l * R)) : A.lenS v = some (.int .i64 l.length) := by
 rcases sl_cases H with ⟨rfl, rfl | rfl, _⟩ | ⟨id, g, seg, rfl, _⟩ <;> rfl
theorem sl_app {ys : List (List AV)} {xs : List α} {most : Nat} (H : Hs B σ0 σ (Sl E sz v l * (els E ys xs * R))) (hm : l.length + xs.length ≤ most) (hB : ∀ g g' seg, (seg = [] ∨ B (.arr g sz seg)) → B (.arr g' sz (seg ++ ys))) :
  ∃ v' σ', A.append sz most v (.sl sz ys) σ = some (v', σ') ∧ Hs B σ0 σ' (Sl E sz v' (l ++ xs) * R) := by
 rcases sl_cases H with ⟨rfl, hv, H⟩ | ⟨id, g, seg, rfl, hl, H⟩
 ·have hxl := els_len H
  by_cases hy : ys = []
  ·subst hy
   have : xs = [] := List.eq_nil_of_length_eq_zero (by simpa using hxl.symm)
   subst this
   refine ⟨v, σ, ?_, slz (hs_drop H) hv⟩
   rcases hv with rfl | rfl <;> simp [A.append, A.elems, A.appendL]
  ·refine ⟨.os σ.length ys.length sz 0 ys.length, σ ++ [.arr ys.length sz ys], ?_, ?_⟩
   ·have : ys.length ≤ most := by simp at hm; omega
    rcases hv with rfl | rfl <;> simp [A.append, A.elems, A.appendL, hy, this]
   ·have H2 := hs_new H (by simpa using hB 0 ys.length [] (.inl rfl) : B (.arr ys.length sz ys))
    exact sl_os H2 (by simpa using hxl)
 ·have hxl := els_len (hs_eq (show _ = els E ys xs * (blk id (.arr g sz seg) * (els E seg l * R)) by ac_rfl) H)
  obtain ⟨h1, h2⟩ := hs_get H
  by_cases hy : ys = []
  ·subst hy
   have : xs = [] := List.eq_nil_of_length_eq_zero (by simpa using hxl.symm)
   subst this
   refine ⟨.os id g sz 0 l.length, σ, ?_, ?_⟩
   ·have : l.length ≤ most := by simpa using hm
    simp [A.append, A.elems, A.appendL, h2, hl, this]
   ·rw [List.append_nil]
    exact sl_os (hs_eq (by rw [els, emp_star]) H)
  ·have hp : 0 < ys.length := List.length_pos_iff.2 hy
   refine ⟨.os id (g + ys.length) sz 0 (l.length + ys.length), σ.set id (.arr (g + ys.length) sz (seg ++ ys)), ?_, ?_⟩
   ·have e1 : l.length + ys.length ≤ most := by omega
    have e2 : seg.take l.length = seg := List.take_of_length_le (by omega)
    simp [A.append, A.elems, A.appendL, h2, hl, e1, hy, e2, hp]
   ·have H2 := hs_set (b' := .arr (g + ys.length) sz (seg ++ ys)) H (hB g _ seg (.inr (hs_B H)))
    exact sl_os (id := id) (g := g + ys.length) (seg := seg ++ ys) (hs_eq (by rw [els_app hl]; ac_rfl) H2) (by simp; omega)
end
end Go.Proofs.Ytphgchakmkankaa

namespace Go.Proofs.Ytphgchakmkankaa
set_option linter.unusedSectionVars false
set_option linter.unusedVariables false
set_option linter.unusedSimpArgs false
open HP
noncomputable def insR (sz most : Nat) (zs : List AV) (rot : List AV → Heap → Option (AV × Heap)) (a0 a1 a2 : AV) (σ : Heap) : Option (AV × Heap) :=
 (A.sliceS sz a0 (some a1) none σ).bind fun x1 =>
 (A.lenS a2).bind fun x2 =>
 (A.eql .i x2 (AV.int .i64 0)).bind fun x3 =>
 A.cond x3 (
  A.renew [a0, a1, a2] σ a0 σ) (
  (A.lenS a0).bind fun x4 =>
  (A.eql .i a1 x4).bind fun x5 =>
  A.cond x5 (
   (A.append sz most a0 a2 σ).bind fun r6 =>
   A.renew [a0, a1, a2] σ r6.1 r6.2) (
   (A.add x4 x2).bind fun x7 =>
   A.capM (A.capN a0) (fun x8 =>
    (A.gtr x7 x8).bind fun x9 =>
    A.cond x9 (
     (A.sliceS sz a0 none (some a1) σ).bind fun x10 =>
     (A.add x4 x2).bind fun x11 =>
     (A.sub x11 a1).bind fun x12 =>
     (A.appendZ sz most zs x10 x12 σ).bind fun r13 =>
     (A.sliceS sz r13.1 (some a1) none r13.2).bind fun x14 =>
     (A.copyS sz x14 a2 r13.2).bind fun r15 =>
     (A.add a1 x2).bind fun x16 =>
     (A.sliceS sz r13.1 (some x16) none r15.2).bind fun x17 =>
     (A.sliceS sz a0 (some a1) none r15.2).bind fun x18 =>
     (A.copyS sz x17 x18 r15.2).bind fun r19 =>
     A.renew [a0, a1, a2] σ r13.1 r19.2) (
     (A.add x4 x2).bind fun x20 =>
     (A.sliceS sz a0 none (some x20) σ).bind fun x21 =>
     (A.add a1 x2).bind fun x22 =>
     (A.sliceS sz x21 (some x22) none σ).bind fun x23 =>
     (m_slices_overlaps [a2, x23] σ).bind fun r24 =>
     (A.not r24.1).bind fun x25 =>
     A.cond x25 (
      (A.add a1 x2).bind fun x26 =>
      (A.sliceS sz x21 (some x26) none r24.2).bind fun x27 =>
      (A.sliceS sz x21 (some a1) none r24.2).bind fun x28 =>
      (A.copyS sz x27 x28 r24.2).bind fun r29 =>
      (A.sliceS sz x21 (some a1) none r29.2).bind fun x30 =>
      (A.copyS sz x30 a2 r29.2).bind fun r31 =>
      A.renew [a0, a1, a2] σ x21 r31.2) (
      (A.sliceS sz x21 (some x4) none r24.2).bind fun x32 =>
      (A.copyS sz x32 a2 r24.2).bind fun r33 =>
      (A.sliceS sz x21 (some a1) none r33.2).bind fun x34 =>
      (rot [x34, x2] r33.2).bind fun r35 =>
      A.renew [a0, a1, a2] σ x21 r35.2))) (A.capU a0 σ fun n36 s37 =>
    (A.gtr x7 (AV.int .i64 n36)).bind fun x38 =>
    A.cond x38 (
     (A.sliceS sz a0 none (some a1) s37).bind fun x39 =>
     (A.add x4 x2).bind fun x40 =>
     (A.sub x40 a1).bind fun x41 =>
     (A.appendZ sz most zs x39 x41 s37).bind fun r42 =>
     (A.sliceS sz r42.1 (some a1) none r42.2).bind fun x43 =>
     (A.copyS sz x43 a2 r42.2).bind fun r44 =>
     (A.add a1 x2).bind fun x45 =>
     (A.sliceS sz r42.1 (some x45) none r44.2).bind fun x46 =>
     (A.sliceS sz a0 (some a1) none r44.2).bind fun x47 =>
     (A.copyS sz x46 x47 r44.2).bind fun r48 =>
     A.renew [a0, a1, a2] σ r42.1 r48.2) (
     (A.add x4 x2).bind fun x49 =>
     (A.sliceS sz a0 none (some x49) s37).bind fun x50 =>
     (A.add a1 x2).bind fun x51 =>
     (A.sliceS sz x50 (some x51) none s37).bind fun x52 =>
     (m_slices_overlaps [a2, x52] s37).bind fun r53 =>
     (A.not r53.1).bind fun x54 =>
     A.cond x54 (
      (A.add a1 x2).bind fun x55 =>
      (A.sliceS sz x50 (some x55) none r53.2).bind fun x56 =>
      (A.sliceS sz x50 (some a1) none r53.2).bind fun x57 =>
      (A.copyS sz x56 x57 r53.2).bind fun r58 =>
      (A.sliceS sz x50 (some a1) none r58.2).bind fun x59 =>
      (A.copyS sz x59 a2 r58.2).bind fun r60 =>
      A.renew [a0, a1, a2] σ x50 r60.2) (
      (A.sliceS sz x50 (some x4) none r53.2).bind fun x61 =>
      (A.copyS sz x61 a2 r53.2).bind fun r62 =>
      (A.sliceS sz x50 (some a1) none r62.2).bind fun x63 =>
      (rot [x63, x2] r62.2).bind fun r64 =>
      A.renew [a0, a1, a2] σ x50 r64.2)))))
noncomputable def delR (sz most : Nat) (zs : List AV) (a0 a1 a2 : AV) (σ : Heap) : Option (AV × Heap) :=
 (A.lenS a0).bind fun x1 =>
 (A.slice3 a0 (some a1) a2 x1).bind fun x2 =>
 (A.eql .i a1 a2).bind fun x3 =>
 A.cond x3 (
  A.renew [a0, a1, a2] σ a0 σ) (
  (A.lenS a0).bind fun x4 =>
  (A.sliceS sz a0 none (some a1) σ).bind fun x5 =>
  (A.sliceS sz a0 (some a2) none σ).bind fun x6 =>
  (A.append sz most x5 x6 σ).bind fun r7 =>
  (A.lenS r7.1).bind fun x8 =>
  (A.sliceS sz r7.1 (some x8) (some x4) r7.2).bind fun x9 =>
  (A.clearS sz zs x9 r7.2).bind fun h10 =>
  A.renew [a0, a1, a2] σ r7.1 h10)
section
variable {σ : Heap} {id g sz off len : Nat} {es : List (List AV)}
theorem cnd_t {α : Type} {X Y : Option α} : A.cond (.bool true) X Y = X := rfl
theorem cnd_f {α : Type} {X Y : Option α} : A.cond (.bool false) X Y = Y := rfl
theorem capM_os {R : Type} {k : AV → Option R} {u : Option R} : A.capM (A.capN (.os id g sz off len)) k u = u := rfl
theorem bnd_s {y d k : Nat} (h : k ≤ y) : A.bound y d (some (.int .i64 (k : Int))) = some k := by
 have : (k : Int) ≤ y := by omega
 simp [A.bound, this]
theorem bnd_n {y d : Nat} : A.bound y d none = some d := rfl
theorem room_arr (h : σ[id]? = some (.arr g sz es)) (hl : off + len ≤ es.length) : A.room σ id g sz off len = es.length - off := by simp [A.room, h, hl]
theorem room_arrF (h : σ[id]? = some (.arrF g sz es)) : A.room σ id g sz off len = len := by simp [A.room, h]
theorem slo {lo hi : Option AV} {r h l : Nat} (hr : A.room σ id g sz off len = r) (hh : A.bound r len hi = some h) (hl : A.bound h 0 lo = some l) : A.sliceS sz (.os id g sz off len) lo hi σ = some (.os id g sz (off + l) (h - l)) := by
 simp [A.sliceS, hr, hh, hl]
theorem add_nn {a b : Nat} (h : a + b < 9223372036854775808) : A.add (.int .i64 (a : Int)) (.int .i64 (b : Int)) = some (.int .i64 ((a + b : Nat) : Int)) := by
 rw [aAdd, wrap64 (by unfold inI; omega)]; simp
theorem sub_nn {a b : Nat} (h : b ≤ a) (h2 : a < 9223372036854775808) : A.sub (.int .i64 (a : Int)) (.int .i64 (b : Int)) = some (.int .i64 ((a - b : Nat) : Int)) := by
 rw [aSub, wrap64 (by unfold inI; omega), Int.ofNat_sub h]
theorem eq_nn (a b : Nat) : A.eql .i (.int .i64 (a : Int)) (.int .i64 (b : Int)) = some (.bool (decide (a = b))) := by
 rw [aEq]
 have : ((a : Int) = (b : Int)) = (a = b) := propext ⟨fun h => by omega, fun h => by omega⟩
 simp only [this]
theorem all_of {R : Type} {p : Nat → Prop} {k : Nat → Option R} {r : R} (n : Nat) (hn : p n) (h : ∀ n, p n → k n = some r) : A.all p k = some r := by
 have hx : ∃ r, ∀ n, p n → k n = some r := ⟨r, h⟩
 unfold A.all
 rw [dif_pos hx]
 have := Classical.choose_spec hx n hn
 rw [h n hn] at this
 injection this with this
 rw [← this]
theorem copy_os {σ : Heap} {y : AV} {ys : List (List AV)} (h : σ[id]? = some (.arr g sz es)) (hl : off + len ≤ es.length) (hy : A.elems sz y σ = some ys) (h0 : ys.length ≠ 0) (h1 : len ≠ 0) :
  A.copyS sz (.os id g sz off len) y σ = some (.int .i64 (ys.take len).length, σ.set id (.arr g sz (es.take off ++ ys.take len ++ es.drop (off + (ys.take len).length)))) := by
 simp only [A.copyS, hy, Option.bind_some, h]
 rw [if_pos (by simp [hl]), if_neg (by simp only [not_or]; exact ⟨h0, h1⟩)]
theorem elems_os (h : σ[id]? = some (.arr g sz es)) (hl : off + len ≤ es.length) : A.elems sz (.os id g sz off len) σ = some ((es.drop off).take len) := by
 simp [A.elems, h, hl]
theorem elems_osF (h : σ[id]? = some (.arrF g sz es)) (hl : off + len ≤ es.length) : A.elems sz (.os id g sz off len) σ = some ((es.drop off).take len) := by
 simp [A.elems, h, hl]
end
section
variable {α : Type} {E : List AV → α → HP} {σ0 σ : Heap} {R : HP} {sz most : Nat} {zs : List AV} {rot : List AV → Heap → Option (AV × Heap)} {v : AV} {l : List α} {y : α} {ye : List AV} {i : Nat}
theorem gen_ins (id g n : Nat) (i : AV) (hi : ∃ k : Int, i = .int .i64 k) : A.gen [.os id g sz 0 n, i, .sl sz [ye]] = g + n + 1 := by
 obtain ⟨k, rfl⟩ := hi
 simp [A.gen]
theorem ins_mid {id g n : Nat} {seg : List (List AV)} (hs : σ[id]? = some (.arr g sz seg)) (hl : seg.length = n) (hi : i < n) (hm : n + 1 ≤ most) (hb : n < 4611686018427387904) :
  insR sz most zs rot (.os id g sz 0 n) (.int .i64 (i : Int)) (.sl sz [ye]) σ = some (.os id (g + n + 2) sz 0 (n + 1), σ.set id (.arr (g + n + 2) sz (seg.take i ++ [ye] ++ seg.drop i))) := by
 have hid := (List.getElem?_eq_some_iff.1 hs).1
 have hgen : A.gen [.os id g sz 0 n, .int .i64 (i : Int), .sl sz [ye]] = g + n + 1 := gen_ins id g n _ ⟨_, rfl⟩
 unfold insR
 rw [slo (room_arr hs (by omega)) bnd_n (bnd_s (k := i) (by omega)), Option.bind_some]
 rw [show A.lenS (.sl sz [ye]) = some (.int .i64 ((1 : Nat) : Int)) from rfl, Option.bind_some]
 rw [show A.eql .i (.int .i64 ((1 : Nat) : Int)) (.int .i64 0) = some (.bool false) from rfl, Option.bind_some]
 rw [cnd_f]
 rw [show A.lenS (.os id g sz 0 n) = some (.int .i64 (n : Int)) from rfl, Option.bind_some, eq_nn, Option.bind_some, decide_eq_false (by omega)]
 rw [cnd_f, add_nn (by omega), Option.bind_some, capM_os]
 simp only [A.capU, hs]
 rw [if_pos (by simp; omega)]
 refine all_of n (by omega) fun c hc => ?_
 obtain ⟨hc1, hc2⟩ := hc
 by_cases ht : c = n
 ·subst ht
  rw [if_pos rfl]
  obtain ⟨σ1, hσ1⟩ : ∃ σ1, σ1 = σ.set id (.arrF g sz seg) := ⟨_, rfl⟩
  have h1 : σ1[id]? = some (.arrF g sz seg) := by rw [hσ1, List.getElem?_set_self hid]
  have hl1 : σ1.length = σ.length := by rw [hσ1, List.length_set]
  rw [← hσ1]
  rw [show A.gtr (.int .i64 ((c + 1 : Nat) : Int)) (.int .i64 (c : Int)) = some (.bool true) by simp [A.gtr]; omega, Option.bind_some]
  rw [cnd_t, slo (room_arrF h1) (bnd_s (k := i) (by omega)) bnd_n, Option.bind_some, add_nn (by omega), Option.bind_some, sub_nn (by omega) (by omega), Option.bind_some]
  obtain ⟨rows, hrows⟩ : ∃ rows, rows = seg.take i ++ List.replicate (c + 1 - i) zs := ⟨_, rfl⟩
  have hrl : rows.length = c + 1 := by rw [hrows]; simp; omega
  have e1 : A.appendZ sz most zs (.os id g sz (0 + 0) (i - 0)) (.int .i64 ((c + 1 - i : Nat) : Int)) σ1 = some (.os σ1.length (c + 1) sz 0 (c + 1), σ1 ++ [.arr (c + 1) sz rows]) := by
   have q1 : (0 : Int) ≤ ((c + 1 - i : Nat) : Int) ∧ ((c + 1 - i : Nat) : Int) ≤ most := by omega
   have q2 : i + (c + 1 - i) = c + 1 := by omega
   simp only [A.appendZ]
   rw [if_pos q1]
   simp only [A.appendL, Nat.zero_add, Nat.sub_zero, h1, Int.toNat_natCast, List.length_replicate, List.drop_zero, ← hrows]
   rw [if_pos (by simp; omega), q2]
  rw [e1, Option.bind_some]
  simp only
  have h2 : (σ1 ++ [Blk.arr (c + 1) sz rows])[σ1.length]? = some (.arr (c + 1) sz rows) := by simp
  rw [slo (room_arr h2 (by omega)) bnd_n (bnd_s (k := i) (by omega)), Option.bind_some]
  rw [copy_os (ys := [ye]) h2 (by omega) (by simp [A.elems]) (by simp) (by omega), Option.bind_some]
  have e2 : ([ye] : List (List AV)).take (c + 1 - i) = [ye] := List.take_of_length_le (by simp; omega)
  rw [e2]
  simp only [Nat.zero_add, List.length_singleton]
  rw [Option.bind_some]
  obtain ⟨rows2, hrows2⟩ : ∃ rows2, rows2 = rows.take i ++ [ye] ++ rows.drop (i + 1) := ⟨_, rfl⟩
  have hrl2 : rows2.length = c + 1 := by rw [hrows2]; simp; omega
  rw [← hrows2]
  have hset : (σ1 ++ [Blk.arr (c + 1) sz rows]).set σ1.length (.arr (c + 1) sz rows2) = σ1 ++ [.arr (c + 1) sz rows2] := by simp
  rw [hset]
  have h3 : (σ1 ++ [Blk.arr (c + 1) sz rows2])[σ1.length]? = some (.arr (c + 1) sz rows2) := by simp
  have h3' : (σ1 ++ [Blk.arr (c + 1) sz rows2])[id]? = some (.arrF g sz seg) := by rw [List.getElem?_append_left (by omega)]; exact h1
  rw [slo (room_arr h3 (by omega)) bnd_n (bnd_s (k := i + 1) (by omega)), Option.bind_some]
  rw [slo (room_arrF h3') bnd_n (bnd_s (k := i) (by omega)), Option.bind_some]
  rw [copy_os h3 (by omega) (elems_osF h3' (by omega)) (by simp; omega) (by omega), Option.bind_some]
  have e3 : ((seg.drop (0 + i)).take (c - i)).take (c + 1 - (i + 1)) = seg.drop i := by
   rw [Nat.zero_add, List.take_of_length_le (by simp; omega), List.take_of_length_le (by simp; omega)]
  rw [e3]
  have e4 : rows2.take (0 + (i + 1)) ++ seg.drop i ++ rows2.drop (0 + (i + 1) + (seg.drop i).length) = seg.take i ++ [ye] ++ seg.drop i := by
   have q1 : rows2.drop (0 + (i + 1) + (seg.drop i).length) = [] := List.drop_of_length_le (by simp; omega)
   have q2 : rows.take i = seg.take i := by rw [hrows, List.take_append_of_le_length (by simp; omega), List.take_take, Nat.min_self]
   have q3 : rows2.take (0 + (i + 1)) = seg.take i ++ [ye] := by
    rw [hrows2, q2, Nat.zero_add, List.take_append_of_le_length (by simp; omega), List.take_of_length_le (by simp; omega)]
   rw [q1, q3]; simp
  rw [e4]
  have hset2 : (σ1 ++ [Blk.arr (c + 1) sz rows2]).set σ1.length (.arr (c + 1) sz (seg.take i ++ [ye] ++ seg.drop i)) = σ1 ++ [.arr (c + 1) sz (seg.take i ++ [ye] ++ seg.drop i)] := by simp
  simp only
  rw [hset2]
  have h4 : (σ1 ++ [Blk.arr (c + 1) sz (seg.take i ++ [ye] ++ seg.drop i)])[σ1.length]? = some (.arr (c + 1) sz (seg.take i ++ [ye] ++ seg.drop i)) := by simp
  have hsl : (seg.take i ++ [ye] ++ seg.drop i).length = c + 1 := by simp; omega
  have e5 : ((seg.take i ++ [ye] ++ seg.drop i).drop 0).take (c + 1) = seg.take i ++ [ye] ++ seg.drop i := by rw [List.drop_zero, List.take_of_length_le (by omega)]
  simp only [A.renew, h4]
  rw [hgen, if_pos (by simp only [true_and]; omega), if_neg (by simp [A.hdOs, hl1]), e5]
  simp only [A.merge, hs, hgen]
  rw [if_pos]
  ·rw [hsl]
  refine ⟨by omega, by simp [hl1], rfl, by omega, fun j hj hne => ?_, by rw [List.getElem?_append_left (by omega)]; exact h1, fun z hz => ?_⟩
  ·rw [List.getElem?_append_left (by omega), hσ1, List.getElem?_set_ne (fun e => hne e.symm)]
  ·simp only [List.mem_append, List.mem_singleton] at hz
   rcases hz with (hz | hz) | hz
   ·exact .inl (List.mem_of_mem_take hz)
   ·right; simp [A.rowsOf, hz]
   ·exact .inl (List.mem_of_mem_drop hz)
 ·rw [if_neg ht]
  obtain ⟨es, hes⟩ : ∃ es, es = seg ++ List.replicate (0 + c - seg.length) (List.replicate sz AV.undef) := ⟨_, rfl⟩
  have hel : es.length = c := by rw [hes]; simp; omega
  have het : ∀ k, k ≤ n → es.take k = seg.take k := fun k hk => by rw [hes, List.take_append_of_le_length (by omega)]
  obtain ⟨σ1, hσ1⟩ : ∃ σ1, σ1 = σ.set id (.arr g sz es) := ⟨_, rfl⟩
  have h1 : σ1[id]? = some (.arr g sz es) := by rw [hσ1, List.getElem?_set_self hid]
  have hl1 : id < σ1.length := by rw [hσ1, List.length_set]; exact hid
  rw [← hes, ← hσ1]
  rw [show A.gtr (.int .i64 ((n + 1 : Nat) : Int)) (.int .i64 (c : Int)) = some (.bool false) by simp [A.gtr]; omega, Option.bind_some]
  rw [cnd_f, add_nn (by omega), Option.bind_some]
  rw [slo (room_arr h1 (by omega)) (bnd_s (k := n + 1) (by omega)) bnd_n, Option.bind_some, Option.bind_some]
  simp only [Nat.zero_add, Nat.sub_zero]
  rw [slo (room_arr h1 (by omega)) bnd_n (bnd_s (k := i + 1) (by omega)), Option.bind_some]
  have e1 : m_slices_overlaps [.sl sz [ye], .os id g sz (0 + (i + 1)) (n + 1 - (i + 1))] σ1 = some (.bool false, σ1) := by
   simp only [m_slices_overlaps, A.ar2, h1]
   rw [if_pos]
   refine ⟨by simp, trivial, fun e => ?_, by omega⟩
   rw [e] at hel; simp at hel; omega
  rw [e1, Option.bind_some, show A.not (.bool false) = some (.bool true) from rfl, Option.bind_some, cnd_t, Option.bind_some]
  simp only
  rw [slo (room_arr h1 (by omega)) bnd_n (bnd_s (k := i + 1) (by omega)), Option.bind_some]
  rw [slo (room_arr h1 (by omega)) bnd_n (bnd_s (k := i) (by omega)), Option.bind_some]
  rw [copy_os h1 (by omega) (elems_os h1 (by omega)) (by simp; omega) (by omega), Option.bind_some]
  have e2 : ((es.drop (0 + i)).take (n + 1 - i)).take (n + 1 - (i + 1)) = seg.drop i := by
   rw [List.take_take, Nat.zero_add, show min (n + 1 - (i + 1)) (n + 1 - i) = n - i by omega, List.take_drop, show i + (n - i) = n by omega, het n (Nat.le_refl _), List.take_of_length_le (by omega)]
  rw [e2]
  obtain ⟨es2, hes2⟩ : ∃ es2, es2 = es.take (0 + (i + 1)) ++ seg.drop i ++ es.drop (0 + (i + 1) + (seg.drop i).length) := ⟨_, rfl⟩
  have hel2 : es2.length = c := by rw [hes2]; simp; omega
  rw [← hes2]
  have h2 : (σ1.set id (.arr g sz es2))[id]? = some (.arr g sz es2) := List.getElem?_set_self hl1
  simp only
  rw [slo (room_arr h2 (by omega)) bnd_n (bnd_s (k := i) (by omega)), Option.bind_some]
  rw [copy_os (ys := [ye]) h2 (by omega) (by simp [A.elems]) (by simp) (by omega), Option.bind_some]
  have e3 : ([ye] : List (List AV)).take (n + 1 - i) = [ye] := List.take_of_length_le (by simp; omega)
  rw [e3]
  simp only [Nat.zero_add, List.length_singleton, List.set_set]
  obtain ⟨es3, hes3⟩ : ∃ es3, es3 = es2.take i ++ [ye] ++ es2.drop (i + 1) := ⟨_, rfl⟩
  have hel3 : es3.length = c := by rw [hes3]; simp; omega
  rw [← hes3]
  have h3 : (σ1.set id (.arr g sz es3))[id]? = some (.arr g sz es3) := List.getElem?_set_self hl1
  have e4 : (es3.drop 0).take (n + 1) = seg.take i ++ [ye] ++ seg.drop i := by
   have q1 : es2.take i = seg.take i := by rw [hes2, List.append_assoc, List.take_append_of_le_length (by simp; omega), List.take_take, show min i (0 + (i + 1)) = i by omega, het i (by omega)]
   have q2 : es2.drop (i + 1) = seg.drop i ++ es.drop (i + 1 + (seg.drop i).length) := by
    rw [hes2, Nat.zero_add, List.append_assoc, List.drop_append_of_le_length (by simp; omega), List.drop_of_length_le (by simp; omega), List.nil_append]
   rw [List.drop_zero, hes3, q1, q2, ← List.append_assoc, List.take_append_of_le_length (by simp; omega), List.take_of_length_le (by simp; omega)]
  simp only [A.renew, h3]
  rw [hgen, if_pos (by simp only [true_and]; omega), if_pos (.inl hid), e4, List.set_set, hσ1, List.set_set]
theorem ins_end {id g n : Nat} {seg : List (List AV)} (hs : σ[id]? = some (.arr g sz seg)) (hl : seg.length = n) (hm : n + 1 ≤ most) :
  insR sz most zs rot (.os id g sz 0 n) (.int .i64 (n : Int)) (.sl sz [ye]) σ = some (.os id (g + n + 2) sz 0 (n + 1), σ.set id (.arr (g + n + 2) sz (seg ++ [ye]))) := by
 have hid := (List.getElem?_eq_some_iff.1 hs).1
 have hgen : A.gen [.os id g sz 0 n, .int .i64 (n : Int), .sl sz [ye]] = g + n + 1 := gen_ins id g n _ ⟨_, rfl⟩
 unfold insR
 rw [slo (room_arr hs (by omega)) bnd_n (bnd_s (k := n) (by omega)), Option.bind_some]
 rw [show A.lenS (.sl sz [ye]) = some (.int .i64 ((1 : Nat) : Int)) from rfl, Option.bind_some]
 rw [show A.eql .i (.int .i64 ((1 : Nat) : Int)) (.int .i64 0) = some (.bool false) from rfl, Option.bind_some]
 rw [cnd_f]
 rw [show A.lenS (.os id g sz 0 n) = some (.int .i64 (n : Int)) from rfl, Option.bind_some, eq_nn, Option.bind_some, decide_eq_true rfl, cnd_t]
 have e1 : A.append sz most (.os id g sz 0 n) (.sl sz [ye]) σ = some (.os id (g + 1) sz 0 (n + 1), σ.set id (.arr (g + 1) sz (seg ++ [ye]))) := by
  have q : seg.take n = seg := List.take_of_length_le (by omega)
  simp [A.append, A.elems, A.appendL, hs, hl, hm, q]
 rw [e1, Option.bind_some]
 have h2 : (σ.set id (.arr (g + 1) sz (seg ++ [ye])))[id]? = some (.arr (g + 1) sz (seg ++ [ye])) := List.getElem?_set_self hid
 simp only [A.renew, h2]
 rw [hgen, if_pos (by simp; omega), if_pos (.inl hid), List.set_set, List.drop_zero, List.take_of_length_le (by simp; omega)]
theorem ins_nil (hv : v = .nsl ∨ v = .ez) (hm : 1 ≤ most) : insR sz most zs rot v (.int .i64 0) (.sl sz [ye]) σ = some (.os σ.length 2 sz 0 1, σ ++ [.arr 2 sz [ye]]) := by
 have hgen : ∀ w : AV, (w = .nsl ∨ w = .ez) → A.gen [w, .int .i64 0, .sl sz [ye]] = 1 := by
  rintro w (rfl | rfl) <;> simp [A.gen]
 have hbd : A.bound 0 0 (some (AV.int .i64 0)) = some 0 := bnd_s (y := 0) (d := 0) (k := 0) (Nat.le_refl _)
 have key : ∀ w : AV, (w = .nsl ∨ w = .ez) → A.renew [w, .int .i64 0, .sl sz [ye]] σ (.os σ.length 1 sz 0 1) (σ ++ [.arr 1 sz [ye]]) = some (.os σ.length 2 sz 0 1, σ ++ [.arr 2 sz [ye]]) := by
  intro w hw
  have h2 : (σ ++ [Blk.arr 1 sz [ye]])[σ.length]? = some (.arr 1 sz [ye]) := by simp
  simp only [A.renew, h2]
  rw [hgen w hw, if_pos (by simp), if_pos (.inr (by rcases hw with rfl | rfl <;> rfl))]
  simp
 unfold insR
 rw [show A.lenS (.sl sz [ye]) = some (.int .i64 ((1 : Nat) : Int)) from rfl]
 rcases hv with rfl | rfl
 ·rw [show A.sliceS sz .nsl (some (.int .i64 0)) none σ = some .nsl by simp [A.sliceS, bnd_n, hbd], Option.bind_some, Option.bind_some]
  rw [show A.eql .i (.int .i64 ((1 : Nat) : Int)) (.int .i64 0) = some (.bool false) from rfl, Option.bind_some, cnd_f]
  rw [show A.lenS .nsl = some (.int .i64 0) from rfl, Option.bind_some, show A.eql .i (.int .i64 0) (.int .i64 0) = some (.bool true) from rfl, Option.bind_some, cnd_t]
  rw [show A.append sz most .nsl (.sl sz [ye]) σ = some (.os σ.length 1 sz 0 1, σ ++ [.arr 1 sz [ye]]) by simp [A.append, A.elems, A.appendL, hm], Option.bind_some]
  exact key _ (.inl rfl)
 ·rw [show A.sliceS sz .ez (some (.int .i64 0)) none σ = some .ez by simp [A.sliceS, bnd_n, hbd], Option.bind_some, Option.bind_some]
  rw [show A.eql .i (.int .i64 ((1 : Nat) : Int)) (.int .i64 0) = some (.bool false) from rfl, Option.bind_some, cnd_f]
  rw [show A.lenS .ez = some (.int .i64 0) from rfl, Option.bind_some, show A.eql .i (.int .i64 0) (.int .i64 0) = some (.bool true) from rfl, Option.bind_some, cnd_t]
  rw [show A.append sz most .ez (.sl sz [ye]) σ = some (.os σ.length 1 sz 0 1, σ ++ [.arr 1 sz [ye]]) by simp [A.append, A.elems, A.appendL, hm], Option.bind_some]
  exact key _ (.inr rfl)
theorem sl_ins {B : Blk → Prop} (H : Hs B σ0 σ (Sl E sz v l * (E ye y * R))) (hi : i ≤ l.length) (hm : l.length + 1 ≤ most) (hb : l.length < 4611686018427387904) (hB : ∀ g g' seg k, (seg = [] ∨ B (.arr g sz seg)) → B (.arr g' sz (seg.take k ++ [ye] ++ seg.drop k))) :
  ∃ v' σ', insR sz most zs rot v (.int .i64 (i : Int)) (.sl sz [ye]) σ = some (v', σ') ∧ Hs B σ0 σ' (Sl E sz v' (l.take i ++ [y] ++ l.drop i) * R) := by
 rcases sl_cases H with ⟨rfl, hv, H⟩ | ⟨id, g, seg, rfl, hl, H⟩
 ·have hi0 : i = 0 := by simpa using hi
  subst hi0
  refine ⟨_, _, ins_nil hv (by simpa using hm), ?_⟩
  have H2 := hs_new (b := .arr 2 sz [ye]) H (by simpa using hB 0 2 [] 0 (.inl rfl))
  exact sl_os (id := σ.length) (g := 2) (seg := [ye]) (hs_eq (by simp only [List.take_nil, List.drop_nil, List.nil_append, List.append_nil, els_one]) H2) rfl
 ·obtain ⟨h1, h2⟩ := hs_get H
  have e : ∃ g', insR sz most zs rot (.os id g sz 0 l.length) (.int .i64 (i : Int)) (.sl sz [ye]) σ = some (.os id g' sz 0 (l.length + 1), σ.set id (.arr g' sz (seg.take i ++ [ye] ++ seg.drop i))) := by
   by_cases hil : i = l.length
   ·subst hil
    refine ⟨g + l.length + 2, ?_⟩
    rw [ins_end h2 hl hm, List.take_of_length_le (by omega), List.drop_of_length_le (by omega), List.append_nil]
   ·exact ⟨_, ins_mid h2 hl (by omega) hm hb⟩
  obtain ⟨g', e⟩ := e
  refine ⟨_, _, e, ?_⟩
  have H2 := hs_set (b' := .arr g' sz (seg.take i ++ [ye] ++ seg.drop i)) H (hB g g' seg i (.inr (hs_B H)))
  refine sl_os (id := id) (g := g') (seg := seg.take i ++ [ye] ++ seg.drop i) (hs_eq ?_ H2) (by simp; omega)
  have q : els E seg l = els E (seg.take i) (l.take i) * els E (seg.drop i) (l.drop i) := by
   rw [← els_app (by simp; omega), List.take_append_drop, List.take_append_drop]
  rw [els_app (es1 := seg.take i ++ [ye]) (l1 := l.take i ++ [y]) (by simp; omega), els_app (by simp; omega), els_one, q]
  ac_rfl
theorem gen_del (id g n : Nat) (i j : Int) : A.gen [.os id g sz 0 n, .int .i64 i, .int .i64 j] = g + n := by simp [A.gen]
theorem sl_del {B : Blk → Prop} {x : α} (H : Hs B σ0 σ (Sl E sz v l * R)) (hx : l[i]? = some x) (hm : l.length ≤ most) (hb : l.length < 4611686018427387904) (hB : ∀ g g' seg k, B (.arr g sz seg) → B (.arr g' sz (seg.eraseIdx k))) :
  ∃ v' σ' xe, (∃ p, A.iaddr sz v (.int .i64 (i : Int)) = some p ∧ A.deref p σ = some xe) ∧ delR sz most zs v (.int .i64 (i : Int)) (.int .i64 ((i + 1 : Nat) : Int)) σ = some (v', σ') ∧ Hs B σ0 σ' (Sl E sz v' (l.eraseIdx i) * (E xe x * R)) := by
 have hil := (List.getElem?_eq_some_iff.1 hx).1
 rcases sl_cases H with ⟨rfl, hv, H⟩ | ⟨id, g, seg, rfl, hl, H⟩
 ·simp at hx
 ·obtain ⟨h1, h2⟩ := hs_get H
  have hid := (List.getElem?_eq_some_iff.1 h2).1
  obtain ⟨n, hn⟩ : ∃ n, n = l.length := ⟨_, rfl⟩
  obtain ⟨xe, hxe⟩ : ∃ xe, seg[i]? = some xe := ⟨_, List.getElem?_eq_getElem (by omega)⟩
  have hgen : A.gen [.os id g sz 0 n, .int .i64 (i : Int), .int .i64 ((i + 1 : Nat) : Int)] = g + n := gen_del id g n _ _
  have e : delR sz most zs (.os id g sz 0 n) (.int .i64 (i : Int)) (.int .i64 ((i + 1 : Nat) : Int)) σ = some (.os id (g + n + 1) sz 0 (n - 1), σ.set id (.arr (g + n + 1) sz (seg.eraseIdx i))) := by
   unfold delR
   rw [show A.lenS (.os id g sz 0 n) = some (.int .i64 (n : Int)) from rfl, Option.bind_some]
   have s3 : A.slice3 (.os id g sz 0 n) (some (.int .i64 (i : Int))) (.int .i64 ((i + 1 : Nat) : Int)) (.int .i64 (n : Int)) = some .undef := by
    simp only [A.slice3, A.lenS, Option.bind_some, Int.toNat_natCast]
    rw [bnd_s (Nat.le_refl n), Option.bind_some, bnd_s (show i + 1 ≤ n by omega), Option.bind_some, bnd_s (show i ≤ i + 1 by omega), Option.map_some, if_neg (by omega)]
   rw [s3, Option.bind_some, eq_nn, Option.bind_some, decide_eq_false (by omega), cnd_f, Option.bind_some]
   rw [slo (room_arr h2 (by omega)) (bnd_s (k := i) (by omega)) bnd_n, Option.bind_some]
   rw [slo (room_arr h2 (by omega)) bnd_n (bnd_s (k := i + 1) (by omega)), Option.bind_some]
   obtain ⟨es, hes⟩ : ∃ es, es = seg.take i ++ seg.drop (i + 1) ++ seg.drop (i + (n - (i + 1))) := ⟨_, rfl⟩
   have hel : es.length = n := by rw [hes]; simp; omega
   have e1 : A.append sz most (.os id g sz (0 + 0) (i - 0)) (.os id g sz (0 + (i + 1)) (n - (i + 1))) σ = some (.os id g sz 0 (n - 1), σ.set id (.arr g sz es)) := by
    have q : ((seg.drop (0 + (i + 1))).take (n - (i + 1))) = seg.drop (i + 1) := by rw [Nat.zero_add, List.take_of_length_le (by simp; omega)]
    simp only [A.append, elems_os h2 (by omega : 0 + (i + 1) + (n - (i + 1)) ≤ seg.length), Option.bind_some, q, A.appendL, h2]
    rw [if_pos (by simp; omega)]
    by_cases hlast : seg.drop (i + 1) = []
    ·have hni : n = i + 1 := by
      have := congrArg List.length hlast
      simp at this; omega
     rw [if_pos hlast]
     have qe : es = seg := by rw [hes, hlast, hni]; simp
     rw [qe, show n - 1 = i - 0 by omega]
     congr 2
     apply List.ext_getElem?
     intro k
     rw [List.getElem?_set]
     split
     ·rename_i ek; subst ek; rw [h2]
     ·rfl
    ·rw [if_neg hlast, if_pos (by simp; omega)]
     congr 2
     ·congr 1; simp; omega
     ·rw [hes]
      congr 2
      simp only [Nat.zero_add, Nat.sub_zero, List.length_drop]
      rw [show seg.length - (i + 1) = n - (i + 1) by omega]
   rw [e1, Option.bind_some]
   simp only
   have h3 : (σ.set id (.arr g sz es))[id]? = some (.arr g sz es) := List.getElem?_set_self hid
   rw [show A.lenS (.os id g sz 0 (n - 1)) = some (.int .i64 ((n - 1 : Nat) : Int)) from rfl, Option.bind_some]
   rw [slo (room_arr h3 (by omega)) (bnd_s (k := n) (by omega)) (bnd_s (k := n - 1) (by omega)), Option.bind_some]
   have e2 : A.clearS sz zs (.os id g sz (0 + (n - 1)) (n - (n - 1))) (σ.set id (.arr g sz es)) = some (σ.set id (.arr g sz (es.take (n - 1) ++ List.replicate (n - (n - 1)) zs ++ es.drop n))) := by
    simp only [A.clearS, h3]
    rw [if_pos (by simp; omega), if_neg (by omega), List.set_set, Nat.zero_add, show n - 1 + (n - (n - 1)) = n by omega]
   rw [e2, Option.bind_some]
   have h4 : (σ.set id (.arr g sz (es.take (n - 1) ++ List.replicate (n - (n - 1)) zs ++ es.drop n)))[id]? = some (.arr g sz (es.take (n - 1) ++ List.replicate (n - (n - 1)) zs ++ es.drop n)) := List.getElem?_set_self hid
   simp only [A.renew, h4]
   rw [hgen, if_pos (by simp; omega), if_pos (.inl hid), List.set_set, List.drop_zero, List.append_assoc, List.take_append_of_le_length (by simp; omega), List.take_take, Nat.min_self]
   congr 4
   rw [hes, List.take_append_of_le_length (by simp; omega), List.take_of_length_le (by simp; omega), List.eraseIdx_eq_take_drop_succ]
  rw [hn] at e
  have hi' : ((i : Int) < (l.length : Int)) := by omega
  refine ⟨_, _, xe, ⟨.oe id g i 0, by simp [A.iaddr, A.idx, hi'], by simp [A.deref, h2, hxe]⟩, e, ?_⟩
  have H2 := hs_set (b' := .arr (g + l.length + 1) sz (seg.eraseIdx i)) H (hB g _ seg i (hs_B H))
  refine sl_os (id := id) (g := g + l.length + 1) (seg := seg.eraseIdx i) (hs_eq ?_ H2) (by rw [List.length_eraseIdx, if_pos hil])
  rw [els_at hl hxe hx]
  ac_rfl
end
end Go.Proofs.Ytphgchakmkankaa

namespace Go.Proofs.Ytphgchakmkankaa
set_option linter.unusedSectionVars false
set_option linter.unusedVariables false
set_option linter.unusedSimpArgs false
def withinB (n lo hi : Int) : Bool := decide (lo ≤ n ∧ n ≤ hi)
def okc (c : UInt8) : Bool := decide (97 ≤ c.toNat ∧ c.toNat ≤ 122) || decide (48 ≤ c.toNat ∧ c.toNat ≤ 57) || decide (c.toNat = 45)
def rowB (s : ByteArray) : Bool := s.data.toList.all okc && decide (0 < s.size)
def nameB (s : ByteArray) : Bool := rowB s && decide (s.size ≤ 20) && decide (97 ≤ (s.data.toList.getD 0 0).toNat) && decide ((s.data.toList.getD 0 0).toNat ≤ 122)
def pc (c : UInt8) : Bool := decide (32 ≤ c.toNat ∧ c.toNat ≤ 126)
def edgeB (s : ByteArray) : Bool := decide (0 < s.size) && decide (s.size ≤ 60) && (decide ((s.data.toList.getD 0 0).toNat ≠ 32) && decide ((s.data.toList.getD (s.size - 1) 0).toNat ≠ 32))
def titleB (s : ByteArray) : Bool := s.data.toList.all pc && edgeB s
theorem getD_byte (s : ByteArray) (i : Nat) (h : i < s.size) : s.data.toList.getD i 0 = s[i] := by
 rw [List.getD_eq_getElem?_getD, List.getElem?_eq_getElem (by simpa using h)]; rfl
def profOf (nm : ByteArray) : List ProfileD → ProfileD × Bool
 | [] => (⟨⟨#[]⟩, 0, []⟩, false)
 | p :: rest => if p.name = nm then (p, true) else profOf nm rest
def lastU (lib : List ProfileD) (u : UnitD) : Int := u.address + (profOf u.profile lib).1.size - 1
def MarksP (lib : List ProfileD) (pre : List UnitD) (f : Int → Nat → Bool) : Prop := ∀ v k, f v k = true ↔ ∃ x ∈ pre, x.univ = v ∧ x.address ≤ (k : Int) ∧ (k : Int) ≤ lastU lib x
theorem MarksP.nil (lib : List ProfileD) : MarksP lib [] (fun _ _ => false) := fun v k => by simp
end Go.Proofs.Ytphgchakmkankaa

namespace Go.Proofs.Ytphgchakmkankaa
set_option linter.unusedSectionVars false
set_option linter.unusedVariables false
set_option linter.unusedSimpArgs false
theorem Within_eq (n lo hi : Int) (σ : Heap) : m_word_Within [.int .i64 n, .int .i64 lo, .int .i64 hi] σ = some (.bool (withinB n lo hi), σ) := by
 refine wrap_eq rfl ?_ rfl
 show r_word_Within _ _ _ σ = _
 unfold r_word_Within withinB
 by_cases h : lo ≤ n <;> simp only [MSb, reduceCtorEq, h, true_and, false_and]
theorem When_eq (b : Bool) (n : Int) (σ : Heap) : m_word_When [.bool b, .int .i64 n] σ = some (.int .i64 (if b = true then n else 0), σ) := by
 refine wrap_eq rfl ?_ rfl
 show r_word_When _ _ σ = _
 unfold r_word_When
 cases b <;> simp [MSb, reduceCtorEq]
theorem sidx_eq (s : ByteArray) {i : Nat} (h : i < s.size) : A.sidx (.str s) (.int .i64 (i : Int)) = some (.int .u8 (s.data.toList.getD i 0).toNat) := by
 have h1 : s[i]? = some s[i] := by simp [h]
 simp [A.sidx, A.idx, h, getD_byte s i h]
 rfl
theorem isEmpty_ne (s : ByteArray) : (decide (¬ s = ⟨#[]⟩)) = decide (0 < s.size) := by
 rw [decide_eq_decide]
 constructor
 ·intro h
  rcases Nat.eq_zero_or_pos s.size with e | e
  ·exact absurd (ByteArray.ext (Array.eq_empty_of_size_eq_zero e)) h
  ·exact e
 ·rintro h rfl; exact absurd h (by decide)
theorem Row_eq (s : ByteArray) (hs : okS s) (σ : Heap) : m_word_Row [.str s] σ = some (.bool (rowB s), σ) := by
 refine wrap_eq rfl ?_ rfl
 show r_word_Row _ σ = _
 unfold r_word_Row
 simp only [MSb, reduceCtorEq]
 refine (all_loop (p := okc) s (some (.bool false, σ)) ?_ ?_ ?_).trans ?_
 ·intro i c hi hc
  have h1 : inI ((i : Int) + 1) := by unfold okS mxl at hs; unfold inI; omega
  have h2 : (i : Int) < s.size := by omega
  simp only [MSb, reduceCtorEq, h2, hc, wrap64 h1, okc]
  clear hc h1
  repeat' ((first | rw [gDp] | rw [gDb] | rw [cDp] | rw [cDnp] | rw [cDn] | rw [cDb]); split <;> try simp only [MSb, reduceCtorEq, *])
  all_goals first | rfl | (refine (if_pos ?_).symm; simp; omega) | (refine (if_neg ?_).symm; simp; omega) | (refine congrArg some (congrArg (fun b => (AV.bool b, σ)) ?_); rw [Bool.eq_iff_iff]; simp; omega)
 ·simp only [MSb, reduceCtorEq, Int.lt_irrefl]
 ·intro i; simp only [MSb, reduceCtorEq]
 ·simp only [MSb, reduceCtorEq, isEmpty_ne, rowB]
  cases s.data.toList.all okc <;> simp
theorem rowB_pos {s : ByteArray} (h : rowB s = true) : 0 < s.size := by
 simp only [rowB, Bool.and_eq_true, decide_eq_true_eq] at h; exact h.2
theorem Name_eq (s : ByteArray) (hs : okS s) (σ : Heap) : m_word_Name [.str s] σ = some (.bool (nameB s), σ) := by
 refine wrap_eq rfl ?_ rfl
 show r_word_Name _ σ = _
 unfold r_word_Name
 simp only [MSb, reduceCtorEq, Row_eq s hs]
 cases h : rowB s
 ·simp [MSb, reduceCtorEq, nameB, h]
 ·have h0 := rowB_pos h
  have := sidx_eq s h0
  simp only [Int.ofNat_zero] at this
  simp only [MSb, reduceCtorEq, this]
  simp only [nameB, h, Bool.true_and]
  generalize s.data.toList.getD 0 0 = c0 at *
  repeat' ((first | rw [gDp] | rw [gDb] | rw [cDp] | rw [cDnp] | rw [cDn] | rw [cDb]); split <;> try simp only [MSb, reduceCtorEq, *])
  all_goals first | rfl | (refine (if_pos ?_).symm; simp; omega) | (refine (if_neg ?_).symm; simp; omega) | (refine congrArg some (congrArg (fun b => (AV.bool b, σ)) ?_); rw [Bool.eq_iff_iff]; simp; omega)
theorem Title_eq (s : ByteArray) (hs : okS s) (σ : Heap) : m_word_Title [.str s] σ = some (.bool (titleB s), σ) := by
 refine wrap_eq rfl ?_ rfl
 show r_word_Title _ σ = _
 unfold r_word_Title
 simp only [MSb, reduceCtorEq]
 refine (all_loop (p := pc) s (some (.bool false, σ)) ?_ ?_ ?_).trans ?_
 ·intro i c hi hc
  have h1 : inI ((i : Int) + 1) := by unfold okS mxl at hs; unfold inI; omega
  have h2 : (i : Int) < s.size := by omega
  simp only [MSb, reduceCtorEq, h2, hc, wrap64 h1, pc]
  clear h1
  repeat' ((first | rw [gDp] | rw [gDb] | rw [cDp] | rw [cDnp] | rw [cDn] | rw [cDb]); split <;> try simp only [MSb, reduceCtorEq, *])
  all_goals first | rfl | (refine (if_pos ?_).symm; simp; omega) | (refine (if_neg ?_).symm; simp; omega) | (refine congrArg some (congrArg (fun b => (AV.bool b, σ)) ?_); rw [Bool.eq_iff_iff]; simp; omega)
 ·simp only [MSb, reduceCtorEq, Int.lt_irrefl]
 ·intro i; simp only [MSb, reduceCtorEq]
 ·simp only [MSb, reduceCtorEq, isEmpty_ne, titleB]
  cases s.data.toList.all pc
  ·simp
  ·simp only [if_true, Bool.true_and]
   by_cases h0 : 0 < s.size
   ·by_cases h60 : s.size ≤ 60
    ·have e0 := sidx_eq s h0
     have e1 := sidx_eq s (i := s.size - 1) (by omega)
     simp only [Int.ofNat_zero] at e0
     rw [show ((s.size - 1 : Nat) : Int) = (s.size : Int) - 1 by omega] at e1
     have h1 : inI ((s.size : Int) - 1) := by unfold okS mxl at hs; unfold inI; omega
     have h60' : (s.size : Int) ≤ 60 := by omega
     have hw := wrap64 h1
     simp only [edgeB, h0, h60]
     generalize s.data.toList.getD 0 0 = c0 at *
     generalize s.data.toList.getD (s.size - 1) 0 = c1 at *
     simp only [MSb, reduceCtorEq, h0, h60', e0, e1, hw]
     repeat' ((first | rw [gDp] | rw [gDb] | rw [cDp] | rw [cDnp] | rw [cDn] | rw [cDb]); split <;> try simp only [MSb, reduceCtorEq, *])
     all_goals first | rfl | (refine (if_pos ?_).symm; simp; omega) | (refine (if_neg ?_).symm; simp; omega) | (refine congrArg some (congrArg (fun b => (AV.bool b, σ)) ?_); rw [Bool.eq_iff_iff]; simp; omega)
    ·have h60' : ¬ (s.size : Int) ≤ 60 := by omega
     simp [MSb, reduceCtorEq, h0, h60', edgeB, h60]
   ·simp [MSb, reduceCtorEq, h0, edgeB]
end Go.Proofs.Ytphgchakmkankaa

namespace Go.Proofs.Ytphgchakmkankaa
set_option linter.unusedSectionVars false
set_option linter.unusedVariables false
set_option linter.unusedSimpArgs false
theorem loop_anyN {γ : Type} {f : List AV → Heap → Option (AX × List AV × Heap)} (a n : Nat) (p : Nat → Bool) (vs : Nat → List AV) (σ : Heap) (fin : AX × List AV × Heap) (ret : Nat → AX × List AV × Heap) {k : AX × List AV × Heap → Option γ} (K1 K2 : Option γ)
  (hstep : ∀ (i : Nat), a ≤ i → i < a + n → f (vs i) σ = if p i = true then some (ret i) else some (.normal, vs (i + 1), σ)) (hend : f (vs (a + n)) σ = some fin) (hk1 : k fin = K1) (hk2 : ∀ i, k (ret i) = K2)
  (hfin : fin.1 ≠ .normal := by simp) (hret : ∀ i, (ret i).1 ≠ .normal := by intros; simp) {v : List AV} {σ' : Heap} (hv : v = vs a := by rfl) (hσ : σ' = σ := by rfl) :
  (A.loop f v σ').bind k = if (List.range' a n).any p = true then K2 else K1 := by
 refine loop_any (List.range' a n) p (fun i => vs (a + i)) σ fin (fun i => ret (a + i)) K1 K2 ?_ (by rw [List.length_range']; exact hend) hk1 (fun i => hk2 _) hfin (fun i => hret _) hv hσ
 intro i x hx
 obtain ⟨h1, h2⟩ := List.getElem?_eq_some_iff.1 hx
 rw [List.length_range'] at h1
 obtain rfl : a + i = x := by simpa [List.getElem_range'] using h2
 exact hstep (a + i) (by omega) (by omega)
def zPoint : PointD := ⟨0, 0⟩
def badP (p : PointD) : Bool := !(withinB p.time 0 1000) || !(withinB p.way 0 1000)
def ordP (l : List PointD) (i : Nat) : Bool := decide ((l.getD i zPoint).time ≤ (l.getD (i - 1) zPoint).time ∨ (l.getD i zPoint).way < (l.getD (i - 1) zPoint).way)
def ptsF (l : List PointD) : Int :=
 if l.any badP = true then 1
 else if ¬ ((l.getD 0 zPoint).time = 0 ∧ (l.getD 0 zPoint).way = 0) then 3
 else if ¬ ((l.getD (l.length - 1) zPoint).time = 1000 ∧ (l.getD (l.length - 1) zPoint).way = 1000) then 3
 else if (List.range' 1 (l.length - 1)).any (ordP l) = true then 7 else 0
def curveF (c : CurveD) : Int :=
 if withinB c.kind 1 6 = false then 4
 else if c.kind = 6 then (if c.points.length < 2 then 8 else if 20 < c.points.length then 2 else ptsF c.points)
 else if 0 < c.points.length then 3 else 0
theorem ne_point (x : PointD) (a b : Int) : A.neq (.s [0, 0]) (.agg (cPoint x)) (.agg [.int .i64 a, .int .i64 b]) = some (.bool (decide (¬ (x.time = a ∧ x.way = b)))) := by
 simp only [A.neq, A.eqK, cPoint, A.eqAll, A.eqC, A.eqI, if_true, Option.bind_some, Option.map_some]
 congr 2
 rw [Bool.eq_iff_iff]
 simp
theorem spl20 (a b c : AV) : A.splice 0 [a] [b, c] = some [a, c] := rfl
theorem spl21 (a b c : AV) : A.splice 1 [a] [b, c] = some [b, a] := rfl
theorem getD_at {l : List PointD} {i : Nat} (h : i < l.length) : l[i]? = some (l.getD i zPoint) := by simp [h]
end Go.Proofs.Ytphgchakmkankaa

namespace Go.Proofs.Ytphgchakmkankaa
set_option linter.unusedSectionVars false
set_option linter.unusedVariables false
set_option linter.unusedSimpArgs false
theorem CheckCurve_eq (c : CurveD) (σ : Heap) : m_level_CheckCurve [.agg (cCurve c)] σ = some (.int .i64 (curveF c), σ) := by
 refine wrap_eq rfl ?_ rfl
 show r_level_CheckCurve (.agg (cCurve c)) σ = _
 unfold r_level_CheckCurve curveF
 simp only [MSb, reduceCtorEq, p1_cCurve_0, p1_cCurve_1, pA_cCurve, ce_cCurve, sp_cCurve, Within_eq]
 cases hk : withinB c.kind 1 6
 ·simp only [MSb, reduceCtorEq]
 by_cases h6 : c.kind = 6
 case neg =>
  by_cases h0 : 0 < c.points.length
  ·simp only [MSb, reduceCtorEq, p1_cCurve_0, p1_cCurve_1, pA_cCurve, ce_cCurve, sp_cCurve, h6, h0, When_eq, show (0 : Int) < c.points.length by omega]
  ·simp only [MSb, reduceCtorEq, p1_cCurve_0, p1_cCurve_1, pA_cCurve, ce_cCurve, sp_cCurve, h6, h0, When_eq, show ¬ (0 : Int) < c.points.length by omega]
 by_cases h2 : c.points.length < 2
 ·simp only [MSb, reduceCtorEq, p1_cCurve_0, p1_cCurve_1, pA_cCurve, ce_cCurve, sp_cCurve, h6, h2, show (c.points.length : Int) < 2 by omega]
 by_cases h20 : 20 < c.points.length
 ·simp only [MSb, reduceCtorEq, p1_cCurve_0, p1_cCurve_1, pA_cCurve, ce_cCurve, sp_cCurve, h6, h2, h20, show ¬ (c.points.length : Int) < 2 by omega, show (20 : Int) < c.points.length by omega]
 simp only [MSb, reduceCtorEq, p1_cCurve_0, p1_cCurve_1, pA_cCurve, ce_cCurve, sp_cCurve, h6, h2, h20, show ¬ (c.points.length : Int) < 2 by omega, show ¬ (20 : Int) < c.points.length by omega]
 have hmx : c.points.length ≤ mxl := by unfold mxl; omega
 refine (loop_any c.points badP (fun i => [.int .i64 0, .int .i64 (i : Int)]) σ (.exit 0, [.int .i64 0, .int .i64 (c.points.length : Int)], σ) (fun i => (.ret, [.int .i64 1, .int .i64 (i : Int)], σ))
  (some (.int .i64 (if ¬ ((c.points.getD 0 zPoint).time = 0 ∧ (c.points.getD 0 zPoint).way = 0) then 3
 else if ¬ ((c.points.getD (c.points.length - 1) zPoint).time = 1000 ∧ (c.points.getD (c.points.length - 1) zPoint).way = 1000) then 3
 else if (List.range' 1 (c.points.length - 1)).any (ordP c.points) = true then 7 else 0), σ)) (some (.int .i64 1, σ)) ?_ ?_ ?_ ?_).trans ?_
 ·intro i x hx
  obtain ⟨g1, g2, g3⟩ := iaddr_at 2 cPoint hx
  have g3 := g3 hmx
  simp only [MSb, reduceCtorEq, p1_cPoint_0, p1_cPoint_1, pA_cPoint, ce_cPoint, sp_cPoint, g1, g2, g3, Within_eq, badP]
  rcases Bool.eq_false_or_eq_true (withinB x.time 0 1000) with e | e
  ·rcases Bool.eq_false_or_eq_true (withinB x.way 0 1000) with e' | e' <;> simp only [MSb, reduceCtorEq, Within_eq, e, e', Bool.false_or, Bool.or_false]
  ·simp only [MSb, reduceCtorEq, e, Bool.true_or]
 ·exact hend_lss _ _ _
 ·have g0 := iaddr_sl 2 cPoint c.points (getD_at (l := c.points) (i := 0) (by omega))
  have gl := iaddr_pred 2 cPoint c.points (k := c.points.length) (by omega) (getD_at (by omega))
  have hw : IntKind.i64.wrap ((c.points.length : Int) - 1) = (c.points.length : Int) - 1 := wrap64 (by unfold inI; omega)
  simp only [Int.ofNat_zero, Int.natCast_zero] at g0
  simp only [MSb, reduceCtorEq, p1_cCurve_0, p1_cCurve_1, pA_cCurve, ce_cCurve, sp_cCurve, p1_cPoint_0, p1_cPoint_1, pA_cPoint, ce_cPoint, sp_cPoint, g0, ne_point]
  by_cases e1 : (c.points.getD 0 zPoint).time = 0 ∧ (c.points.getD 0 zPoint).way = 0
  case neg => simp only [MSb, reduceCtorEq, e1]
  simp only [MSb, reduceCtorEq, p1_cCurve_0, p1_cCurve_1, pA_cCurve, ce_cCurve, sp_cCurve, e1, hw, gl, p1_cPoint_0, p1_cPoint_1, pA_cPoint, ce_cPoint, sp_cPoint]
  by_cases e2 : (c.points.getD (c.points.length - 1) zPoint).time = 1000 ∧ (c.points.getD (c.points.length - 1) zPoint).way = 1000
  case neg =>
   simp only [spl20, spl21, MSb, reduceCtorEq, ne_point, e2]
  simp only [spl20, spl21, MSb, reduceCtorEq, ne_point, e2]
  refine (loop_anyN 1 (c.points.length - 1) (ordP c.points) (fun i => [.int .i64 0, .int .i64 (i : Int)]) σ (.exit 2, [.int .i64 0, .int .i64 (c.points.length : Int)], σ) (fun i => (.ret, [.int .i64 7, .int .i64 (i : Int)], σ)) (some (AV.int .i64 0, σ)) (some (AV.int .i64 7, σ)) ?_ ?_ ?_ ?_).trans ?_
  ·intro i hi1 hi2
   have k1 := iaddr_sl 2 cPoint c.points (getD_at (l := c.points) (i := i) (by omega))
   have k2 := iaddr_pred 2 cPoint c.points (k := i) (by omega) (getD_at (by omega))
   have k3 : IntKind.i64.wrap ((i : Int) - 1) = (i : Int) - 1 := wrap64 (by unfold inI; omega)
   have k4 : IntKind.i64.wrap ((i : Int) + 1) = ((i + 1 : Nat) : Int) := by rw [wrap64 (by unfold inI; omega)]; omega
   have k5 : (i : Int) < c.points.length := by omega
   simp only [MSb, reduceCtorEq, p1_cCurve_0, p1_cCurve_1, pA_cCurve, ce_cCurve, sp_cCurve, p1_cPoint_0, p1_cPoint_1, pA_cPoint, ce_cPoint, sp_cPoint, k1, k2, k3, k5, ordP]
   by_cases q1 : (c.points.getD i zPoint).time ≤ (c.points.getD (i - 1) zPoint).time
   ·simp only [MSb, reduceCtorEq, q1]
   ·by_cases q2 : (c.points.getD i zPoint).way < (c.points.getD (i - 1) zPoint).way <;> simp only [MSb, reduceCtorEq, p1_cCurve_0, p1_cCurve_1, pA_cCurve, ce_cCurve, sp_cCurve, p1_cPoint_0, p1_cPoint_1, pA_cPoint, ce_cPoint, sp_cPoint, k1, k2, k3, k4, q1, q2]
  ·rw [show 1 + (c.points.length - 1) = c.points.length by omega]
   simp only [MSb, reduceCtorEq, p1_cCurve_0, p1_cCurve_1, pA_cCurve, ce_cCurve, sp_cCurve, Int.lt_irrefl]
  ·simp only [MSb, reduceCtorEq]
  ·intro i; simp only [MSb, reduceCtorEq]
  ·cases (List.range' 1 (c.points.length - 1)).any (ordP c.points) <;> rfl
 ·intro i; simp only [MSb, reduceCtorEq]
 ·unfold ptsF
  cases c.points.any badP <;> rfl
end Go.Proofs.Ytphgchakmkankaa

namespace Go.Proofs.Ytphgchakmkankaa
set_option linter.unusedSectionVars false
set_option linter.unusedVariables false
set_option linter.unusedSimpArgs false
theorem First_eq (l : List Int) (hl : l.length ≤ mxl) (σ : Heap) : m_word_First [sl 1 cInt l] σ = some (.int .i64 ((l.find? fun n => decide (¬ n = 0)).getD 0), σ) := by
 refine wrap_eq rfl ?_ rfl
 show r_word_First (sl 1 cInt l) σ = _
 unfold r_word_First
 simp only [MSb, reduceCtorEq]
 refine (loop_find l (fun n => decide (¬ n = 0)) (fun i => [.int .i64 0, .int .i64 (i : Int)]) σ (.exit 0, [.int .i64 0, .int .i64 (l.length : Int)], σ) (fun i n => (.ret, [.int .i64 n, .int .i64 (i : Int)], σ)) (some (AV.int .i64 0, σ)) (fun n => some (AV.int .i64 n, σ)) ?_ ?_ ?_ ?_).trans ?_
 ·intro i x hx
  obtain ⟨g1, g2, g3⟩ := iaddr_at 1 cInt hx
  have g3 := g3 hl
  simp only [MSb, reduceCtorEq, g1, g2, g3]
  repeat' ((first | rw [gDp] | rw [gDb] | rw [cDp] | rw [cDnp] | rw [cDn] | rw [cDb]); split <;> try simp only [MSb, reduceCtorEq, *])
  all_goals first | with_reducible rfl | (simp [*]; done) | (simp_all; done) | (simp_all; omega) | rfl
 ·exact hend_lss _ _ _
 ·simp only [MSb, reduceCtorEq]
 ·intro i n; simp only [MSb, reduceCtorEq]
 ·cases l.find? (fun n => decide (¬ n = 0)) <;> rfl
end Go.Proofs.Ytphgchakmkankaa

namespace Go.Proofs.Ytphgchakmkankaa
set_option linter.unusedSectionVars false
set_option linter.unusedVariables false
set_option linter.unusedSimpArgs false
theorem idxI_any {α : Type} (p : α → Bool) (l : List α) : decide (0 ≤ idxI p l) = l.any p := by
 rcases idxI_cases p l with ⟨h1, h2, _⟩ | ⟨k, x, h1, h2, h3, _⟩
 ·rw [h1, Bool.eq_iff_iff]
  simp only [decide_eq_true_eq, List.any_eq_true]
  exact ⟨fun h => by omega, fun ⟨x, hx, hp⟩ => by rw [h2 x hx] at hp; cases hp⟩
 ·rw [h3, Bool.eq_iff_iff]
  simp only [decide_eq_true_eq, List.any_eq_true]
  exact ⟨fun _ => ⟨x, List.mem_of_getElem? h1, h2⟩, fun _ => by omega⟩
theorem m_slices_IndexFunc_api_Cue_eq (dyn : Nat → List AV → Heap → Option (AV × Heap)) (l : List CueD) (hl : l.length ≤ mxl) (n : Nat) (caps : List AV) (p : CueD → Bool) (σ : Heap) (hd : ∀ x ∈ l, dyn n ((.agg (cCue x) : AV) :: caps) σ = some (.bool (p x), σ)) : m_slices_IndexFunc_api_Cue dyn [sl 11 cCue l, .fn n caps] σ = some (.int .i64 (idxI p l), σ) := by
 refine wrap_eq rfl ?_ rfl
 show r_slices_IndexFunc_api_Cue dyn (sl 11 cCue l) (.fn n caps) σ = _
 unfold r_slices_IndexFunc_api_Cue
 simp only [MSb, reduceCtorEq]
 refine (loop_pre (S := Unit) (R := Int) l (fun pre x _ => if p x = true then .out (pre.length : Int) else .go ())
  (fun pre _ => [.int .i64 0, .int .i64 (pre.length : Int)]) (fun _ _ => σ) (fun _ => (.exit 0, [.int .i64 0, .int .i64 (l.length : Int)], σ)) (fun pre _ r => (.ret, [.int .i64 (pre.length : Int), .int .i64 (pre.length : Int)], σ))
  (fun _ _ => True) () (fun _ => some (AV.int .i64 (-1), σ)) (fun r => some (AV.int .i64 r, σ)) ?_ ?_ trivial (fun _ _ _ _ _ _ _ _ => trivial) ?_ ?_).trans ?_
 ·intro pre x rest u hl' _
  have hx := pre_get hl'
  have hlt := pre_lt hl'
  have hi1 : IntKind.i64.wrap ((pre.length : Int) + 1) = (pre.length : Int) + 1 := wrap64 (by unfold inI; unfold mxl at hl; omega)
  have hlt' : (pre.length : Int) < (l.length : Int) := by omega
  have hia := iaddr_sl 11 cCue l hx
  have hdx := hd x (by rw [hl']; simp)
  simp only [MSb, reduceCtorEq, p1_cCue_0, p1_cCue_1, p1_cCue_2, p1_cCue_3, p1_cCue_4, p1_cCue_5, p1_cCue_6, p1_cCue_7, p1_cCue_8, p1_cCue_9, p1_cCue_10, pA_cCue_curve, pA_cCue, ce_cCue, sp_cCue, hlt', hia, A.callv, List.cons_append, List.nil_append, hdx, hi1]
  cases p x <;> simp [MSb, reduceCtorEq]
 ·intro u _; simp only [MSb, reduceCtorEq, Int.lt_irrefl]
 ·intro u _; simp only [MSb, reduceCtorEq]
 ·intro pre x rest s q hl' _ hb
  have : q = (pre.length : Int) := by
   cases hpx : p x
   ·rw [hpx] at hb; cases hb
   ·rw [hpx] at hb; simp at hb; exact hb.symm
  simp only [MSb, reduceCtorEq, this]
 ·rw [idxI_run p _ _ l [] (by simp)]
  simp only [List.nil_append]
  split
  ·rename_i h; rw [h]
  ·rfl
theorem m_slices_ContainsFunc_api_Cue_eq (dyn : Nat → List AV → Heap → Option (AV × Heap)) (l : List CueD) (hl : l.length ≤ mxl) (n : Nat) (caps : List AV) (p : CueD → Bool) (σ : Heap) (hd : ∀ x ∈ l, dyn n ((.agg (cCue x) : AV) :: caps) σ = some (.bool (p x), σ)) : m_slices_ContainsFunc_api_Cue dyn [sl 11 cCue l, .fn n caps] σ = some (.bool (l.any p), σ) := by
 refine wrap_eq rfl ?_ rfl
 show r_slices_ContainsFunc_api_Cue dyn (sl 11 cCue l) (.fn n caps) σ = _
 unfold r_slices_ContainsFunc_api_Cue
 simp only [MSb, reduceCtorEq, m_slices_IndexFunc_api_Cue_eq dyn l hl n caps p σ hd]
 refine congrArg some (congrArg (fun b => (AV.bool b, σ)) ?_)
 exact idxI_any p l
end Go.Proofs.Ytphgchakmkankaa

namespace Go.Proofs.Ytphgchakmkankaa
set_option linter.unusedSectionVars false
set_option linter.unusedVariables false
set_option linter.unusedSimpArgs false
def blankB (s : ByteArray) : Bool := if s = ⟨#[]⟩ then true else titleB s
end Go.Proofs.Ytphgchakmkankaa

namespace Go.Proofs.Ytphgchakmkankaa
set_option linter.unusedSectionVars false
set_option linter.unusedVariables false
set_option linter.unusedSimpArgs false
set_option maxRecDepth 100000
noncomputable def t_cue_isTime (a0 : Int) : Option Bool :=
 some (withinB a0 0 36000000)
theorem h_cue_isTime {a0 : Int} {σ : Heap} {r : Bool} (h : t_cue_isTime a0 = some r) : m_cue_isTime [(AV.int .i64 a0)] σ = some ((AV.bool r), σ) := by
 refine rf_wrap1 (f := r_cue_isTime) (y0 := (AV.int .i64 a0)) (enc := fun r : Bool => (AV.bool r)) (T := t_cue_isTime a0) rfl rfl ?_ r h
 unfold r_cue_isTime t_cue_isTime
 refine rf_s ((AV.bool (withinB a0 0 36000000)), σ) (Within_eq a0 0 36000000 σ) ?_
 exact rf_fin _ (fin_same _ _) ⟨rfl, rfl⟩

noncomputable def t_cue_compare (a0 : KeyD) (a1 : KeyD) : Option Int :=
 if ¬ (a0.unit = a1.unit) then
  if a0.unit < a1.unit then
   some (-1)
  else
  some 1
 else
 some (Lib.compareBytes a0.param.data.toList a1.param.data.toList)
theorem h_cue_compare {a0 : KeyD} { a1 : KeyD} {σ : Heap} {r : Int} (h : t_cue_compare a0 a1 = some r) : m_cue_compare [(AV.agg (cKey a0)), (AV.agg (cKey a1))] σ = some ((AV.int .i64 r), σ) := by
 refine rf_wrap2 (f := r_cue_compare) (y0 := (AV.agg (cKey a0))) (y1 := (AV.agg (cKey a1))) (enc := fun r : Int => (AV.int .i64 r)) (T := t_cue_compare a0 a1) rfl rfl ?_ r h
 unfold r_cue_compare t_cue_compare
 refine rf_s (cKey a0) rfl ?_
 refine rf_s (cKey a1) rfl ?_
 refine rf_s (AV.int .i64 a0.unit) rfl ?_
 refine rf_s (AV.int .i64 a1.unit) rfl ?_
 refine rf_s (AV.bool (decide (¬ (a0.unit = a1.unit)))) (aNe _ _ _) ?_
 refine rf_c (p := ¬ (a0.unit = a1.unit)) (fun c2 => ?_) (fun c2 => ?_)
 ·refine rf_s (AV.int .i64 a0.unit) rfl ?_
  refine rf_s (AV.int .i64 a1.unit) rfl ?_
  refine rf_s (AV.bool (decide (a0.unit < a1.unit))) rfl ?_
  refine rf_c (p := a0.unit < a1.unit) (fun c1 => ?_) (fun c1 => ?_)
  ·exact rf_fin _ (fin_same _ _) ⟨rfl, rfl⟩
  exact rf_fin _ (fin_same _ _) ⟨rfl, rfl⟩
 refine rf_s (AV.str a0.param) rfl ?_
 refine rf_s (AV.str a1.param) rfl ?_
 refine rf_s ((AV.int .i64 (Lib.compareBytes a0.param.data.toList a1.param.data.toList)), σ) (rfl) ?_
 exact rf_fin _ (fin_same _ _) ⟨rfl, rfl⟩

noncomputable def t_cue_checkMoves (a0 : (List MoveD)) : Option Int :=
 forE a0 (fun (i8 : Nat) e7 (s1 : Unit) => (show Option (Lr Unit Unit Int) from
   if (!(withinB e7.key.unit 1 9999)) = true then
    some (.ret 1)
   else
   (tq (okS e7.key.param) (nameB e7.key.param)).bind fun r9 =>
   if (!r9) = true then
    some (.ret 5)
   else
   if ((e7.release && (decide (¬ (e7.value = (⟨0, 0⟩ : ValueD))))) || ((decide (¬ (e7.value.level = 0))) && (decide (¬ (e7.value.preset = 0))))) = true then
    some (.ret 3)
   else
   if ((!(withinB e7.value.level 0 65535)) || (!(withinB e7.value.preset 0 999))) = true then
    some (.ret 1)
   else
   if ((!e7.timed) && ((decide (¬ (e7.delay = 0))) || (decide (¬ (e7.time = 0))))) = true then
    some (.ret 3)
   else
   if ((!((withinB e7.delay 0 36000000))) || (!((withinB e7.time 0 36000000)))) = true then
    some (.ret 1)
   else
   (if decide (0 < (i8 : Int)) = true then tIx a0 (IntKind.i64.wrap ((i8 : Int) - 1)) else some default).bind fun x10 =>
   (if decide (0 < (i8 : Int)) = true then t_cue_compare x10.key e7.key else some default).bind fun r11 =>
   if ((decide (0 < (i8 : Int))) && (decide (0 ≤ r11))) = true then
    some (.ret 7)
   else
   some (.go ()))) (fun s1 => some ()) () (fun b2 =>
  some 0) (fun b2 =>
  some b2)
theorem h_cue_checkMoves {a0 : (List MoveD)} {σ : Heap} {r : Int} (h : t_cue_checkMoves a0 = some r) : m_cue_checkMoves [(sl 8 cMove a0)] σ = some ((AV.int .i64 r), σ) := by
 refine rf_wrap1 (f := r_cue_checkMoves) (y0 := (sl 8 cMove a0)) (enc := fun r : Int => (AV.int .i64 r)) (T := t_cue_checkMoves a0) rfl rfl ?_ r h
 unfold r_cue_checkMoves t_cue_checkMoves
 refine rf_s (AV.int .i64 (a0.length : Int)) (lenS_sl _ _ _) ?_
 refine rf_for (B := Unit) (R := Int) (fun (i8 : Nat) (s1 : Unit) v w3 => v = [(AV.int .i64 0), (AV.int .i64 (i8 : Int))] ∧ σ = w3) (fun (b2 : Unit) (q : LS) => ∃ u2 u7, q = ((AX.exit 0), ([u2, u7] : List AV), σ)) (fun (b2 : Int) (q : LS) => ∃ u7, q = (AX.ret, ([(AV.int .i64 b2), u7] : List AV), σ)) ?_ ?_ ⟨rfl, rfl⟩ ?_ ?_
 ·intro hle7 i8 e7 s1 v w3 he7 hI
  obtain ⟨rfl, rfl⟩ := hI
  refine rf_s (AV.bool true) (ix_lt he7) ?_
  refine rf_ct ?_
  refine rf_s (AV.rp (cMove e7)) (ix_for he7) ?_
  refine rf_s (AV.agg (cMove e7)) rfl ?_
  refine rf_s (cMove e7) rfl ?_
  refine rf_s (cMove e7) (sp_cMove _ _ rfl) ?_
  refine rf_s (AV.int .i64 e7.key.unit) rfl ?_
  refine rf_s ((AV.bool (withinB e7.key.unit 1 9999)), σ) (Within_eq e7.key.unit 1 9999 σ) ?_
  refine rf_s (AV.bool (!(withinB e7.key.unit 1 9999))) rfl ?_
  refine rf_cb (c := (!(withinB e7.key.unit 1 9999))) (fun c18 => ?_) (fun c18 => ?_)
  ·exact rf_ret (rnd_ret (by simp) ⟨_, rfl⟩)
  refine rf_s (AV.str e7.key.param) rfl ?_
  refine rf_o (fun r9 : Bool => ((AV.bool r9), σ)) (fun r9 hr9 => (tq_of (e := fun r : Bool => ((AV.bool r), σ)) (fun hs => Name_eq e7.key.param hs σ)) hr9) (fun r9 hr9 => ?_)
  refine rf_s (AV.bool (!r9)) rfl ?_
  refine rf_cb (c := (!r9)) (fun c17 => ?_) (fun c17 => ?_)
  ·exact rf_ret (rnd_ret (by simp) ⟨_, rfl⟩)
  refine rf_s (AV.bool e7.release) rfl ?_
  refine rf_gt (AV.agg (cValue e7.value)) (fun hg => rfl) ?_
  refine rf_gt (AV.agg (cValue (⟨0, 0⟩ : ValueD))) (fun hg => rfl) ?_
  refine rf_gt (AV.bool (decide (¬ (e7.value = (⟨0, 0⟩ : ValueD))))) (fun hg => by
    simp only [hg, Bool.true_and, cond_true]; first | done | exact (ne_Value _ _)) ?_
  refine rf_s (AV.bool (e7.release && (decide (¬ (e7.value = (⟨0, 0⟩ : ValueD)))))) (pk_and _ _) ?_
  refine rf_gf (AV.int .i64 e7.value.level) (fun hg => rfl) ?_
  refine rf_gf (AV.bool (decide (¬ (e7.value.level = 0)))) (fun hg => by
    simp only [hg, Bool.true_and, cond_true]; first | done | exact (aNe _ _ _)) ?_
  refine rf_gf (AV.bool (decide (¬ (e7.value.level = 0)))) (fun hg => by
    simp only [hg, Bool.true_and, cond_true]; first | done | exact rfl) ?_
  refine rf_ggt (AV.int .i64 e7.value.preset) (fun hg => rfl) ?_
  refine rf_ggt (AV.bool (decide (¬ (e7.value.preset = 0)))) (fun hg => by
    simp only [hg, Bool.true_and, cond_true]; first | done | exact (aNe _ _ _)) ?_
  refine rf_gf (AV.bool ((decide (¬ (e7.value.level = 0))) && (decide (¬ (e7.value.preset = 0))))) (fun hg => by
    simp only [hg, Bool.true_and, cond_true]; first | done | exact (pk_and _ _)) ?_
  refine rf_s (AV.bool ((e7.release && (decide (¬ (e7.value = (⟨0, 0⟩ : ValueD))))) || ((decide (¬ (e7.value.level = 0))) && (decide (¬ (e7.value.preset = 0)))))) (pk_or _ _) ?_
  refine rf_cb (c := ((e7.release && (decide (¬ (e7.value = (⟨0, 0⟩ : ValueD))))) || ((decide (¬ (e7.value.level = 0))) && (decide (¬ (e7.value.preset = 0)))))) (fun c16 => ?_) (fun c16 => ?_)
  ·exact rf_ret (rnd_ret (by simp) ⟨_, rfl⟩)
  refine rf_s (AV.int .i64 e7.value.level) rfl ?_
  refine rf_s ((AV.bool (withinB e7.value.level 0 65535)), σ) (Within_eq e7.value.level 0 65535 σ) ?_
  refine rf_s (AV.bool (!(withinB e7.value.level 0 65535))) rfl ?_
  refine rf_gf (AV.int .i64 e7.value.preset) (fun hg => rfl) ?_
  refine rf_gf (AV.bool (withinB e7.value.preset 0 999)) (fun hg => by
    simp only [hg, Bool.true_and, cond_true]; first | done | exact (quiet_of (Within_eq e7.value.preset 0 999 σ))) ?_
  refine rf_gf (AV.bool (!(withinB e7.value.preset 0 999))) (fun hg => by
    simp only [hg, Bool.true_and, cond_true]; first | done | exact rfl) ?_
  refine rf_s (AV.bool ((!(withinB e7.value.level 0 65535)) || (!(withinB e7.value.preset 0 999)))) (pk_or _ _) ?_
  refine rf_cb (c := ((!(withinB e7.value.level 0 65535)) || (!(withinB e7.value.preset 0 999)))) (fun c15 => ?_) (fun c15 => ?_)
  ·exact rf_ret (rnd_ret (by simp) ⟨_, rfl⟩)
  refine rf_s (AV.bool e7.timed) rfl ?_
  refine rf_s (AV.bool (!e7.timed)) rfl ?_
  refine rf_gt (AV.int .i64 e7.delay) (fun hg => rfl) ?_
  refine rf_gt (AV.bool (decide (¬ (e7.delay = 0)))) (fun hg => by
    simp only [hg, Bool.true_and, cond_true]; first | done | exact (aNe _ _ _)) ?_
  refine rf_gt (AV.bool (decide (¬ (e7.delay = 0)))) (fun hg => by
    simp only [hg, Bool.true_and, cond_true]; first | done | exact rfl) ?_
  refine rf_ggf (AV.int .i64 e7.time) (fun hg => rfl) ?_
  refine rf_ggf (AV.bool (decide (¬ (e7.time = 0)))) (fun hg => by
    simp only [hg, Bool.true_and, cond_true]; first | done | exact (aNe _ _ _)) ?_
  refine rf_gt (AV.bool ((decide (¬ (e7.delay = 0))) || (decide (¬ (e7.time = 0))))) (fun hg => by
    simp only [hg, Bool.true_and, cond_true]; first | done | exact (pk_or _ _)) ?_
  refine rf_s (AV.bool ((!e7.timed) && ((decide (¬ (e7.delay = 0))) || (decide (¬ (e7.time = 0)))))) (pk_and _ _) ?_
  refine rf_cb (c := ((!e7.timed) && ((decide (¬ (e7.delay = 0))) || (decide (¬ (e7.time = 0)))))) (fun c14 => ?_) (fun c14 => ?_)
  ·exact rf_ret (rnd_ret (by simp) ⟨_, rfl⟩)
  refine rf_s (AV.int .i64 e7.delay) rfl ?_
  refine rf_s ((AV.bool ((withinB e7.delay 0 36000000))), σ) (h_cue_isTime (σ := σ) (r := (withinB e7.delay 0 36000000)) rfl) ?_
  refine rf_s (AV.bool (!((withinB e7.delay 0 36000000)))) rfl ?_
  refine rf_gf (AV.int .i64 e7.time) (fun hg => rfl) ?_
  refine rf_gf (AV.bool ((withinB e7.time 0 36000000))) (fun hg => by
    simp only [hg, Bool.true_and, cond_true]; first | done | exact (quiet_of (h_cue_isTime (σ := σ) (r := (withinB e7.time 0 36000000)) rfl))) ?_
  refine rf_gf (AV.bool (!((withinB e7.time 0 36000000)))) (fun hg => by
    simp only [hg, Bool.true_and, cond_true]; first | done | exact rfl) ?_
  refine rf_s (AV.bool ((!((withinB e7.delay 0 36000000))) || (!((withinB e7.time 0 36000000))))) (pk_or _ _) ?_
  refine rf_cb (c := ((!((withinB e7.delay 0 36000000))) || (!((withinB e7.time 0 36000000))))) (fun c13 => ?_) (fun c13 => ?_)
  ·exact rf_ret (rnd_ret (by simp) ⟨_, rfl⟩)
  refine rf_s (AV.bool (decide (0 < (i8 : Int)))) rfl ?_
  refine rf_gt (sl 8 cMove a0) (fun hg => rfl) ?_
  refine rf_gt (AV.int .i64 (i8 : Int)) (fun hg => rfl) ?_
  refine rf_gt (AV.int .i64 (IntKind.i64.wrap ((i8 : Int) - 1))) (fun hg => by
    simp only [hg, Bool.true_and, cond_true]; first | done | exact rfl) ?_
  refine rf_gto (ω := MoveD) (fun x10 => (AV.rp (cMove x10))) (fun hg x10 hx10 => by
    simp only [hg, Bool.true_and, cond_true]; first | done | exact ix_at hx10) (fun x10 hx10 => ?_)
  refine rf_gt (AV.rp (cMove x10)) (fun hg => by
    simp only [hg, Bool.true_and, cond_true]; first | done | exact rfl) ?_
  refine rf_gt (AV.agg (cKey x10.key)) (fun hg => by
    simp only [hg, Bool.true_and, cond_true]; first | done | exact rfl) ?_
  refine rf_gt (AV.agg (cKey e7.key)) (fun hg => rfl) ?_
  refine rf_gto (ω := Int) (fun r11 => (AV.int .i64 r11)) (fun hg r11 hr11 => by
    simp only [hg, Bool.true_and, cond_true]; first | done | exact (quiet_of (h_cue_compare hr11))) (fun r11 hr11 => ?_)
  refine rf_gt (AV.bool (decide (0 ≤ r11))) (fun hg => by
    simp only [hg, Bool.true_and, cond_true]; first | done | exact rfl) ?_
  refine rf_s (AV.bool ((decide (0 < (i8 : Int))) && (decide (0 ≤ r11)))) (pk_and _ _) ?_
  refine rf_cb (c := ((decide (0 < (i8 : Int))) && (decide (0 ≤ r11)))) (fun c12 => ?_) (fun c12 => ?_)
  ·exact rf_ret (rnd_ret (by simp) ⟨_, rfl⟩)
  refine rf_s (AV.int .i64 ((i8 + 1 : Nat) : Int)) (ix_inc he7 hle7) ?_
  exact rf_ret (rnd_go ⟨rfl, rfl⟩)
 ·intro hl s1 v w3 hI
  obtain ⟨rfl, rfl⟩ := hI
  refine rf_s (AV.bool false) (ix_end _) ?_
  refine rf_cf ?_
  exact rf_ret ⟨by simp, ⟨_, _, rfl⟩⟩
 ·intro hl b2 q hq
  obtain ⟨u2, u7, rfl⟩ := hq
  refine rf_bt rfl ?_
  exact rf_fin _ (fin_same _ _) ⟨rfl, rfl⟩
 ·intro hl b2 q hq
  obtain ⟨u7, rfl⟩ := hq
  refine rf_bf rfl ?_
  refine rf_bt rfl ?_
  exact rf_fin _ (fin_same _ _) ⟨rfl, rfl⟩

noncomputable def t_cue_form (a0 : (List CueD)) : Option Int :=
 if 300 < (a0.length : Int) then
  some 2
 else
 forE a0 (fun (i8 : Nat) e7 (s1 : Int) => (show Option (Lr Int Int Int) from
   if (!(withinB e7.number 1 9999999)) = true then
    some (.ret 1)
   else
   (if decide (0 < (i8 : Int)) = true then tIx a0 (IntKind.i64.wrap ((i8 : Int) - 1)) else some default).bind fun x9 =>
   if ((decide (0 < (i8 : Int))) && (decide (e7.number ≤ x9.number))) = true then
    some (.ret 7)
   else
   (if decide (¬ (e7.title = (⟨#[]⟩ : ByteArray))) = true then tq (okS e7.title) (titleB e7.title) else some default).bind fun r10 =>
   if ((decide (¬ (e7.title = (⟨#[]⟩ : ByteArray)))) && (!r10)) = true then
    some (.ret 3)
   else
   if (((((!((withinB e7.delay 0 36000000))) || (!((withinB e7.up 0 36000000)))) || (!((withinB e7.down 0 36000000)))) || (!((withinB e7.other 0 36000000)))) || (!(withinB e7.follow (-1) 36000000))) = true then
    some (.ret 1)
   else
   if ¬ ((curveF e7.curve) = 0) then
    some (.ret (curveF e7.curve))
   else
   if 2000 < (e7.moves.length : Int) then
    some (.ret 2)
   else
   (t_cue_checkMoves e7.moves).bind fun r11 =>
   if ¬ (r11 = 0) then
    some (.ret r11)
   else
   some (.go (IntKind.i64.wrap (s1 + (e7.moves.length : Int)))))) (fun s1 => some s1) 0 (fun b2 =>
  some (if (decide (10000 < b2)) = true then 2 else 0)) (fun b2 =>
  some b2)
theorem h_cue_form {a0 : (List CueD)} {σ : Heap} {r : Int} (h : t_cue_form a0 = some r) : m_cue_form [(sl 11 cCue a0)] σ = some ((AV.int .i64 r), σ) := by
 refine rf_wrap1 (f := r_cue_form) (y0 := (sl 11 cCue a0)) (enc := fun r : Int => (AV.int .i64 r)) (T := t_cue_form a0) (nn_t1 (nn_e (fun _ => rfl) _) rfl) rfl ?_ r h
 unfold r_cue_form t_cue_form
 refine rf_s (AV.int .i64 (a0.length : Int)) (lenS_sl _ _ _) ?_
 refine rf_s (AV.bool (decide (300 < (a0.length : Int)))) rfl ?_
 refine rf_c (p := 300 < (a0.length : Int)) (fun c19 => ?_) (fun c19 => ?_)
 ·exact rf_fin _ (fin_same _ _) ⟨rfl, rfl⟩
 refine rf_s (AV.int .i64 (a0.length : Int)) (lenS_sl _ _ _) ?_
 refine rf_for (B := Int) (R := Int) (fun (i8 : Nat) (s1 : Int) v w3 => v = [(AV.int .i64 0), (AV.int .i64 s1), (AV.int .i64 (i8 : Int))] ∧ σ = w3) (fun (b2 : Int) (q : LS) => ∃ u2 u13, q = ((AX.exit 0), ([u2, (AV.int .i64 b2), u13] : List AV), σ)) (fun (b2 : Int) (q : LS) => ∃ u3 u13, q = (AX.ret, ([(AV.int .i64 b2), u3, u13] : List AV), σ)) ?_ ?_ ⟨rfl, rfl⟩ ?_ ?_
 ·intro hle7 i8 e7 s1 v w3 he7 hI
  obtain ⟨rfl, rfl⟩ := hI
  refine rf_s (AV.bool true) (ix_lt he7) ?_
  refine rf_ct ?_
  refine rf_s (AV.rp (cCue e7)) (ix_for he7) ?_
  refine rf_s (AV.agg (cCue e7)) rfl ?_
  refine rf_s (cCue e7) rfl ?_
  refine rf_s (cCue e7) (sp_cCue _ _ rfl) ?_
  refine rf_s (AV.int .i64 e7.number) rfl ?_
  refine rf_s ((AV.bool (withinB e7.number 1 9999999)), σ) (Within_eq e7.number 1 9999999 σ) ?_
  refine rf_s (AV.bool (!(withinB e7.number 1 9999999))) rfl ?_
  refine rf_cb (c := (!(withinB e7.number 1 9999999))) (fun c18 => ?_) (fun c18 => ?_)
  ·exact rf_ret (rnd_ret (by simp) ⟨_, _, rfl⟩)
  refine rf_s (AV.bool (decide (0 < (i8 : Int)))) rfl ?_
  refine rf_gt (AV.int .i64 e7.number) (fun hg => rfl) ?_
  refine rf_gt (sl 11 cCue a0) (fun hg => rfl) ?_
  refine rf_gt (AV.int .i64 (i8 : Int)) (fun hg => rfl) ?_
  refine rf_gt (AV.int .i64 (IntKind.i64.wrap ((i8 : Int) - 1))) (fun hg => by
    simp only [hg, Bool.true_and, cond_true]; first | done | exact rfl) ?_
  refine rf_gto (ω := CueD) (fun x9 => (AV.rp (cCue x9))) (fun hg x9 hx9 => by
    simp only [hg, Bool.true_and, cond_true]; first | done | exact ix_at hx9) (fun x9 hx9 => ?_)
  refine rf_gt (AV.rp (cCue x9)) (fun hg => by
    simp only [hg, Bool.true_and, cond_true]; first | done | exact rfl) ?_
  refine rf_gt (AV.int .i64 x9.number) (fun hg => by
    simp only [hg, Bool.true_and, cond_true]; first | done | exact rfl) ?_
  refine rf_gt (AV.bool (decide (e7.number ≤ x9.number))) (fun hg => by
    simp only [hg, Bool.true_and, cond_true]; first | done | exact rfl) ?_
  refine rf_s (AV.bool ((decide (0 < (i8 : Int))) && (decide (e7.number ≤ x9.number)))) (pk_and _ _) ?_
  refine rf_cb (c := ((decide (0 < (i8 : Int))) && (decide (e7.number ≤ x9.number)))) (fun c17 => ?_) (fun c17 => ?_)
  ·exact rf_ret (rnd_ret (by simp) ⟨_, _, rfl⟩)
  refine rf_s (AV.str e7.title) rfl ?_
  refine rf_s (AV.bool (decide (¬ (e7.title = (⟨#[]⟩ : ByteArray))))) (aNeZ _ _) ?_
  refine rf_gt (AV.str e7.title) (fun hg => rfl) ?_
  refine rf_gto (ω := Bool) (fun r10 => (AV.bool r10)) (fun hg r10 hr10 => by
    simp only [hg, Bool.true_and, cond_true]; first | done | exact (quiet_of ((tq_of (e := fun r : Bool => ((AV.bool r), σ)) (fun hs => Title_eq e7.title hs σ)) hr10))) (fun r10 hr10 => ?_)
  refine rf_gt (AV.bool (!r10)) (fun hg => by
    simp only [hg, Bool.true_and, cond_true]; first | done | exact rfl) ?_
  refine rf_s (AV.bool ((decide (¬ (e7.title = (⟨#[]⟩ : ByteArray)))) && (!r10))) (pk_and _ _) ?_
  refine rf_cb (c := ((decide (¬ (e7.title = (⟨#[]⟩ : ByteArray)))) && (!r10))) (fun c16 => ?_) (fun c16 => ?_)
  ·exact rf_ret (rnd_ret (by simp) ⟨_, _, rfl⟩)
  refine rf_s (AV.int .i64 e7.delay) rfl ?_
  refine rf_s ((AV.bool ((withinB e7.delay 0 36000000))), σ) (h_cue_isTime (σ := σ) (r := (withinB e7.delay 0 36000000)) rfl) ?_
  refine rf_s (AV.bool (!((withinB e7.delay 0 36000000)))) rfl ?_
  refine rf_gf (AV.int .i64 e7.up) (fun hg => rfl) ?_
  refine rf_gf (AV.bool ((withinB e7.up 0 36000000))) (fun hg => by
    simp only [hg, Bool.true_and, cond_true]; first | done | exact (quiet_of (h_cue_isTime (σ := σ) (r := (withinB e7.up 0 36000000)) rfl))) ?_
  refine rf_gf (AV.bool (!((withinB e7.up 0 36000000)))) (fun hg => by
    simp only [hg, Bool.true_and, cond_true]; first | done | exact rfl) ?_
  refine rf_s (AV.bool ((!((withinB e7.delay 0 36000000))) || (!((withinB e7.up 0 36000000))))) (pk_or _ _) ?_
  refine rf_gf (AV.int .i64 e7.down) (fun hg => rfl) ?_
  refine rf_gf (AV.bool ((withinB e7.down 0 36000000))) (fun hg => by
    simp only [hg, Bool.true_and, cond_true]; first | done | exact (quiet_of (h_cue_isTime (σ := σ) (r := (withinB e7.down 0 36000000)) rfl))) ?_
  refine rf_gf (AV.bool (!((withinB e7.down 0 36000000)))) (fun hg => by
    simp only [hg, Bool.true_and, cond_true]; first | done | exact rfl) ?_
  refine rf_s (AV.bool (((!((withinB e7.delay 0 36000000))) || (!((withinB e7.up 0 36000000)))) || (!((withinB e7.down 0 36000000))))) (pk_or _ _) ?_
  refine rf_gf (AV.int .i64 e7.other) (fun hg => rfl) ?_
  refine rf_gf (AV.bool ((withinB e7.other 0 36000000))) (fun hg => by
    simp only [hg, Bool.true_and, cond_true]; first | done | exact (quiet_of (h_cue_isTime (σ := σ) (r := (withinB e7.other 0 36000000)) rfl))) ?_
  refine rf_gf (AV.bool (!((withinB e7.other 0 36000000)))) (fun hg => by
    simp only [hg, Bool.true_and, cond_true]; first | done | exact rfl) ?_
  refine rf_s (AV.bool ((((!((withinB e7.delay 0 36000000))) || (!((withinB e7.up 0 36000000)))) || (!((withinB e7.down 0 36000000)))) || (!((withinB e7.other 0 36000000))))) (pk_or _ _) ?_
  refine rf_gf (AV.int .i64 e7.follow) (fun hg => rfl) ?_
  refine rf_gf (AV.bool (withinB e7.follow (-1) 36000000)) (fun hg => by
    simp only [hg, Bool.true_and, cond_true]; first | done | exact (quiet_of (Within_eq e7.follow (-1) 36000000 σ))) ?_
  refine rf_gf (AV.bool (!(withinB e7.follow (-1) 36000000))) (fun hg => by
    simp only [hg, Bool.true_and, cond_true]; first | done | exact rfl) ?_
  refine rf_s (AV.bool (((((!((withinB e7.delay 0 36000000))) || (!((withinB e7.up 0 36000000)))) || (!((withinB e7.down 0 36000000)))) || (!((withinB e7.other 0 36000000)))) || (!(withinB e7.follow (-1) 36000000)))) (pk_or _ _) ?_
  refine rf_cb (c := (((((!((withinB e7.delay 0 36000000))) || (!((withinB e7.up 0 36000000)))) || (!((withinB e7.down 0 36000000)))) || (!((withinB e7.other 0 36000000)))) || (!(withinB e7.follow (-1) 36000000)))) (fun c15 => ?_) (fun c15 => ?_)
  ·exact rf_ret (rnd_ret (by simp) ⟨_, _, rfl⟩)
  refine rf_s (AV.agg (cCurve e7.curve)) rfl ?_
  refine rf_s ((AV.int .i64 (curveF e7.curve)), σ) (CheckCurve_eq e7.curve σ) ?_
  refine rf_s (AV.bool (decide (¬ ((curveF e7.curve) = 0)))) (aNe _ _ _) ?_
  refine rf_c (p := ¬ ((curveF e7.curve) = 0)) (fun c14 => ?_) (fun c14 => ?_)
  ·exact rf_ret (rnd_ret (by simp) ⟨_, _, rfl⟩)
  refine rf_s (sl 8 cMove e7.moves) rfl ?_
  refine rf_s (AV.int .i64 (e7.moves.length : Int)) (lenS_sl _ _ _) ?_
  refine rf_s (AV.bool (decide (2000 < (e7.moves.length : Int)))) rfl ?_
  refine rf_c (p := 2000 < (e7.moves.length : Int)) (fun c13 => ?_) (fun c13 => ?_)
  ·exact rf_ret (rnd_ret (by simp) ⟨_, _, rfl⟩)
  refine rf_s (sl 8 cMove e7.moves) rfl ?_
  refine rf_o (fun r11 : Int => ((AV.int .i64 r11), σ)) (fun r11 hr11 => h_cue_checkMoves hr11) (fun r11 hr11 => ?_)
  refine rf_s (AV.bool (decide (¬ (r11 = 0)))) (aNe _ _ _) ?_
  refine rf_c (p := ¬ (r11 = 0)) (fun c12 => ?_) (fun c12 => ?_)
  ·exact rf_ret (rnd_ret (by simp) ⟨_, _, rfl⟩)
  refine rf_s (sl 8 cMove e7.moves) rfl ?_
  refine rf_s (AV.int .i64 (e7.moves.length : Int)) (lenS_sl _ _ _) ?_
  refine rf_s (AV.int .i64 (IntKind.i64.wrap (s1 + (e7.moves.length : Int)))) rfl ?_
  refine rf_s (AV.int .i64 ((i8 + 1 : Nat) : Int)) (ix_inc he7 hle7) ?_
  exact rf_ret (rnd_go ⟨rfl, rfl⟩)
 ·intro hl s1 v w3 hI
  obtain ⟨rfl, rfl⟩ := hI
  refine rf_s (AV.bool false) (ix_end _) ?_
  refine rf_cf ?_
  exact rf_ret ⟨by simp, ⟨_, _, rfl⟩⟩
 ·intro hl b2 q hq
  obtain ⟨u2, u13, rfl⟩ := hq
  refine rf_bt rfl ?_
  refine rf_s (AV.bool (decide (10000 < b2))) rfl ?_
  refine rf_s ((AV.int .i64 (if (decide (10000 < b2)) = true then 2 else 0)), σ) (When_eq (decide (10000 < b2)) 2 σ) ?_
  exact rf_fin _ (fin_same _ _) ⟨rfl, rfl⟩
 ·intro hl b2 q hq
  obtain ⟨u3, u13, rfl⟩ := hq
  refine rf_bf rfl ?_
  refine rf_bt rfl ?_
  exact rf_fin _ (fin_same _ _) ⟨rfl, rfl⟩

end Go.Proofs.Ytphgchakmkankaa

namespace Go.Proofs.Ytphgchakmkankaa
set_option linter.unusedSectionVars false
set_option linter.unusedVariables false
set_option linter.unusedSimpArgs false
section
variable {κ ν : Type} [DecidableEq κ]
end
theorem bind_ite2 {α β : Type} {p : Prop} [Decidable p] (a b : α) (f : α → Option β) : (if p then some a else some b).bind f = f (if p then a else b) := by split <;> rfl
theorem compare_eq (a b : KeyD) : t_cue_compare a b = some (cmpK a b) := by
 unfold t_cue_compare cmpK
 by_cases h : a.unit = b.unit
 ·simp [h]
 ·by_cases h2 : a.unit < b.unit <;> simp [h, h2]
theorem guard_cmp (c : Bool) (a b : KeyD) : (c && decide (0 ≤ (if c = true then cmpK a b else (default : Int)))) = (c && !ltK a b) := by
 cases c
 ·rfl
 ·simp only [if_true, Bool.true_and]; exact cmpK_ge a b
theorem guard_title (s : ByteArray) : (decide (¬ (s = (⟨#[]⟩ : ByteArray))) && !(if decide (¬ (s = (⟨#[]⟩ : ByteArray))) = true then titleB s else (default : Bool))) = !blankB s := by
 unfold blankB
 by_cases h : s = ⟨#[]⟩ <;> simp [h]
def moveF (l : List MoveD) (i : Nat) (m : MoveD) : Int :=
 if (!(withinB m.key.unit 1 9999)) = true then 1
 else if (!(nameB m.key.param)) = true then 5
 else if ((m.release && (decide (¬ (m.value = (⟨0, 0⟩ : ValueD))))) || ((decide (¬ (m.value.level = 0))) && (decide (¬ (m.value.preset = 0))))) = true then 3
 else if ((!(withinB m.value.level 0 65535)) || (!(withinB m.value.preset 0 999))) = true then 1
 else if ((!m.timed) && ((decide (¬ (m.delay = 0))) || (decide (¬ (m.time = 0))))) = true then 3
 else if ((!(withinB m.delay 0 36000000)) || (!(withinB m.time 0 36000000))) = true then 1
 else if (decide (0 < (i : Int)) && !ltK (pv l i).key m.key) = true then 7 else 0
def movesF (l : List MoveD) : Int := chkE (moveF l) l 0
theorem checkMoves_t (l : List MoveD) (hl : okL okMove l) : t_cue_checkMoves l = some (movesF l) := by
 unfold t_cue_checkMoves movesF
 rw [forE_chk (f := moveF l) hl.1 ?_]
 ·split
  ·rename_i h; rw [h]
  ·rfl
 intro i m hm
 have hmm := hl.2 m (List.mem_of_getElem? hm)
 simp only [prev_at hm hl.1, Option.bind_some, tq_pos hmm.1.2, compare_eq, bind_ite2, guard_cmp]
 unfold moveF
 repeat first | exact go_ret | refine ite_ret (by decide) ?_
def cueF (l : List CueD) (i : Nat) (c : CueD) : Int :=
 if (!(withinB c.number 1 9999999)) = true then 1
 else if (decide (0 < (i : Int)) && decide (c.number ≤ (pv l i).number)) = true then 7
 else if (!(blankB c.title)) = true then 3
 else if (((((!(withinB c.delay 0 36000000)) || (!(withinB c.up 0 36000000))) || (!(withinB c.down 0 36000000))) || (!(withinB c.other 0 36000000))) || (!(withinB c.follow (-1) 36000000))) = true then 1
 else if ¬ (curveF c.curve = 0) then curveF c.curve
 else if 2000 < (c.moves.length : Int) then 2
 else movesF c.moves
def manyF (l : List CueD) : Int := l.foldl (fun s c => IntKind.i64.wrap (s + (c.moves.length : Int))) 0
def formF (l : List CueD) : Int :=
 if 300 < (l.length : Int) then 2 else if ¬ (chkE (cueF l) l 0 = 0) then chkE (cueF l) l 0 else if 10000 < manyF l then 2 else 0
theorem forE_chkS {α γ S B : Type} {f : Nat → α → Int} {g : S → α → S} {l : List α} {body : Nat → α → S → Option (Lr S B Int)} {fin : S → Option B} {s : S} {K1 : B → Option γ} {K2 : Int → Option γ} (hl : l.length ≤ mxl) (hb : ∀ i x s, l[i]? = some x → body i x s = some (if f i x = 0 then .go (g s x) else .ret (f i x))) : forE l body fin s K1 K2 = if chkE f l 0 = 0 then (fin (l.foldl g s)).bind K1 else K2 (chkE f l 0) := by
 rw [forE_le hl]
 have key : ∀ (rest pre : List α) (s : S), l = pre ++ rest → forL body fin rest pre.length s = if chkE f rest pre.length = 0 then (fin (rest.foldl g s)).map .inl else some (.inr (chkE f rest pre.length)) := by
  intro rest
  induction rest with
  | nil => intro pre s _; simp [forL, chkE]
  | cons x rest ih =>
   intro pre s hp
   rw [forL, hb pre.length x s (by rw [hp]; simp), Option.bind_some, chkE]
   by_cases h : f pre.length x = 0
   ·simp only [h, if_true]
    have := ih (pre ++ [x]) (g s x) (by simpa using hp)
    simpa using this
   ·simp only [h, if_false]
 have k := key l [] s rfl
 rw [List.length_nil] at k
 rw [k]
 split
 ·cases fin (l.foldl g s) <;> rfl
 ·rfl
theorem ite_retS {S B : Type} {p : Prop} [Decidable p] {k f : Int} {t : S} {Y : Option (Lr S B Int)} (hk : k ≠ 0) (h : Y = some (if f = 0 then .go t else .ret f)) : (if p then some (.ret k) else Y) = some (if (if p then k else f) = 0 then .go t else .ret (if p then k else f)) := by
 by_cases hp : p
 ·simp [hp, hk]
 ·simp [hp, h]
theorem ite_retvS {S B : Type} {k f : Int} {t : S} {Y : Option (Lr S B Int)} (h : Y = some (if f = 0 then .go t else .ret f)) : (if ¬ (k = 0) then some (.ret k) else Y) = some (if (if ¬ (k = 0) then k else f) = 0 then .go t else .ret (if ¬ (k = 0) then k else f)) := by
 by_cases hp : k = 0
 ·simp [hp, h]
 ·simp [hp]
theorem ite_lastS {S B : Type} {k : Int} {t : S} : (if ¬ (k = 0) then some (.ret k) else some (.go t) : Option (Lr S B Int)) = some (if k = 0 then .go t else .ret k) := by
 by_cases hp : k = 0 <;> simp [hp]
theorem form_t (l : List CueD) (hl : okL okCue l) : t_cue_form l = some (formF l) := by
 unfold t_cue_form formF
 split
 ·rfl
 rw [forE_chkS (f := cueF l) (g := fun s c => IntKind.i64.wrap (s + (c.moves.length : Int))) hl.1 ?_]
 ·show (if chkE (cueF l) l 0 = 0 then some (if decide (10000 < manyF l) = true then (2 : Int) else 0) else some (chkE (cueF l) l 0)) = _
  by_cases h : chkE (cueF l) l 0 = 0
  ·by_cases h2 : 10000 < manyF l <;> simp [h, h2]
  ·simp [h]
 intro i c s hc
 obtain ⟨_, ht, _, _, _, _, _, _, hm⟩ := hl.2 c (List.mem_of_getElem? hc)
 simp only [prev_at hc hl.1, Option.bind_some, tq_pos ht, checkMoves_t _ hm, bind_ite2, guard_title]
 unfold cueF
 repeat first | exact ite_lastS | refine ite_retS (by decide) ?_ | refine ite_retvS ?_
end Go.Proofs.Ytphgchakmkankaa

namespace Go.Proofs.Ytphgchakmkankaa
set_option linter.unusedSectionVars false
set_option linter.unusedVariables false
set_option linter.unusedSimpArgs false
set_option maxRecDepth 100000
noncomputable def t_cue_place_fn1 (a0 : CueD) (a1 : Int) : Option Int :=
 some (IntKind.i64.wrap (a0.number - a1))
theorem h_cue_place_fn1 {a0 : CueD} { a1 : Int} {σ : Heap} {r : Int} (h : t_cue_place_fn1 a0 a1 = some r) : m_cue_place_fn1 [(AV.agg (cCue a0)), (AV.int .i64 a1)] σ = some ((AV.int .i64 r), σ) := by
 refine rf_wrap2 (f := r_cue_place_fn1) (y0 := (AV.agg (cCue a0))) (y1 := (AV.int .i64 a1)) (enc := fun r : Int => (AV.int .i64 r)) (T := t_cue_place_fn1 a0 a1) (nn_t1 (nn_a rfl) rfl) rfl ?_ r h
 unfold r_cue_place_fn1 t_cue_place_fn1
 refine rf_s (cCue a0) rfl ?_
 refine rf_s (AV.int .i64 a0.number) rfl ?_
 refine rf_s (AV.int .i64 (IntKind.i64.wrap (a0.number - a1))) rfl ?_
 exact rf_fin _ (fin_same _ _) ⟨rfl, rfl⟩

noncomputable def t_cue_wayFault (a0 : Int) : Option Int :=
 some (if ((decide (¬ (a0 = 1))) && (decide (¬ (a0 = 2)))) = true then 4 else 0)
theorem h_cue_wayFault {a0 : Int} {σ : Heap} {r : Int} (h : t_cue_wayFault a0 = some r) : m_cue_wayFault [(AV.int .i64 a0)] σ = some ((AV.int .i64 r), σ) := by
 refine rf_wrap1 (f := r_cue_wayFault) (y0 := (AV.int .i64 a0)) (enc := fun r : Int => (AV.int .i64 r)) (T := t_cue_wayFault a0) rfl rfl ?_ r h
 unfold r_cue_wayFault t_cue_wayFault
 refine rf_s (AV.bool (decide (¬ (a0 = 1)))) (aNe _ _ _) ?_
 refine rf_gt (AV.int .i64 a0) (fun hg => rfl) ?_
 refine rf_gt (AV.bool (decide (¬ (a0 = 2)))) (fun hg => by
   simp only [hg, Bool.true_and, cond_true]; first | done | exact (aNe _ _ _)) ?_
 refine rf_s (AV.bool ((decide (¬ (a0 = 1))) && (decide (¬ (a0 = 2))))) (pk_and _ _) ?_
 refine rf_s ((AV.int .i64 (if ((decide (¬ (a0 = 1))) && (decide (¬ (a0 = 2)))) = true then 4 else 0)), σ) (When_eq ((decide (¬ (a0 = 1))) && (decide (¬ (a0 = 2)))) 4 σ) ?_
 exact rf_fin _ (fin_same _ _) ⟨rfl, rfl⟩

noncomputable def t_cue_numberFault (a0 : Int) : Option Int :=
 some (if (!(withinB a0 1 9999999)) = true then 1 else 0)
theorem h_cue_numberFault {a0 : Int} {σ : Heap} {r : Int} (h : t_cue_numberFault a0 = some r) : m_cue_numberFault [(AV.int .i64 a0)] σ = some ((AV.int .i64 r), σ) := by
 refine rf_wrap1 (f := r_cue_numberFault) (y0 := (AV.int .i64 a0)) (enc := fun r : Int => (AV.int .i64 r)) (T := t_cue_numberFault a0) rfl rfl ?_ r h
 unfold r_cue_numberFault t_cue_numberFault
 refine rf_s ((AV.bool (withinB a0 1 9999999)), σ) (Within_eq a0 1 9999999 σ) ?_
 refine rf_s (AV.bool (!(withinB a0 1 9999999))) rfl ?_
 refine rf_s ((AV.int .i64 (if (!(withinB a0 1 9999999)) = true then 1 else 0)), σ) (When_eq (!(withinB a0 1 9999999)) 1 σ) ?_
 exact rf_fin _ (fin_same _ _) ⟨rfl, rfl⟩

noncomputable def t_cue_blocked (a0 : (List CueD)) (a1 : Int) : Option Int :=
 whE (fun (s1 : Int) => (show Option (Lr Int Unit Int) from
   if s1 < (a0.length : Int) then
    (tIx a0 s1).bind fun x7 =>
    if x7.block = true then
     some (.ret s1)
    else
    some (.go (IntKind.i64.wrap (s1 + 1)))
   else
   some (.brk ()))) a1 (fun b2 =>
  some (-1)) (fun b2 =>
  some b2)
theorem h_cue_blocked {a0 : (List CueD)} { a1 : Int} {σ : Heap} {r : Int} (h : t_cue_blocked a0 a1 = some r) : m_cue_blocked [(sl 11 cCue a0), (AV.int .i64 a1)] σ = some ((AV.int .i64 r), σ) := by
 refine rf_wrap2 (f := r_cue_blocked) (y0 := (sl 11 cCue a0)) (y1 := (AV.int .i64 a1)) (enc := fun r : Int => (AV.int .i64 r)) (T := t_cue_blocked a0 a1) (nn_t1 (nn_e (fun _ => rfl) _) rfl) rfl ?_ r h
 unfold r_cue_blocked t_cue_blocked
 refine rf_wh (B := Unit) (R := Int) (fun (s1 : Int) v w3 => v = [(AV.int .i64 0), (AV.int .i64 s1)] ∧ σ = w3) (fun (b2 : Unit) (q : LS) => ∃ u4 u5, q = ((AX.exit 0), ([u4, u5] : List AV), σ)) (fun (b2 : Int) (q : LS) => ∃ u5, q = (AX.ret, ([(AV.int .i64 b2), u5] : List AV), σ)) ?_ ⟨rfl, rfl⟩ ?_ ?_
 ·intro s1 v w3 hI
  obtain ⟨rfl, rfl⟩ := hI
  refine rf_s (AV.int .i64 (a0.length : Int)) (lenS_sl _ _ _) ?_
  refine rf_s (AV.bool (decide (s1 < (a0.length : Int)))) rfl ?_
  refine rf_c (p := s1 < (a0.length : Int)) (fun c9 => ?_) (fun c9 => ?_)
  ·refine rf_o (fun x7 : CueD => (AV.rp (cCue x7))) (fun x7 hx7 => ix_at hx7) (fun x7 hx7 => ?_)
   refine rf_s (AV.rp (List.drop 8 (cCue x7))) rfl ?_
   refine rf_s (AV.bool x7.block) rfl ?_
   refine rf_cb (c := x7.block) (fun c8 => ?_) (fun c8 => ?_)
   ·exact rf_ret (rnd_ret (by simp) ⟨_, rfl⟩)
   refine rf_s (AV.int .i64 (IntKind.i64.wrap (s1 + 1))) rfl ?_
   exact rf_ret (rnd_go ⟨rfl, rfl⟩)
  exact rf_ret (rnd_brk (by simp) ⟨_, _, rfl⟩)
 ·intro b2 q hq
  obtain ⟨u4, u5, rfl⟩ := hq
  refine rf_bt rfl ?_
  exact rf_fin _ (fin_same _ _) ⟨rfl, rfl⟩
 ·intro b2 q hq
  obtain ⟨u5, rfl⟩ := hq
  refine rf_bf rfl ?_
  refine rf_bt rfl ?_
  exact rf_fin _ (fin_same _ _) ⟨rfl, rfl⟩

noncomputable def t_cue_moveAt_fn1 (a0 : MoveD) (a1 : KeyD) : Option Int :=
 (t_cue_compare a0.key a1).bind fun r1 =>
 some r1
theorem h_cue_moveAt_fn1 {a0 : MoveD} { a1 : KeyD} {σ : Heap} {r : Int} (h : t_cue_moveAt_fn1 a0 a1 = some r) : m_cue_moveAt_fn1 [(AV.agg (cMove a0)), (AV.agg (cKey a1))] σ = some ((AV.int .i64 r), σ) := by
 refine rf_wrap2 (f := r_cue_moveAt_fn1) (y0 := (AV.agg (cMove a0))) (y1 := (AV.agg (cKey a1))) (enc := fun r : Int => (AV.int .i64 r)) (T := t_cue_moveAt_fn1 a0 a1) rfl rfl ?_ r h
 unfold r_cue_moveAt_fn1 t_cue_moveAt_fn1
 refine rf_s (cMove a0) rfl ?_
 refine rf_s (cKey a1) rfl ?_
 refine rf_s (AV.agg (cKey a0.key)) rfl ?_
 refine rf_s (AV.agg (cKey a1)) rfl ?_
 refine rf_o (fun r1 : Int => ((AV.int .i64 r1), σ)) (fun r1 hr1 => h_cue_compare hr1) (fun r1 hr1 => ?_)
 exact rf_fin _ (fin_same _ _) ⟨rfl, rfl⟩

noncomputable def t_cue_state (a0 : (List CueD)) : Option (List (KeyD × EntryD)) :=
 forE a0 (fun (i10 : Nat) e9 (s3 : (List (KeyD × EntryD))) => (show Option (Lr (List (KeyD × EntryD)) (List (KeyD × EntryD)) Unit) from
   forE e9.moves (fun (i18 : Nat) e17 (s11 : (List (KeyD × EntryD))) => (show Option (Lr (List (KeyD × EntryD)) (List (KeyD × EntryD)) Unit) from
     (show Option (List (KeyD × EntryD)) from
       if e17.release = true then
        some (tdel e17.key s11)
       else
       some (tupd e17.key (⟨(⟨e17.key.unit, e17.key.param⟩ : KeyD), (⟨e17.value.level, e17.value.preset⟩ : ValueD), e9.number⟩ : EntryD) s11)).bind fun j26 =>
     some (.go j26))) (fun s11 => some s11) s3 (fun b12 =>
    some (.go b12)) (fun b12 =>
    none))) (fun s3 => some s3) ([] : List (KeyD × EntryD)) (fun b4 =>
  some b4) (fun b4 =>
  none)
theorem h_cue_state {a0 : (List CueD)} {σ : Heap} {r : (List (KeyD × EntryD))} (h : t_cue_state a0 = some r) : m_cue_state [(sl 11 cCue a0)] σ = some ((fmE (fun x => (AV.agg (cKey x))) (fun x => (AV.agg (cEntry x))) r), σ) := by
 refine rf_wrap1 (f := r_cue_state) (y0 := (sl 11 cCue a0)) (enc := fun r : (List (KeyD × EntryD)) => (fmE (fun x => (AV.agg (cKey x))) (fun x => (AV.agg (cEntry x))) r)) (T := t_cue_state a0) (nn_t1 (nn_e (fun _ => rfl) _) rfl) rfl ?_ r h
 unfold r_cue_state t_cue_state
 have hp1 : Hp σ σ [] := hp_nil σ
 have hp2 : Hp σ (σ ++ [Blk.map []]) [((AV.om σ.length), (Ct.m (List.map (fun p => ((fun x => (AV.agg (cKey x))) p.1, (fun x => (AV.agg (cEntry x))) p.2)) ([] : List (KeyD × EntryD)))))] := hp_om hp1
 refine rf_s (AV.int .i64 (a0.length : Int)) (lenS_sl _ _ _) ?_
 refine rf_for (B := (List (KeyD × EntryD))) (R := Unit) (fun (i10 : Nat) (s3 : (List (KeyD × EntryD))) v w5 => v = [(AV.int .i64 (i10 : Int))] ∧ Hp σ w5 [((AV.om σ.length), (Ct.m (List.map (fun p => ((fun x => (AV.agg (cKey x))) p.1, (fun x => (AV.agg (cEntry x))) p.2)) s3)))]) (fun (b4 : (List (KeyD × EntryD))) (q : LS) => ∃ u11 w6, q = ((AX.exit 0), ([u11] : List AV), w6) ∧ Hp σ w6 [((AV.om σ.length), (Ct.m (List.map (fun p => ((fun x => (AV.agg (cKey x))) p.1, (fun x => (AV.agg (cEntry x))) p.2)) b4)))]) (fun (b4 : Unit) (q : LS) => False) ?_ ?_ ⟨rfl, hp2⟩ ?_ ?_
 ·intro hle9 i10 e9 s3 v w5 he9 hI
  obtain ⟨rfl, hp7⟩ := hI
  refine rf_s (AV.bool true) (ix_lt he9) ?_
  refine rf_ct ?_
  refine rf_s (AV.rp (cCue e9)) (ix_for he9) ?_
  refine rf_s (AV.agg (cCue e9)) rfl ?_
  refine rf_s (cCue e9) rfl ?_
  refine rf_s (cCue e9) (sp_cCue _ _ rfl) ?_
  refine rf_s (sl 8 cMove e9.moves) rfl ?_
  refine rf_s (AV.int .i64 (e9.moves.length : Int)) (lenS_sl _ _ _) ?_
  refine rf_for (B := (List (KeyD × EntryD))) (R := Unit) (fun (i18 : Nat) (s11 : (List (KeyD × EntryD))) v w13 => v = [(AV.lbx (cCue e9)), (AV.int .i64 (i18 : Int))] ∧ Hp σ w13 [((AV.om σ.length), (Ct.m (List.map (fun p => ((fun x => (AV.agg (cKey x))) p.1, (fun x => (AV.agg (cEntry x))) p.2)) s11)))]) (fun (b12 : (List (KeyD × EntryD))) (q : LS) => ∃ u5 u18 w14, q = ((AX.exit 2), ([u5, u18] : List AV), w14) ∧ Hp σ w14 [((AV.om σ.length), (Ct.m (List.map (fun p => ((fun x => (AV.agg (cKey x))) p.1, (fun x => (AV.agg (cEntry x))) p.2)) b12)))]) (fun (b12 : Unit) (q : LS) => False) ?_ ?_ ⟨rfl, hp7⟩ ?_ ?_
  ·intro hle17 i18 e17 s11 v w13 he17 hI
   obtain ⟨rfl, hp15⟩ := hI
   refine rf_s (AV.bool true) (ix_lt he17) ?_
   refine rf_ct ?_
   refine rf_s (AV.rp (cMove e17)) (ix_for he17) ?_
   refine rf_s (AV.agg (cMove e17)) rfl ?_
   refine rf_s (cMove e17) rfl ?_
   refine rf_s (cMove e17) (sp_cMove _ _ rfl) ?_
   refine rf_s (AV.bool e17.release) rfl ?_
   refine rf_b (ω := (List (KeyD × EntryD))) (fun j26 a => ∃ w27, a = (([(AV.lbx (cCue e9))] : List AV), w27) ∧ Hp σ w27 [((AV.om σ.length), (Ct.m (List.map (fun p => ((fun x => (AV.agg (cKey x))) p.1, (fun x => (AV.agg (cEntry x))) p.2)) j26)))]) (
     by
      refine rf_cb (c := e17.release) (fun c25 => ?_) (fun c25 => ?_)
      ·refine rf_s (AV.agg (cKey e17.key)) rfl ?_
       obtain ⟨w19, e21, hp20⟩ := hp_delT (ek := (.s [0, 2])) (eK := (fun x => (AV.agg (cKey x)))) (eV := (fun x => (AV.agg (cEntry x)))) hp15 0 rfl eqk_Key e17.key rfl
       change Hp σ w19 [((AV.om σ.length), (Ct.m (List.map (fun p => ((fun x => (AV.agg (cKey x))) p.1, (fun x => (AV.agg (cEntry x))) p.2)) (tdel e17.key s11))))] at hp20
       refine rf_s w19 e21 ?_
       exact rf_ret ⟨_, rfl, hp20⟩
      refine rf_s (AV.agg (cKey e17.key)) rfl ?_
      refine rf_s (AV.agg (cKey e17.key)) rfl ?_
      refine rf_s (AV.agg (cValue e17.value)) rfl ?_
      refine rf_s _ rfl ?_
      refine rf_s (AV.int .i64 e9.number) rfl ?_
      refine rf_s (AV.agg (cEntry (⟨(⟨e17.key.unit, e17.key.param⟩ : KeyD), (⟨e17.value.level, e17.value.preset⟩ : ValueD), e9.number⟩ : EntryD))) rfl ?_
      obtain ⟨w22, e24, hp23⟩ := hp_updT (ek := (.s [0, 2])) (eK := (fun x => (AV.agg (cKey x)))) (eV := (fun x => (AV.agg (cEntry x)))) hp15 0 rfl eqk_Key e17.key (⟨(⟨e17.key.unit, e17.key.param⟩ : KeyD), (⟨e17.value.level, e17.value.preset⟩ : ValueD), e9.number⟩ : EntryD) rfl
      change Hp σ w22 [((AV.om σ.length), (Ct.m (List.map (fun p => ((fun x => (AV.agg (cKey x))) p.1, (fun x => (AV.agg (cEntry x))) p.2)) (tupd e17.key (⟨(⟨e17.key.unit, e17.key.param⟩ : KeyD), (⟨e17.value.level, e17.value.preset⟩ : ValueD), e9.number⟩ : EntryD) s11))))] at hp23
      refine rf_s w22 e24 ?_
      exact rf_ret ⟨_, rfl, hp23⟩
     ) (fun j26 a ha => ?_)
   obtain ⟨w27, rfl, hp28⟩ := ha
   refine rf_s (AV.int .i64 ((i18 + 1 : Nat) : Int)) (ix_inc he17 hle17) ?_
   exact rf_ret (rnd_go ⟨rfl, hp28⟩)
  ·intro hl s11 v w13 hI
   obtain ⟨rfl, hp15⟩ := hI
   refine rf_s (AV.bool false) (ix_end _) ?_
   refine rf_cf ?_
   exact rf_ret ⟨by simp, ⟨_, _, _, rfl, hp15⟩⟩
  ·intro hl b12 q hq
   obtain ⟨u5, u18, w14, rfl, hp16⟩ := hq
   refine rf_bt rfl ?_
   refine rf_s (AV.int .i64 ((i10 + 1 : Nat) : Int)) (ix_inc he9 hle9) ?_
   exact rf_ret (rnd_go ⟨rfl, hp16⟩)
  ·intro hl b12 q hq
   exact False.elim hq
 ·intro hl s3 v w5 hI
  obtain ⟨rfl, hp7⟩ := hI
  refine rf_s (AV.bool false) (ix_end _) ?_
  refine rf_cf ?_
  exact rf_ret ⟨by simp, ⟨_, _, rfl, hp7⟩⟩
 ·intro hl b4 q hq
  obtain ⟨u11, w6, rfl, hp8⟩ := hq
  refine rf_bt rfl ?_
  exact rf_fin _ (hp_fin hp8 (fzv_om hp8 (k := 0) rfl (by intro p hp; obtain ⟨x, _, rfl⟩ := List.mem_map.1 hp; exact ⟨(fz_agg (fz_cKey _)), (fz_agg (fz_cEntry _))⟩))) ⟨rfl, rfl⟩
 ·intro hl b4 q hq
  exact False.elim hq

noncomputable def t_cue_move (a0 : (List (KeyD × EntryD))) (a1 : KeyD) : Option MoveD :=
 some (⟨(⟨a1.unit, a1.param⟩ : KeyD), (⟨(((tfind a1 a0).getD (⟨(⟨0, (⟨#[]⟩ : ByteArray)⟩ : KeyD), (⟨0, 0⟩ : ValueD), 0⟩ : EntryD)).value).level, (((tfind a1 a0).getD (⟨(⟨0, (⟨#[]⟩ : ByteArray)⟩ : KeyD), (⟨0, 0⟩ : ValueD), 0⟩ : EntryD)).value).preset⟩ : ValueD), (!((tfind a1 a0).isSome)), false, 0, 0⟩ : MoveD)
theorem h_cue_move {a0 : (List (KeyD × EntryD))} { a1 : KeyD} {σ : Heap} {r : MoveD} (h : t_cue_move a0 a1 = some r) : m_cue_move [(fmE (fun x => (AV.agg (cKey x))) (fun x => (AV.agg (cEntry x))) a0), (AV.agg (cKey a1))] σ = some ((AV.agg (cMove r)), σ) := by
 refine rf_wrap2 (f := r_cue_move) (y0 := (fmE (fun x => (AV.agg (cKey x))) (fun x => (AV.agg (cEntry x))) a0)) (y1 := (AV.agg (cKey a1))) (enc := fun r : MoveD => (AV.agg (cMove r))) (T := t_cue_move a0 a1) rfl rfl ?_ r h
 unfold r_cue_move t_cue_move
 refine rf_s (cKey a1) rfl ?_
 refine rf_s (AV.agg (cKey a1)) rfl ?_
 refine rf_s (AV.tup [(AV.agg (cEntry ((tfind a1 a0).getD (⟨(⟨0, (⟨#[]⟩ : ByteArray)⟩ : KeyD), (⟨0, 0⟩ : ValueD), 0⟩ : EntryD)))), (AV.bool (tfind a1 a0).isSome)]) (fm_lookOkT (ek := (.s [0, 2])) (eK := (fun x => (AV.agg (cKey x)))) (eV := (fun x => (AV.agg (cEntry x)))) eqk_Key a1 (⟨(⟨0, (⟨#[]⟩ : ByteArray)⟩ : KeyD), (⟨0, 0⟩ : ValueD), 0⟩ : EntryD) rfl) ?_
 refine rf_s (AV.agg (cEntry ((tfind a1 a0).getD (⟨(⟨0, (⟨#[]⟩ : ByteArray)⟩ : KeyD), (⟨0, 0⟩ : ValueD), 0⟩ : EntryD)))) rfl ?_
 refine rf_s (AV.bool (tfind a1 a0).isSome) rfl ?_
 refine rf_s (cEntry ((tfind a1 a0).getD (⟨(⟨0, (⟨#[]⟩ : ByteArray)⟩ : KeyD), (⟨0, 0⟩ : ValueD), 0⟩ : EntryD))) rfl ?_
 refine rf_s (cEntry ((tfind a1 a0).getD (⟨(⟨0, (⟨#[]⟩ : ByteArray)⟩ : KeyD), (⟨0, 0⟩ : ValueD), 0⟩ : EntryD))) (sp_cEntry _ _ rfl) ?_
 refine rf_s (AV.agg (cKey a1)) rfl ?_
 refine rf_s (AV.agg (cValue (((tfind a1 a0).getD (⟨(⟨0, (⟨#[]⟩ : ByteArray)⟩ : KeyD), (⟨0, 0⟩ : ValueD), 0⟩ : EntryD)).value))) rfl ?_
 refine rf_s (AV.bool (!((tfind a1 a0).isSome))) rfl ?_
 refine rf_s (AV.agg (cMove (⟨(⟨a1.unit, a1.param⟩ : KeyD), (⟨(((tfind a1 a0).getD (⟨(⟨0, (⟨#[]⟩ : ByteArray)⟩ : KeyD), (⟨0, 0⟩ : ValueD), 0⟩ : EntryD)).value).level, (((tfind a1 a0).getD (⟨(⟨0, (⟨#[]⟩ : ByteArray)⟩ : KeyD), (⟨0, 0⟩ : ValueD), 0⟩ : EntryD)).value).preset⟩ : ValueD), (!((tfind a1 a0).isSome)), false, 0, 0⟩ : MoveD))) rfl ?_
 refine rf_s (cMove (⟨(⟨a1.unit, a1.param⟩ : KeyD), (⟨(((tfind a1 a0).getD (⟨(⟨0, (⟨#[]⟩ : ByteArray)⟩ : KeyD), (⟨0, 0⟩ : ValueD), 0⟩ : EntryD)).value).level, (((tfind a1 a0).getD (⟨(⟨0, (⟨#[]⟩ : ByteArray)⟩ : KeyD), (⟨0, 0⟩ : ValueD), 0⟩ : EntryD)).value).preset⟩ : ValueD), (!((tfind a1 a0).isSome)), false, 0, 0⟩ : MoveD)) rfl ?_
 refine rf_s (cMove (⟨(⟨a1.unit, a1.param⟩ : KeyD), (⟨(((tfind a1 a0).getD (⟨(⟨0, (⟨#[]⟩ : ByteArray)⟩ : KeyD), (⟨0, 0⟩ : ValueD), 0⟩ : EntryD)).value).level, (((tfind a1 a0).getD (⟨(⟨0, (⟨#[]⟩ : ByteArray)⟩ : KeyD), (⟨0, 0⟩ : ValueD), 0⟩ : EntryD)).value).preset⟩ : ValueD), (!((tfind a1 a0).isSome)), false, 0, 0⟩ : MoveD)) (sp_cMove _ _ rfl) ?_
 refine rf_s (AV.agg (cMove (⟨(⟨a1.unit, a1.param⟩ : KeyD), (⟨(((tfind a1 a0).getD (⟨(⟨0, (⟨#[]⟩ : ByteArray)⟩ : KeyD), (⟨0, 0⟩ : ValueD), 0⟩ : EntryD)).value).level, (((tfind a1 a0).getD (⟨(⟨0, (⟨#[]⟩ : ByteArray)⟩ : KeyD), (⟨0, 0⟩ : ValueD), 0⟩ : EntryD)).value).preset⟩ : ValueD), (!((tfind a1 a0).isSome)), false, 0, 0⟩ : MoveD))) rfl ?_
 exact rf_fin _ (fin_same _ _) ⟨rfl, rfl⟩

noncomputable def t_slices_Equal_api_Entry (a0 : (List EntryD)) (a1 : (List EntryD)) : Option Bool :=
 if ¬ ((a0.length : Int) = (a1.length : Int)) then
  some false
 else
 forE a0 (fun (i8 : Nat) e7 (s1 : Unit) => (show Option (Lr Unit Unit Unit) from
   (tIx a1 (i8 : Int)).bind fun x9 =>
   if ¬ (e7 = x9) then
    some (.ret ())
   else
   some (.go ()))) (fun s1 => some ()) () (fun b2 =>
  some true) (fun b2 =>
  some false)
theorem h_slices_Equal_api_Entry {a0 : (List EntryD)} { a1 : (List EntryD)} {σ : Heap} {r : Bool} (h : t_slices_Equal_api_Entry a0 a1 = some r) : m_slices_Equal_api_Entry [(sl 5 cEntry a0), (sl 5 cEntry a1)] σ = some ((AV.bool r), σ) := by
 refine rf_wrap2 (f := r_slices_Equal_api_Entry) (y0 := (sl 5 cEntry a0)) (y1 := (sl 5 cEntry a1)) (enc := fun r : Bool => (AV.bool r)) (T := t_slices_Equal_api_Entry a0 a1) rfl rfl ?_ r h
 unfold r_slices_Equal_api_Entry t_slices_Equal_api_Entry
 refine rf_s (AV.int .i64 (a0.length : Int)) (lenS_sl _ _ _) ?_
 refine rf_s (AV.int .i64 (a1.length : Int)) (lenS_sl _ _ _) ?_
 refine rf_s (AV.bool (decide (¬ ((a0.length : Int) = (a1.length : Int))))) (aNe _ _ _) ?_
 refine rf_c (p := ¬ ((a0.length : Int) = (a1.length : Int))) (fun c11 => ?_) (fun c11 => ?_)
 ·exact rf_fin _ (fin_same _ _) ⟨rfl, rfl⟩
 refine rf_s (AV.int .i64 (a0.length : Int)) (lenS_sl _ _ _) ?_
 refine rf_for (B := Unit) (R := Unit) (fun (i8 : Nat) (s1 : Unit) v w3 => v = [(AV.bool false), (AV.int .i64 (i8 : Int))] ∧ σ = w3) (fun (b2 : Unit) (q : LS) => ∃ u4 u13, q = ((AX.exit 0), ([u4, u13] : List AV), σ)) (fun (b2 : Unit) (q : LS) => ∃ u13, q = (AX.ret, ([(AV.bool false), u13] : List AV), σ)) ?_ ?_ ⟨rfl, rfl⟩ ?_ ?_
 ·intro hle7 i8 e7 s1 v w3 he7 hI
  obtain ⟨rfl, rfl⟩ := hI
  refine rf_s (AV.bool true) (ix_lt he7) ?_
  refine rf_ct ?_
  refine rf_s (AV.rp (cEntry e7)) (ix_for he7) ?_
  refine rf_s (AV.agg (cEntry e7)) rfl ?_
  refine rf_o (fun x9 : EntryD => (AV.rp (cEntry x9))) (fun x9 hx9 => ix_at hx9) (fun x9 hx9 => ?_)
  refine rf_s (AV.agg (cEntry x9)) rfl ?_
  refine rf_s (AV.bool (decide (¬ (e7 = x9)))) (ne_Entry _ _) ?_
  refine rf_c (p := ¬ (e7 = x9)) (fun c10 => ?_) (fun c10 => ?_)
  ·exact rf_ret (rnd_ret (by simp) ⟨_, rfl⟩)
  refine rf_s (AV.int .i64 ((i8 + 1 : Nat) : Int)) (ix_inc he7 hle7) ?_
  exact rf_ret (rnd_go ⟨rfl, rfl⟩)
 ·intro hl s1 v w3 hI
  obtain ⟨rfl, rfl⟩ := hI
  refine rf_s (AV.bool false) (ix_end _) ?_
  refine rf_cf ?_
  exact rf_ret ⟨by simp, ⟨_, _, rfl⟩⟩
 ·intro hl b2 q hq
  obtain ⟨u4, u13, rfl⟩ := hq
  refine rf_bt rfl ?_
  exact rf_fin _ (fin_same _ _) ⟨rfl, rfl⟩
 ·intro hl b2 q hq
  obtain ⟨u13, rfl⟩ := hq
  refine rf_bf rfl ?_
  refine rf_bt rfl ?_
  exact rf_fin _ (fin_same _ _) ⟨rfl, rfl⟩

end Go.Proofs.Ytphgchakmkankaa

namespace Go.Proofs.Ytphgchakmkankaa
set_option linter.unusedSectionVars false
set_option linter.unusedVariables false
set_option linter.unusedSimpArgs false
theorem half_nn {i j : Nat} (h : i + j < 9223372036854775808) : A.shr (.int .u64 ((i + j : Nat) : Int)) (.int .u64 1) = some (.int .u64 (((i + j) / 2 : Nat) : Int)) := by
 simp only [A.shr]
 rw [if_neg (by decide)]
 congr 2
 rw [show (2 : Int) ^ (min (Int.toNat 1) IntKind.u64.bits) = 2 from rfl, Int.fdiv_eq_ediv_of_nonneg _ (by decide)]
 omega
theorem conv_u {n : Nat} (h : n < 9223372036854775808) : A.conv .u64 (.int .i64 (n : Int)) = some (.int .u64 (n : Int)) := by
 simp only [A.conv]
 congr 2
 unfold IntKind.wrap
 simp [IntKind.bits, IntKind.signed]
 omega
theorem conv_i {n : Nat} (h : n < 9223372036854775808) : A.conv .i64 (.int .u64 (n : Int)) = some (.int .i64 (n : Int)) := by
 simp only [A.conv]
 rw [wrap64 (by unfold inI; omega)]
theorem tadd {a b : Nat} (h : a + b < 9223372036854775808) : A.add (.int .i64 (a : Int)) (.int .i64 (b : Int)) = some (.int .i64 ((a + b : Nat) : Int)) := by
 rw [aAdd, wrap64 (by unfold inI; omega)]; simp
theorem tadd1 {a : Nat} (h : a + 1 < 9223372036854775808) : A.add (.int .i64 (a : Int)) (.int .i64 1) = some (.int .i64 ((a + 1 : Nat) : Int)) := tadd (b := 1) h
theorem tlss (a b : Nat) : A.lss (.int .i64 (a : Int)) (.int .i64 (b : Int)) = some (.bool (decide (a < b))) := by
 rw [aLss]
 have : ((a : Int) < (b : Int)) = (a < b) := propext ⟨fun h => by omega, fun h => by omega⟩
 simp only [this]
theorem tlss0 (a : Int) : A.lss (.int .i64 a) (.int .i64 0) = some (.bool (decide (a < 0))) := by rw [aLss]
theorem exb {α : Type} {X Y : α} : (bif (AX.exit 0 == AX.exit 0) then X else Y) = X := rfl
theorem bs_loop {f : List AV → Heap → Option (AX × List AV × Heap)} {σ : Heap} (pv : Nat → Nat → List AV) {v0 : List AV} {n p : Nat} (hp : p ≤ n) (h0 : v0 = pv 0 n)
  (hs : ∀ i j, i < j → j ≤ n → f (pv i j) σ = some (.normal, if (i + j) / 2 < p then pv ((i + j) / 2 + 1) j else pv i ((i + j) / 2), σ))
  (he : ∀ i, i ≤ n → f (pv i i) σ = some (.exit 0, pv i i, σ)) : A.loop f v0 σ = some (.exit 0, pv p p, σ) := by
 subst h0
 have key : ∀ k i j, j - i ≤ k → i ≤ p → p ≤ j → j ≤ n → ∃ m, A.iter f m (pv i j) σ = some (.exit 0, pv p p, σ) := by
  intro k
  induction k with
  | zero =>
   intro i j hk h1 h2 h3
   have : i = p := by omega
   have : j = p := by omega
   subst i; subst j
   exact loop_done (he p h3) (by simp)
  | succ k ih =>
   intro i j hk h1 h2 h3
   by_cases hij : i < j
   ·have hstep := hs i j hij h3
    by_cases hh : (i + j) / 2 < p
    ·rw [if_pos hh] at hstep
     exact loop_step hstep (ih _ _ (by omega) (by omega) h2 h3)
    ·rw [if_neg hh] at hstep
     exact loop_step hstep (ih _ _ (by omega) h1 (by omega) (by omega))
   ·have : i = p := by omega
    have : j = p := by omega
    subst i; subst j
    exact loop_done (he p h3) (by simp)
 obtain ⟨m, hm⟩ := key n 0 n (by omega) (by omega) hp (Nat.le_refl _)
 exact loop_of_iter hm
theorem bsM {dyn : Nat → List AV → Heap → Option (AV × Heap)} {l : List MoveD} {fn : Nat} {k : KeyD} {cv : MoveD → Int} {p : Nat} {σ : Heap} (hl : l.length < 4611686018427387904) (hp : p ≤ l.length)
  (hd : ∀ x ∈ l, dyn fn [.agg (cMove x), .agg (cKey k)] σ = some (.int .i64 (cv x), σ)) (hc : ∀ h x, l[h]? = some x → (cv x < 0 ↔ h < p)) :
  m_slices_BinarySearchFunc_api_Move_api_Key dyn [sl 8 cMove l, .agg (cKey k), .fn fn []] σ = some (.tup [.int .i64 (p : Int), .bool ((l[p]?).any fun x => decide (cv x = 0))], σ) := by
 refine wrap_eq rfl ?_ rfl
 show r_slices_BinarySearchFunc_api_Move_api_Key dyn (sl 8 cMove l) (.agg (cKey k)) (.fn fn []) σ = _
 unfold r_slices_BinarySearchFunc_api_Move_api_Key
 rw [show A.cells 2 (.agg (cKey k)) = some (cKey k) from rfl, Option.bind_some, lenS_sl, Option.bind_some]
 rw [bs_loop (v0 := [.lbx (cKey k), .int .i64 0, .int .i64 (l.length : Int)]) (fun i j => [.lbx (cKey k), .int .i64 (i : Int), .int .i64 (j : Int)]) hp rfl ?_ ?_, Option.bind_some]
 ·simp only [exb, List.getD_cons_succ, List.getD_cons_zero]
  rw [tlss, Option.bind_some]
  by_cases hpl : p < l.length
  ·have hx : l[p]? = some l[p] := List.getElem?_eq_getElem hpl
   have hdx := hd _ (List.mem_of_getElem? hx)
   have hia := iaddr_sl 8 cMove l hx
   have hq := quiet_of (by show A.callv dyn (.fn fn []) [.agg (cMove l[p]), .agg (cKey k)] σ = _; simp only [A.callv, List.append_nil]; exact hdx)
   simp only [decide_eq_true hpl, A.guard, beq_self_eq_true, cond_true, Option.bind_some, List.getD_cons_succ, List.getD_cons_zero, hia, A.deref, pA_cMove, A.lb, A.part1, A.partA, A.pick, hx, Option.any_some]
   show ((A.quiet (A.callv dyn (.fn fn []) [.agg (cMove l[p]), .agg (cKey k)] σ) σ).bind _) = _
   rw [hq, Option.bind_some, aEq]
   exact fin_same _ _
  ·have hx : l[p]? = none := List.getElem?_eq_none (by omega)
   simp only [decide_eq_false hpl, A.guard, Option.bind_some, A.pick, hx, Option.any_none]
   exact fin_same _ _
 ·intro i j hij hj
  have hlt : (i + j) / 2 < l.length := by omega
  have hx : l[(i + j) / 2]? = some l[(i + j) / 2] := List.getElem?_eq_getElem hlt
  have hdx := hd _ (List.mem_of_getElem? hx)
  have hia := iaddr_sl 8 cMove l hx
  have hq := quiet_of (by show A.callv dyn (.fn fn []) [.agg (cMove l[(i + j) / 2]), .agg (cKey k)] σ = _; simp only [A.callv, List.append_nil]; exact hdx)
  simp only [List.getD_cons_succ, List.getD_cons_zero]
  rw [tlss, Option.bind_some, decide_eq_true hij]
  simp only [A.cond, cond_true]
  rw [tadd (by omega), Option.bind_some, conv_u (by omega), Option.bind_some, half_nn (by omega), Option.bind_some, conv_i (by omega), Option.bind_some, hia, Option.bind_some]
  simp only [A.deref, Option.bind_some, pA_cMove, A.lb]
  show ((A.quiet (A.callv dyn (.fn fn []) [.agg (cMove l[(i + j) / 2]), .agg (cKey k)] σ) σ).bind _) = _
  rw [hq, Option.bind_some, tlss0, Option.bind_some]
  by_cases hh : (i + j) / 2 < p
  ·have := (hc _ _ hx).2 hh
   rw [decide_eq_true this, if_pos hh]
   simp only [cond_true, tadd1 (show (i + j) / 2 + 1 < 9223372036854775808 by omega), Option.bind_some]
   rfl
  ·have : ¬ (cv l[(i + j) / 2] < 0) := fun e => hh ((hc _ _ hx).1 e)
   rw [decide_eq_false this, if_neg hh]
   rfl
 ·intro i hi
  simp only [List.getD_cons_succ, List.getD_cons_zero]
  rw [tlss, Option.bind_some, decide_eq_false (Nat.lt_irrefl i)]
  rfl
theorem bsC {dyn : Nat → List AV → Heap → Option (AV × Heap)} {l : List CueD} {fn : Nat} {k : Int} {cv : CueD → Int} {p : Nat} {σ : Heap} (hl : l.length < 4611686018427387904) (hp : p ≤ l.length)
  (hd : ∀ x ∈ l, dyn fn [.agg (cCue x), .int .i64 k] σ = some (.int .i64 (cv x), σ)) (hc : ∀ h x, l[h]? = some x → (cv x < 0 ↔ h < p)) :
  m_slices_BinarySearchFunc_api_Cue_int dyn [sl 11 cCue l, .int .i64 k, .fn fn []] σ = some (.tup [.int .i64 (p : Int), .bool ((l[p]?).any fun x => decide (cv x = 0))], σ) := by
 refine wrap_eq rfl ?_ rfl
 show r_slices_BinarySearchFunc_api_Cue_int dyn (sl 11 cCue l) (.int .i64 k) (.fn fn []) σ = _
 unfold r_slices_BinarySearchFunc_api_Cue_int
 rw [lenS_sl, Option.bind_some]
 rw [bs_loop (v0 := [.int .i64 0, .int .i64 (l.length : Int)]) (fun i j => [.int .i64 (i : Int), .int .i64 (j : Int)]) hp rfl ?_ ?_, Option.bind_some]
 ·simp only [exb, List.getD_cons_succ, List.getD_cons_zero]
  rw [tlss, Option.bind_some]
  by_cases hpl : p < l.length
  ·have hx : l[p]? = some l[p] := List.getElem?_eq_getElem hpl
   have hdx := hd _ (List.mem_of_getElem? hx)
   have hia := iaddr_sl 11 cCue l hx
   have hq := quiet_of (by show A.callv dyn (.fn fn []) [.agg (cCue l[p]), .int .i64 k] σ = _; simp only [A.callv, List.append_nil]; exact hdx)
   simp only [decide_eq_true hpl, A.guard, beq_self_eq_true, cond_true, Option.bind_some, List.getD_cons_succ, List.getD_cons_zero, hia, A.deref, pA_cCue, A.lb, A.part1, A.partA, A.pick, hx, Option.any_some]
   show ((A.quiet (A.callv dyn (.fn fn []) [.agg (cCue l[p]), .int .i64 k] σ) σ).bind _) = _
   rw [hq, Option.bind_some, aEq]
   exact fin_same _ _
  ·have hx : l[p]? = none := List.getElem?_eq_none (by omega)
   simp only [decide_eq_false hpl, A.guard, Option.bind_some, A.pick, hx, Option.any_none]
   exact fin_same _ _
 ·intro i j hij hj
  have hlt : (i + j) / 2 < l.length := by omega
  have hx : l[(i + j) / 2]? = some l[(i + j) / 2] := List.getElem?_eq_getElem hlt
  have hdx := hd _ (List.mem_of_getElem? hx)
  have hia := iaddr_sl 11 cCue l hx
  have hq : A.callv dyn (.fn fn []) [.agg (cCue l[(i + j) / 2]), .int .i64 k] σ = some (.int .i64 (cv l[(i + j) / 2]), σ) := by simp only [A.callv, List.append_nil]; exact hdx
  simp only [List.getD_cons_succ, List.getD_cons_zero]
  rw [tlss, Option.bind_some, decide_eq_true hij]
  simp only [A.cond, cond_true]
  rw [tadd (by omega), Option.bind_some, conv_u (by omega), Option.bind_some, half_nn (by omega), Option.bind_some, conv_i (by omega), Option.bind_some, hia, Option.bind_some]
  simp only [A.deref, Option.bind_some, pA_cCue, A.lb]
  rw [hq, Option.bind_some, tlss0, Option.bind_some]
  by_cases hh : (i + j) / 2 < p
  ·have := (hc _ _ hx).2 hh
   rw [decide_eq_true this, if_pos hh]
   simp only [cond_true, tadd1 (show (i + j) / 2 + 1 < 9223372036854775808 by omega), Option.bind_some]
   rfl
  ·have : ¬ (cv l[(i + j) / 2] < 0) := fun e => hh ((hc _ _ hx).1 e)
   rw [decide_eq_false this, if_neg hh]
   rfl
 ·intro i hi
  simp only [List.getD_cons_succ, List.getD_cons_zero]
  rw [tlss, Option.bind_some, decide_eq_false (Nat.lt_irrefl i)]
  rfl
end Go.Proofs.Ytphgchakmkankaa

namespace Go.Proofs.Ytphgchakmkankaa
set_option linter.unusedSectionVars false
set_option linter.unusedVariables false
set_option linter.unusedSimpArgs false
def srtM (l : List MoveD) : Prop := l.Pairwise fun a b => ltK a.key b.key = true
def posM (l : List MoveD) (k : KeyD) : Nat := (l.takeWhile fun m => ltK m.key k).length
def hasM (l : List MoveD) (k : KeyD) : Bool := l.any fun m => decide (m.key = k)
theorem posM_le (l : List MoveD) (k : KeyD) : posM l k ≤ l.length := (List.takeWhile_prefix _).length_le
theorem posM_lt {l : List MoveD} {k : KeyD} (h : srtM l) : ∀ {i : Nat} {x : MoveD}, l[i]? = some x → (ltK x.key k = true ↔ i < posM l k) := by
 induction l with
 | nil => intro i x hx; simp at hx
 | cons a l ih =>
  intro i x hx
  have hs := List.pairwise_cons.1 h
  unfold posM
  rw [List.takeWhile_cons]
  cases ha : ltK a.key k
  ·simp only [Bool.false_eq_true, if_false, List.length_nil, Nat.not_lt_zero, iff_false, Bool.not_eq_true]
   cases i with
   | zero => simp at hx; subst hx; exact ha
   | succ i =>
    simp only [List.getElem?_cons_succ] at hx
    have := hs.1 x (List.mem_of_getElem? hx)
    cases hq : ltK x.key k
    ·rfl
    ·rw [ltK_trans this hq] at ha; cases ha
  ·simp only [if_true, List.length_cons]
   cases i with
   | zero => simp at hx; subst hx; simp [ha]
   | succ i =>
    simp only [List.getElem?_cons_succ] at hx
    rw [ih hs.2 hx]
    unfold posM
    omega
theorem posM_has {l : List MoveD} {k : KeyD} (h : srtM l) : ((l[posM l k]?).any fun x => decide (x.key = k)) = hasM l k := by
 rw [Bool.eq_iff_iff]
 constructor
 ·intro e
  cases hx : l[posM l k]? with
  | none => rw [hx] at e; cases e
  | some x =>
   rw [hx] at e
   exact List.any_eq_true.2 ⟨x, List.mem_of_getElem? hx, e⟩
 ·intro e
  obtain ⟨x, hm, hk⟩ := List.any_eq_true.1 e
  have hk := of_decide_eq_true hk
  obtain ⟨i, hi⟩ := List.mem_iff_getElem?.1 hm
  have h1 : ¬ i < posM l k := fun q => by
   have := (posM_lt h hi).2 q
   rw [hk, ltK_irr] at this; cases this
  have h2 : ¬ posM l k < i := fun q => by
   have hp : posM l k < l.length := Nat.lt_trans q (List.getElem?_eq_some_iff.1 hi).1
   have hy : l[posM l k]? = some l[posM l k] := List.getElem?_eq_getElem hp
   have h3 : ¬ ltK l[posM l k].key k = true := fun q' => Nat.lt_irrefl _ ((posM_lt h hy).1 q')
   have h4 := List.pairwise_iff_getElem.1 h (posM l k) i hp (List.getElem?_eq_some_iff.1 hi).1 q
   rw [(List.getElem?_eq_some_iff.1 hi).2, hk] at h4
   exact h3 h4
  have : posM l k = i := by omega
  rw [this, hi]; simp [hk]
theorem moveAt_t {c : CueD} (hs : srtM c.moves) (hl : c.moves.length < 4611686018427387904) (k : KeyD) (σ : Heap) : m_cue_moveAt [.agg (cCue c), .agg (cKey k)] σ = some (.tup [.int .i64 (posM c.moves k : Int), .bool (hasM c.moves k)], σ) := by
 refine wrap_eq rfl ?_ rfl
 show r_cue_moveAt (.agg (cCue c)) (.agg (cKey k)) σ = _
 unfold r_cue_moveAt
 rw [ce_cCue, Option.bind_some, show A.cells 2 (.agg (cKey k)) = some (cKey k) from rfl, Option.bind_some, show A.part1 10 (cCue c) = some (sl 8 cMove c.moves) from rfl, Option.bind_some, show A.partA 0 2 (cKey k) = some (.agg (cKey k)) from rfl, Option.bind_some]
 rw [bsM (cv := fun x => cmpK x.key k) (p := posM c.moves k) hl (posM_le _ _) ?_ ?_, Option.bind_some]
 ·have e : ((c.moves[posM c.moves k]?).any fun x => decide (cmpK x.key k = 0)) = hasM c.moves k := by
   rw [← posM_has hs]
   congr 1
   funext x
   rw [decide_eq_decide, cmpK_eq]
  rw [e]
  exact fin_same _ _
 ·intro x hx
  exact h_cue_moveAt_fn1 (r := cmpK x.key k) (by unfold t_cue_moveAt_fn1; rw [compare_eq]; rfl)
 ·intro i x hx
  rw [cmpK_lt, posM_lt hs hx]
structure Good (l : List CueD) : Prop where
 len : l.length ≤ 300
 num : ∀ c ∈ l, 1 ≤ c.number ∧ c.number ≤ 9999999
 srt : l.Pairwise fun a b => a.number < b.number
 mv : ∀ c ∈ l, c.moves.length ≤ 2000 ∧ srtM c.moves
 pts : ∀ c ∈ l, c.curve.points.length ≤ 20
theorem srt_of_step {α : Type} [Inhabited α] {r : α → α → Prop} (tr : ∀ a b c, r a b → r b c → r a c) : ∀ (l : List α), (∀ i x, l[i + 1]? = some x → r (l[i]?.getD default) x) → l.Pairwise r
 | [], _ => List.Pairwise.nil
 | [a], _ => by simp
 | a :: b :: l, h => by
  have ih := srt_of_step tr (b :: l) (fun i x hx => h (i + 1) x hx)
  have hab : r a b := h 0 b rfl
  refine List.pairwise_cons.2 ⟨fun x hx => ?_, ih⟩
  rcases List.mem_cons.1 hx with rfl | hx
  ·exact hab
  ·exact tr _ _ _ hab ((List.pairwise_cons.1 ih).1 x hx)
end Go.Proofs.Ytphgchakmkankaa

namespace Go.Proofs.Ytphgchakmkankaa
set_option linter.unusedSectionVars false
set_option linter.unusedVariables false
set_option linter.unusedSimpArgs false
theorem pv_succ {α : Type} [Inhabited α] (l : List α) (i : Nat) : pv l (i + 1) = l[i]?.getD default := by
 simp [pv, List.getD_eq_getElem?_getD]
theorem good_moves {l : List MoveD} (h : movesF l = 0) : srtM l := by
 unfold movesF at h
 refine srt_of_step (r := fun a b : MoveD => ltK a.key b.key = true) (fun a b c => ltK_trans) l fun i x hx => ?_
 have := (chkE_zero l 0).1 h (i + 1) x hx
 rw [Nat.zero_add] at this
 unfold moveF at this
 rw [← pv_succ]
 by_cases hq : ltK (pv l (i + 1)).key x.key = true
 ·exact hq
 ·exfalso
  have e : (decide (0 < ((i + 1 : Nat) : Int)) && !ltK (pv l (i + 1)).key x.key) = true := by
   rw [Bool.and_eq_true]; exact ⟨decide_eq_true (by omega), by simpa using hq⟩
  rw [e] at this
  repeat (first | (split at this; · cases this) | (simp at this; done) | (rename_i q; exact q rfl))
theorem good_of {l : List CueD} (h : formF l = 0) : Good l := by
 unfold formF at h
 by_cases h1 : 300 < (l.length : Int)
 ·simp [h1] at h
 rw [if_neg h1] at h
 by_cases h2 : chkE (cueF l) l 0 = 0
 case neg => rw [if_pos h2] at h; exact absurd h h2
 have hc : ∀ i x, l[i]? = some x → (1 ≤ x.number ∧ x.number ≤ 9999999) ∧ (0 < i → (pv l i).number < x.number) ∧ x.moves.length ≤ 2000 ∧ movesF x.moves = 0 ∧ x.curve.points.length ≤ 20 := by
  intro i x hx
  have := (chkE_zero l 0).1 h2 i x hx
  rw [Nat.zero_add] at this
  unfold cueF at this
  split at this
  ·cases this
  rename_i a1
  split at this
  ·cases this
  rename_i a2
  split at this
  ·cases this
  split at this
  ·cases this
  split at this
  ·rename_i a5; exact absurd this a5
  rename_i a5
  split at this
  ·cases this
  rename_i a6
  have hpt : x.curve.points.length ≤ 20 := by
   have a5 : curveF x.curve = 0 := by simpa using a5
   unfold curveF at a5
   split at a5
   ·cases a5
   split at a5
   ·split at a5
    ·cases a5
    split at a5
    ·cases a5
    omega
   ·split at a5
    ·cases a5
    omega
  refine ⟨by simpa [withinB] using a1, fun hi => ?_, by omega, this, hpt⟩
  have hi' : decide (0 < (i : Int)) = true := decide_eq_true (by omega)
  rw [hi', Bool.true_and, decide_eq_true_eq] at a2
  omega
 refine ⟨by omega, fun c hc' => ?_, ?_, fun c hc' => ?_, fun c hc' => ?_⟩
 ·obtain ⟨i, hi⟩ := List.mem_iff_getElem?.1 hc'
  exact (hc i c hi).1
 ·refine srt_of_step (r := fun a b : CueD => a.number < b.number) (fun a b c => Int.lt_trans) l fun i x hx => ?_
  rw [← pv_succ]
  exact (hc (i + 1) x hx).2.1 (by omega)
 ·obtain ⟨i, hi⟩ := List.mem_iff_getElem?.1 hc'
  exact ⟨(hc i c hi).2.2.1, good_moves (hc i c hi).2.2.2.1⟩
 ·obtain ⟨i, hi⟩ := List.mem_iff_getElem?.1 hc'
  exact (hc i c hi).2.2.2.2
def posC (l : List CueD) (n : Int) : Nat := (l.takeWhile fun c => decide (c.number < n)).length
def hasC (l : List CueD) (n : Int) : Bool := l.any fun c => decide (c.number = n)
theorem posC_le (l : List CueD) (n : Int) : posC l n ≤ l.length := (List.takeWhile_prefix _).length_le
theorem posC_lt {l : List CueD} {n : Int} (h : l.Pairwise fun a b => a.number < b.number) : ∀ {i : Nat} {x : CueD}, l[i]? = some x → (x.number < n ↔ i < posC l n) := by
 induction l with
 | nil => intro i x hx; simp at hx
 | cons a l ih =>
  intro i x hx
  have hs := List.pairwise_cons.1 h
  unfold posC
  rw [List.takeWhile_cons]
  by_cases ha : a.number < n
  ·rw [decide_eq_true ha]
   simp only [if_true, List.length_cons]
   cases i with
   | zero => simp at hx; subst hx; simp [ha]
   | succ i =>
    simp only [List.getElem?_cons_succ] at hx
    rw [ih hs.2 hx]
    unfold posC
    omega
  ·rw [decide_eq_false ha]
   simp only [Bool.false_eq_true, if_false, List.length_nil, Nat.not_lt_zero, iff_false]
   cases i with
   | zero => simp at hx; subst hx; exact ha
   | succ i =>
    simp only [List.getElem?_cons_succ] at hx
    have := hs.1 x (List.mem_of_getElem? hx)
    omega
theorem posC_at {l : List CueD} {n : Int} (h : l.Pairwise fun a b => a.number < b.number) {i : Nat} {x : CueD} (hx : l[i]? = some x) (hn : x.number = n) : posC l n = i := by
 have h1 : ¬ i < posC l n := fun q => by have := (posC_lt h hx).2 q; omega
 have h2 : ¬ posC l n < i := fun q => by
  have hp : posC l n < l.length := Nat.lt_trans q (List.getElem?_eq_some_iff.1 hx).1
  have hy : l[posC l n]? = some l[posC l n] := List.getElem?_eq_getElem hp
  have h3 : ¬ l[posC l n].number < n := fun q' => Nat.lt_irrefl _ ((posC_lt h hy).1 q')
  have h4 := List.pairwise_iff_getElem.1 h (posC l n) i hp (List.getElem?_eq_some_iff.1 hx).1 q
  rw [(List.getElem?_eq_some_iff.1 hx).2, hn] at h4
  exact h3 h4
 omega
theorem posC_has {l : List CueD} {n : Int} (h : l.Pairwise fun a b => a.number < b.number) : ((l[posC l n]?).any fun x => decide (x.number = n)) = hasC l n := by
 rw [Bool.eq_iff_iff]
 constructor
 ·intro e
  cases hx : l[posC l n]? with
  | none => rw [hx] at e; cases e
  | some x => rw [hx] at e; exact List.any_eq_true.2 ⟨x, List.mem_of_getElem? hx, e⟩
 ·intro e
  obtain ⟨x, hm, hk⟩ := List.any_eq_true.1 e
  have hk := of_decide_eq_true hk
  obtain ⟨i, hi⟩ := List.mem_iff_getElem?.1 hm
  rw [posC_at h hi hk, hi]; simp [hk]
theorem bs_some {f : List AV → Heap → Option (AX × List AV × Heap)} {σ : Heap} (pv : Nat → Nat → List AV) {v0 : List AV} {n : Nat} (h0 : v0 = pv 0 n) (q : Nat → Bool)
  (hs : ∀ i j, i < j → j ≤ n → f (pv i j) σ = some (.normal, if q ((i + j) / 2) = true then pv ((i + j) / 2 + 1) j else pv i ((i + j) / 2), σ))
  (he : ∀ i, i ≤ n → f (pv i i) σ = some (.exit 0, pv i i, σ)) : ∃ p, p ≤ n ∧ A.loop f v0 σ = some (.exit 0, pv p p, σ) := by
 subst h0
 have key : ∀ k i j, j - i ≤ k → i ≤ j → j ≤ n → ∃ p, p ≤ n ∧ ∃ m, A.iter f m (pv i j) σ = some (.exit 0, pv p p, σ) := by
  intro k
  induction k with
  | zero =>
   intro i j hk h1 h3
   have : i = j := by omega
   subst i
   exact ⟨j, h3, loop_done (he j h3) (by simp)⟩
  | succ k ih =>
   intro i j hk h1 h3
   by_cases hij : i < j
   ·have hstep := hs i j hij h3
    by_cases hh : q ((i + j) / 2) = true
    ·rw [if_pos hh] at hstep
     obtain ⟨p, hp, hm⟩ := ih _ _ (by omega) (show (i + j) / 2 + 1 ≤ j by omega) h3
     exact ⟨p, hp, loop_step hstep hm⟩
    ·rw [if_neg hh] at hstep
     obtain ⟨p, hp, hm⟩ := ih i ((i + j) / 2) (by omega) (by omega) (by omega)
     exact ⟨p, hp, loop_step hstep hm⟩
   ·have : i = j := by omega
    subst i
    exact ⟨j, h3, loop_done (he j h3) (by simp)⟩
 obtain ⟨p, hp, m, hm⟩ := key n 0 n (by omega) (by omega) (Nat.le_refl _)
 exact ⟨p, hp, loop_of_iter hm⟩
theorem bs_bind {β : Type} {f : List AV → Heap → Option (AX × List AV × Heap)} {σ : Heap} {K : AX × List AV × Heap → Option β} {r : Nat → β} (pv : Nat → Nat → List AV) {v0 : List AV} {n : Nat} (h0 : v0 = pv 0 n) (q : Nat → Bool)
  (hs : ∀ i j, i < j → j ≤ n → f (pv i j) σ = some (.normal, if q ((i + j) / 2) = true then pv ((i + j) / 2 + 1) j else pv i ((i + j) / 2), σ))
  (he : ∀ i, i ≤ n → f (pv i i) σ = some (.exit 0, pv i i, σ)) (hK : ∀ p, p ≤ n → K (.exit 0, pv p p, σ) = some (r p)) : ∃ p, p ≤ n ∧ (A.loop f v0 σ).bind K = some (r p) := by
 obtain ⟨p, hp, h⟩ := bs_some pv h0 q hs he
 exact ⟨p, hp, by rw [h, Option.bind_some, hK p hp]⟩
theorem bsC_no {dyn : Nat → List AV → Heap → Option (AV × Heap)} {l : List CueD} {fn : Nat} {k : Int} {cv : CueD → Int} {σ : Heap} (hl : l.length < 4611686018427387904)
  (hd : ∀ x ∈ l, dyn fn [.agg (cCue x), .int .i64 k] σ = some (.int .i64 (cv x), σ)) (hc : ∀ x ∈ l, cv x ≠ 0) :
  ∃ p : Nat, p ≤ l.length ∧ m_slices_BinarySearchFunc_api_Cue_int dyn [sl 11 cCue l, .int .i64 k, .fn fn []] σ = some (.tup [.int .i64 (p : Int), .bool false], σ) := by
 suffices h : ∃ p : Nat, p ≤ l.length ∧ r_slices_BinarySearchFunc_api_Cue_int dyn (sl 11 cCue l) (.int .i64 k) (.fn fn []) σ = some (.tup [.int .i64 (p : Int), .bool false], σ) by
  obtain ⟨p, hp, h⟩ := h
  exact ⟨p, hp, wrap_eq rfl h rfl⟩
 unfold r_slices_BinarySearchFunc_api_Cue_int
 rw [lenS_sl, Option.bind_some]
 refine bs_bind (v0 := [.int .i64 0, .int .i64 (l.length : Int)]) (r := fun p => ((AV.tup [.int .i64 (p : Int), .bool false], σ) : AV × Heap)) (fun i j => [.int .i64 (i : Int), .int .i64 (j : Int)]) rfl (fun h => ((l[h]?).any fun x => decide (cv x < 0))) (fun i j hij hj => ?_) (fun i hi => ?_) (fun p hp => ?_)
 ·have hlt : (i + j) / 2 < l.length := by omega
  have hx : l[(i + j) / 2]? = some l[(i + j) / 2] := List.getElem?_eq_getElem hlt
  have hdx := hd _ (List.mem_of_getElem? hx)
  have hia := iaddr_sl 11 cCue l hx
  have hq : A.callv dyn (.fn fn []) [.agg (cCue l[(i + j) / 2]), .int .i64 k] σ = some (.int .i64 (cv l[(i + j) / 2]), σ) := by simp only [A.callv, List.append_nil]; exact hdx
  simp only [List.getD_cons_succ, List.getD_cons_zero]
  rw [tlss, Option.bind_some, decide_eq_true hij]
  simp only [A.cond, cond_true]
  rw [tadd (by omega), Option.bind_some, conv_u (by omega), Option.bind_some, half_nn (by omega), Option.bind_some, conv_i (by omega), Option.bind_some, hia, Option.bind_some]
  simp only [A.deref, Option.bind_some, pA_cCue, A.lb]
  rw [hq, Option.bind_some, tlss0, Option.bind_some]
  simp only [hx, Option.any_some]
  by_cases hh : cv l[(i + j) / 2] < 0
  ·rw [decide_eq_true hh]
   simp only [cond_true, if_true, tadd1 (show (i + j) / 2 + 1 < 9223372036854775808 by omega), Option.bind_some]
   rfl
  ·rw [decide_eq_false hh]
   rfl
 ·simp only [List.getD_cons_succ, List.getD_cons_zero]
  rw [tlss, Option.bind_some, decide_eq_false (Nat.lt_irrefl i)]
  rfl
 ·simp only [exb, List.getD_cons_succ, List.getD_cons_zero]
  rw [tlss, Option.bind_some]
  by_cases hpl : p < l.length
  ·have hx : l[p]? = some l[p] := List.getElem?_eq_getElem hpl
   have hdx := hd _ (List.mem_of_getElem? hx)
   have hne := hc _ (List.mem_of_getElem? hx)
   have hia := iaddr_sl 11 cCue l hx
   have hq := quiet_of (by show A.callv dyn (.fn fn []) [.agg (cCue l[p]), .int .i64 k] σ = _; simp only [A.callv, List.append_nil]; exact hdx)
   simp only [decide_eq_true hpl, A.guard, beq_self_eq_true, cond_true, Option.bind_some, List.getD_cons_succ, List.getD_cons_zero, hia, A.deref, pA_cCue, A.lb, A.part1, A.partA, A.pick]
   show ((A.quiet (A.callv dyn (.fn fn []) [.agg (cCue l[p]), .int .i64 k] σ) σ).bind _) = _
   rw [hq, Option.bind_some, aEq, decide_eq_false hne]
   exact fin_same _ _
  ·simp only [decide_eq_false hpl, A.guard, Option.bind_some, A.pick]
   exact fin_same _ _
theorem place_t {l : List CueD} (hg : Good l) {n : Int} (hn : inI n) (σ : Heap) : ∃ p : Nat, m_cue_place [sl 11 cCue l, .int .i64 n] σ = some (.tup [.int .i64 (p : Int), .bool (hasC l n)], σ) ∧ p ≤ l.length ∧ ((1 ≤ n ∨ hasC l n = true) → p = posC l n) := by
 have hlen : l.length < 4611686018427387904 := by have := hg.len; omega
 have hd : ∀ x ∈ l, A.tab (fun _ _ => none) [(177, m_cue_place_fn1)] 177 [.agg (cCue x), .int .i64 n] σ = some (.int .i64 (IntKind.i64.wrap (x.number - n)), σ) := fun x _ => h_cue_place_fn1 (r := IntKind.i64.wrap (x.number - n)) rfl
 have wr : ∀ {p : Nat} {b : Bool}, m_slices_BinarySearchFunc_api_Cue_int (A.tab (fun _ _ => none) [(177, m_cue_place_fn1)]) [sl 11 cCue l, .int .i64 n, .fn 177 []] σ = some (.tup [.int .i64 (p : Int), .bool b], σ) →
   m_cue_place [sl 11 cCue l, .int .i64 n] σ = some (.tup [.int .i64 (p : Int), .bool b], σ) := by
  intro p b h
  refine wrap_eq rfl ?_ rfl
  rw [show A.nnL [Sh.e 11 [.k, .k, .k, .k, .k, .k, .k, .s 2, .k, .k, .s 8]] [sl 11 cCue l, .int .i64 n] = [sl 11 cCue l, .int .i64 n] from nn_t1 (nn_e (fun _ => rfl) _) rfl]
  show r_cue_place (sl 11 cCue l) (.int .i64 n) σ = _
  unfold r_cue_place
  rw [h, Option.bind_some]
  exact fin_same _ _
 by_cases hlow : -4611686018427387904 ≤ n
 ·refine ⟨posC l n, wr ?_, posC_le _ _, fun _ => rfl⟩
  have hw : ∀ x ∈ l, IntKind.i64.wrap (x.number - n) = x.number - n := fun x hx => by
   have := hg.num x hx
   unfold inI at hn
   exact wrap64 (by unfold inI; omega)
  rw [bsC (cv := fun x => IntKind.i64.wrap (x.number - n)) (p := posC l n) hlen (posC_le _ _) hd ?_]
  ·rw [← posC_has hg.srt]
   congr 4
   cases hx : l[posC l n]? with
   | none => rfl
   | some x =>
    simp only [Option.any_some]
    rw [hw x (List.mem_of_getElem? hx), show decide (x.number - n = 0) = decide (x.number = n) from decide_eq_decide.2 (by omega)]
  ·intro h x hx
   rw [hw x (List.mem_of_getElem? hx), ← posC_lt hg.srt hx]
   omega
 ·have hno : hasC l n = false := by
   rw [Bool.eq_false_iff]
   intro e
   obtain ⟨x, hx, hk⟩ := List.any_eq_true.1 e
   have := hg.num x hx
   have := of_decide_eq_true hk
   omega
  obtain ⟨p, hp, h⟩ := bsC_no hlen hd (fun x hx e => by
   have hnum := hg.num x hx
   unfold inI at hn
   have h2 : IntKind.i64.wrap (x.number - n) = x.number - n ∨ IntKind.i64.wrap (x.number - n) = x.number - n - 18446744073709551616 := by
    by_cases hh : x.number - n < 9223372036854775808
    ·exact .inl (wrap64 (by unfold inI; omega))
    ·right
     unfold IntKind.wrap
     simp [IntKind.bits, IntKind.signed]
     omega
   rcases h2 with h2 | h2 <;> rw [h2] at e <;> omega)
  exact ⟨p, by rw [hno]; exact wr h, hp, fun q => by
   rcases q with q | q
   ·omega
   ·rw [hno] at q; cases q⟩
section
variable {α R γ S B : Type}
def scanL (q : Nat → α → Option R) : List α → Nat → Option R
 | [], _ => none
 | x :: l, i => match q i x with | some r => some r | none => scanL q l (i + 1)
theorem whE_scan {l : List α} {q : Nat → α → Option R} {body : Int → Option (Lr Int Unit R)} {K1 : Unit → Option γ} {K2 : R → Option γ} (hb : ∀ (i : Nat) x, l[i]? = some x → body (i : Int) = some (match q i x with | some r => .ret r | none => .go ((i + 1 : Nat) : Int)))
  (he : ∀ i : Nat, l.length ≤ i → body (i : Int) = some (.brk ())) (i : Nat) : whE body (i : Int) K1 K2 = (match scanL q (l.drop i) i with | some r => K2 r | none => K1 ()) := by
 have key : ∀ (k i : Nat), l.length - i ≤ k → whL body (i : Int) = some (match scanL q (l.drop i) i with | some r => .inr r | none => .inl ()) := by
  intro k
  induction k with
  | zero =>
   intro i hk
   rw [whL_step, he i (by omega), Option.bind_some, List.drop_of_length_le (by omega)]
   rfl
  | succ k ih =>
   intro i hk
   by_cases hi : i < l.length
   ·have hx : l[i]? = some l[i] := List.getElem?_eq_getElem hi
    rw [whL_step, hb i _ hx, Option.bind_some, List.drop_eq_getElem_cons hi, scanL]
    cases h : q i l[i] with
    | some r => rfl
    | none => simp only; exact ih (i + 1) (by omega)
   ·rw [whL_step, he i (by omega), Option.bind_some, List.drop_of_length_le (by omega)]
    rfl
 rw [whE, key _ i (Nat.le_refl _), Option.bind_some]
 cases scanL q (l.drop i) i <;> rfl
theorem tIx_nat {l : List α} {i : Nat} {x : α} (h : l[i]? = some x) : tIx l (i : Int) = some x := tIx_get (by omega) (by simpa using h)
end
def blkF (l : List CueD) (i : Nat) : Option Nat := scanL (fun j c => if c.block = true then some j else none) (l.drop i) i
theorem blocked_t {l : List CueD} (hl : l.length < 4611686018427387904) (i : Nat) : t_cue_blocked l (i : Int) = some (match blkF l i with | some j => (j : Int) | none => -1) := by
 unfold t_cue_blocked
 refine (whE_scan (l := l) (q := fun j c => if c.block = true then some (j : Int) else none) (fun i x hx => ?_) (fun i hi => ?_) i).trans ?_
 rotate_left 2
 ·unfold blkF
  have key : ∀ (m : List CueD) (i : Nat), scanL (fun j c => if c.block = true then some (j : Int) else none) m i = (scanL (fun j c => if c.block = true then some j else none) m i).map fun j => (j : Int) := by
   intro m
   induction m with
   | nil => intro i; rfl
   | cons x m ih =>
    intro i
    rw [scanL, scanL]
    cases x.block
    ·simp only [Bool.false_eq_true, if_false]; exact ih (i + 1)
    ·rfl
  rw [key]
  cases scanL (fun j c => if c.block = true then some j else none) (l.drop i) i <;> rfl
 ·have hi := (List.getElem?_eq_some_iff.1 hx).1
  have hi' : ((i : Int) < (l.length : Int)) := by omega
  simp only [if_pos hi', tIx_nat hx, Option.bind_some, wrap64 (show inI ((i : Int) + 1) by unfold inI; omega)]
  cases x.block <;> simp
 ·have hi' : ¬ ((i : Int) < (l.length : Int)) := by omega
  simp only [if_neg hi']
theorem moved_t {l : List CueD} (hl : l.length ≤ mxl) (hm : ∀ c ∈ l, srtM c.moves ∧ c.moves.length < 4611686018427387904) (k : KeyD) (σ : Heap) : m_cue_moved [sl 11 cCue l, .agg (cKey k)] σ = some (.bool (l.any fun c => hasM c.moves k), σ) := by
 refine wrap_eq rfl ?_ rfl
 rw [show A.nnL [Sh.e 11 [.k, .k, .k, .k, .k, .k, .k, .s 2, .k, .k, .s 8]] [sl 11 cCue l, .agg (cKey k)] = [sl 11 cCue l, .agg (cKey k)] from nn_t1 (nn_e (fun _ => rfl) _) rfl]
 show r_cue_moved (sl 11 cCue l) (.agg (cKey k)) σ = _
 unfold r_cue_moved
 rw [show A.cells 2 (.agg (cKey k)) = some (cKey k) from rfl, Option.bind_some, Option.bind_some]
 rw [m_slices_ContainsFunc_api_Cue_eq _ l hl _ _ (fun c => hasM c.moves k) σ ?_, Option.bind_some]
 ·exact fin_same _ _
 intro x hx
 obtain ⟨h1, h2⟩ := hm x hx
 show m_cue_moved_fn1 [.agg (cCue x), .rp (cKey k)] σ = _
 refine wrap_eq rfl ?_ rfl
 show r_cue_moved_fn1 (.agg (cCue x)) (.rp (cKey k)) σ = _
 unfold r_cue_moved_fn1
 rw [ce_cCue, Option.bind_some, pA_cCue, Option.bind_some]
 simp only [A.deref, Option.bind_some]
 rw [show A.partA 0 2 (cKey k) = some (.agg (cKey k)) from rfl, Option.bind_some, moveAt_t h1 h2 , Option.bind_some]
 exact fin_same _ _
end Go.Proofs.Ytphgchakmkankaa

namespace Go.Proofs.Ytphgchakmkankaa
set_option linter.unusedSectionVars false
set_option linter.unusedVariables false
set_option linter.unusedSimpArgs false
open HP
def Lt (σ : Heap) (sh : Sh) (v t : AV) : Prop := (∃ v', A.frz σ 0 8 v = some v' ∧ A.own v' = false ∧ A.nn sh v' = A.nn sh t) ∧ A.own t = false ∧ (A.own v = false → A.nn sh v = A.nn sh t)
def LtL (σ : Heap) : List Sh → List AV → List AV → Prop
 | _, [], [] => True
 | [], a :: aas, t :: ts => Lt σ .k a t ∧ LtL σ [] aas ts
 | s :: ss, a :: aas, t :: ts => Lt σ s a t ∧ LtL σ ss aas ts
 | _, _, _ => False
theorem nn_k (v : AV) : A.nn .k v = v := by simp [A.nn]
theorem ltL {σ : Heap} : ∀ {ss : List Sh} {aas ts : List AV}, LtL σ ss aas ts → (∃ aas', A.frzL σ 0 8 aas = some aas' ∧ aas'.any A.own = false ∧ A.nnL ss aas' = A.nnL ss ts) ∧ ts.any A.own = false ∧ (aas.any A.own = false → A.nnL ss aas = A.nnL ss ts)
 | ss, [], [], _ => ⟨⟨[], by simp [A.frzL], rfl, rfl⟩, rfl, fun _ => rfl⟩
 | [], a :: aas, t :: ts, h => by
  obtain ⟨⟨⟨v', h1, h2, h3⟩, h4, h5⟩, h6⟩ := h
  obtain ⟨⟨aas', k1, k2, k3⟩, k4, k5⟩ := ltL h6
  rw [nn_k, nn_k] at h3
  simp only [A.nnL] at k3 k5
  refine ⟨⟨v' :: aas', by simp [A.frzL, h1, k1], by simp [h2, k2], by simp [A.nnL, h3, k3]⟩, by simp [h4, k4], fun h => ?_⟩
  simp only [List.any_cons, Bool.or_eq_false_iff] at h
  have := h5 h.1
  rw [nn_k, nn_k] at this
  simp [A.nnL, this, k5 h.2]
 | s :: ss, a :: aas, t :: ts, h => by
  obtain ⟨⟨⟨v', h1, h2, h3⟩, h4, h5⟩, h6⟩ := h
  obtain ⟨⟨aas', k1, k2, k3⟩, k4, k5⟩ := ltL h6
  refine ⟨⟨v' :: aas', by simp [A.frzL, h1, k1], by simp [h2, k2], by simp [A.nnL, h3, k3]⟩, by simp [h4, k4], fun h => ?_⟩
  simp only [List.any_cons, Bool.or_eq_false_iff] at h
  simp [A.nnL, h5 h.1, k5 h.2]
 | _, [], _ :: _, h => by cases h
 | [], _ :: _, [], h => by cases h
 | _ :: _, _ :: _, [], h => by cases h
theorem lent {ain : List Sh} {rout : Sh} {r : List AV → Heap → Option (AV × Heap)} {aas ts : List AV} {σ : Heap} {v : AV} (h : LtL σ ain aas ts) (e : ∀ σ, A.wrap true ain rout r ts σ = some (v, σ)) (hs : A.scal v = true) : A.wrap true ain rout r aas σ = some (v, σ) := by
 obtain ⟨⟨aas', k1, k2, k3⟩, k4, k5⟩ := ltL h
 cases ho : aas.any A.own
 ·rw [wrap_nn (k5 ho) ho k4]; exact e σ
 ·exact wrap_own ho k1 k2 (by rw [wrap_nn k3 k2 k4]; exact e []) hs
theorem lt_fz {σ : Heap} {sh : Sh} {v : AV} (h : Fz v) (ho : A.own v = false) : Lt σ sh v v := ⟨⟨v, h σ 0 8, ho, rfl⟩, ho, fun _ => rfl⟩
theorem lt_int {σ : Heap} (n : Int) : Lt σ .k (.int .i64 n) (.int .i64 n) := lt_fz (fz_int _ _) rfl
section
variable {α : Type} {c : α → List AV} {sz : Nat} {B : Blk → Prop} {σ0 σ : Heap} {R : HP} {v : AV} {l : List α}
def Sf (c : α → List AV) (sz : Nat) (v : AV) (l : List α) : HP := fun h => (v = sl sz c l ∧ emp h) ∨ Sl (fl c) sz v l h
theorem sf_cases (H : Hs B σ0 σ (Sf c sz v l * R)) : (v = sl sz c l ∧ Hs B σ0 σ R) ∨ Hs B σ0 σ (Sl (fl c) sz v l * R) := by
 have H2 := hs_drop H
 obtain ⟨h1, h, ⟨f, g, hf, hg, hd, hh⟩, h2⟩ := H
 rcases hf with ⟨k1, k2⟩ | k
 ·exact .inl ⟨k1, H2⟩
 ·exact .inr ⟨h1, h, ⟨f, g, k, hg, hd, hh⟩, h2⟩
theorem sf_own (H : Hs B σ0 σ (Sl (fl c) sz v l * R)) : Hs B σ0 σ (Sf c sz v l * R) := hs_mono (fun h k => .inr k) H
theorem slf_cases (H : Hs B σ0 σ (Sl (fl c) sz v l * R)) : (l = [] ∧ (v = .nsl ∨ v = .ez) ∧ Hs B σ0 σ R) ∨ ∃ id g, v = .os id g sz 0 l.length ∧ Hs B σ0 σ (blk id (.arr g sz (l.map c)) * R) := by
 rcases sl_cases H with h | ⟨id, g, seg, rfl, hl, H⟩
 ·exact .inl h
 ·have K := els_fl.1 (hs_eq (show _ = els (fl c) seg l * (blk id (.arr g sz seg) * R) by ac_rfl) H)
  obtain ⟨rfl, K⟩ := K
  exact .inr ⟨id, g, rfl, K⟩
theorem slf_os {id g : Nat} {n : Nat} (H : Hs B σ0 σ (blk id (.arr g sz (l.map c)) * R)) (hn : n = l.length := by rfl) : Hs B σ0 σ (Sl (fl c) sz (.os id g sz 0 n) l * R) :=
 sl_os (id := id) (g := g) (seg := l.map c) (hs_eq (show els (fl c) (l.map c) l * (blk id (.arr g sz (l.map c)) * R) = _ by ac_rfl) (els_fl.2 ⟨rfl, H⟩)) hn
theorem frz_os (hc : ∀ x, FzL (c x)) {id g : Nat} (h : σ[id]? = some (.arr g sz (l.map c))) {n : Nat} (hn : ¬ id < n) (d : Nat) : A.frz σ n (d + 1) (.os id g sz 0 l.length) = some (sl sz c l) := by
 simp only [A.frz, if_neg hn, h]
 rw [if_pos (by simp), List.drop_zero, List.take_of_length_le (by simp), frzLL_eq, fzLL hc]
 rfl
theorem slf_fz (H : Hs B σ0 σ (Sl (fl c) sz v l * R)) (hc : ∀ x, FzL (c x)) {n : Nat} (hn : n ≤ σ0.length) (d : Nat) : ∃ v', A.frz σ n (d + 1) v = some v' ∧ A.own1 v' = false ∧ A.nn (.s sz) v' = sl sz c l := by
 rcases slf_cases H with ⟨rfl, rfl | rfl, _⟩ | ⟨id, g, rfl, K⟩
 ·exact ⟨.nsl, by simp [A.frz], rfl, rfl⟩
 ·exact ⟨.ez, by simp [A.frz], rfl, rfl⟩
 ·obtain ⟨h1, h2⟩ := hs_get K
  exact ⟨_, frz_os hc h2 (by omega) d, rfl, rfl⟩
theorem sf_fz (H : Hs B σ0 σ (Sf c sz v l * R)) (hc : ∀ x, FzL (c x)) {n : Nat} (hn : n ≤ σ0.length) (d : Nat) : ∃ v', A.frz σ n (d + 1) v = some v' ∧ A.own1 v' = false ∧ A.nn (.s sz) v' = sl sz c l := by
 rcases sf_cases H with ⟨rfl, _⟩ | H
 ·exact ⟨_, fz_sl hc l σ n (d + 1), rfl, rfl⟩
 ·exact slf_fz H hc hn d
structure Cl (p : AV) (F : List AV → HP) : Prop where
 nc : A.nilck p = some p
 ow : A.own p = true
 ld : ∀ {σ0 σ : Heap} {e : List AV} {R : HP}, Hs anyB σ0 σ (F e * R) → A.deref p σ = some e
 fa : ∀ (o : Nat), ∃ q, A.faddr o p = some q ∧ (∀ {σ0 σ : Heap} {e : List AV} {R : HP}, Hs anyB σ0 σ (F e * R) → A.deref q σ = some (e.drop o)) ∧
  ∀ {σ0 σ : Heap} {e : List AV} {R : HP} {new e' : List AV}, Hs anyB σ0 σ (F e * R) → A.splice o new e = some e' → ∃ σ', A.storeAt q new σ = some σ' ∧ Hs anyB σ0 σ' (F e' * R)
 st : ∀ {σ0 σ : Heap} {e : List AV} {R : HP} {new e' : List AV}, Hs anyB σ0 σ (F e * R) → A.splice 0 new e = some e' → ∃ σ', A.storeAt p new σ = some σ' ∧ Hs anyB σ0 σ' (F e' * R)
 fc : ∀ (o o' : Nat) (q : AV), A.faddr o p = some q → A.faddr o' q = A.faddr (o + o') p
theorem hs_any {P : HP} (H : Hs B σ0 σ P) : Hs anyB σ0 σ P := ⟨by obtain ⟨bs, h, _⟩ := H.pre; exact ⟨bs, h, fun _ _ => trivial⟩, H.own⟩
end
section
variable {α : Type} {E : List AV → α → HP} {sz : Nat} {σ0 σ : Heap} {R : HP} {v : AV} {l : List α}
theorem sl_cell (H : Hs anyB σ0 σ (Sl E sz v l * R)) {i : Nat} {x : α} (hx : l[i]? = some x) : ∃ p F e, A.iaddr sz v (.int .i64 (i : Int)) = some p ∧ Cl p F ∧ Hs anyB σ0 σ (F e * (E e x * R)) ∧
  ∀ {σ : Heap} {e : List AV} {y : α} {R : HP}, Hs anyB σ0 σ (F e * (E e y * R)) → Hs anyB σ0 σ (Sl E sz v (l.set i y) * R) := by
 have hi := (List.getElem?_eq_some_iff.1 hx).1
 rcases sl_cases H with ⟨rfl, _, _⟩ | ⟨id, g, seg, rfl, hl, H⟩
 ·simp at hx
 ·have he : seg[i]? = some seg[i] := List.getElem?_eq_getElem (by omega)
  have rd : ∀ {σ0 σ : Heap} {e : List AV} {R : HP} (o : Nat), Hs anyB σ0 σ (blk id (.arr g sz (seg.set i e)) * els E (seg.eraseIdx i) (l.eraseIdx i) * R) → A.deref (.oe id g i o) σ = some (e.drop o) := by
   intro σ0 σ e R o K
   obtain ⟨_, k2⟩ := hs_get (hs_eq (star_assoc _ _ _) K)
   simp only [A.deref, k2, if_true]
   rw [List.getElem?_set_self (by omega)]
   rfl
  have wr : ∀ {σ0 σ : Heap} {e : List AV} {R : HP} {new e' : List AV} (o : Nat), Hs anyB σ0 σ (blk id (.arr g sz (seg.set i e)) * els E (seg.eraseIdx i) (l.eraseIdx i) * R) → A.splice o new e = some e' →
    ∃ σ', A.storeAt (.oe id g i o) new σ = some σ' ∧ Hs anyB σ0 σ' (blk id (.arr g sz (seg.set i e')) * els E (seg.eraseIdx i) (l.eraseIdx i) * R) := by
   intro σ0 σ e R new e' o K hs
   have K' := hs_eq (star_assoc _ _ _) K
   obtain ⟨_, k2⟩ := hs_get K'
   refine ⟨σ.set id (.arr g sz (seg.set i e')), ?_, ?_⟩
   ·simp only [A.storeAt, k2, if_true]
    rw [List.getElem?_set_self (by omega), Option.bind_some, hs, Option.map_some, List.set_set]
   ·exact hs_eq (star_assoc _ _ _).symm (hs_set (b' := .arr g sz (seg.set i e')) K' trivial)
  refine ⟨.oe id g i 0, fun e => blk id (.arr g sz (seg.set i e)) * els E (seg.eraseIdx i) (l.eraseIdx i), seg[i], ?_, ⟨rfl, rfl, fun K => by have := rd 0 K; simpa using this, fun o => ⟨.oe id g i o, by simp [A.faddr], fun K => rd o K, fun K hs => wr o K hs⟩, fun K hs => wr 0 K hs, fun o o' q hq => by simp [A.faddr] at hq; subst hq; simp [A.faddr]⟩, ?_, ?_⟩
  ·have hi' : ((i : Int) < (l.length : Int)) := by omega
   simp [A.iaddr, A.idx, hi']
  ·refine hs_eq ?_ H
   have e1 : seg.set i seg[i] = seg := List.set_getElem_self (by omega)
   simp only [e1]
   rw [els_at hl he hx]
   ac_rfl
  ·intro σ e y R K
   refine sl_os (id := id) (g := g) (seg := seg.set i e) (hs_eq ?_ K) (by simp)
   have e1 : els E (seg.set i e) (l.set i y) = els E (seg.eraseIdx i) (l.eraseIdx i) * E e y := by
    rw [els_at (i := i) (e := e) (x := y) (by simp [hl]) (by rw [List.getElem?_set_self (by omega)]) (by rw [List.getElem?_set_self hi])]
    rw [List.eraseIdx_set_eq, List.eraseIdx_set_eq]
   rw [e1]
   ac_rfl
end
def cCueH (x : CueD) (vp vm : AV) : List AV := [.int .i64 x.number, .str x.title, .int .i64 x.delay, .int .i64 x.up, .int .i64 x.down, .int .i64 x.other, .int .i64 x.curve.kind, vp, .bool x.block, .int .i64 x.follow, vm]
def CueP (M : AV → List MoveD → HP) : List AV → CueD → HP := fun e x => ex fun vp => ex fun vm => pr (e = cCueH x vp vm) * (Sf cPoint 2 vp x.curve.points * M vm x.moves)
def CueE : List AV → CueD → HP := CueP (Sl (fl cMove) 8)
def CueF : List AV → CueD → HP := CueP (Sf cMove 8)
def shCue : List Sh := [.k, .k, .k, .k, .k, .k, .k, .s 2, .k, .k, .s 8]
section
variable {B : Blk → Prop} {σ0 σ : Heap} {R : HP} {M : AV → List MoveD → HP} {e : List AV} {x : CueD}
theorem cueP (H : Hs B σ0 σ (CueP M e x * R)) : ∃ vp vm, e = cCueH x vp vm ∧ Hs B σ0 σ (Sf cPoint 2 vp x.curve.points * (M vm x.moves * R)) := by
 unfold CueP at H
 rw [hs_ex] at H
 obtain ⟨vp, H⟩ := H
 rw [hs_ex] at H
 obtain ⟨vm, H⟩ := H
 rw [star_assoc, hs_pr] at H
 exact ⟨vp, vm, H.1, hs_eq (by ac_rfl) H.2⟩
theorem cueP_of {vp vm : AV} (he : e = cCueH x vp vm) (H : Hs B σ0 σ (Sf cPoint 2 vp x.curve.points * (M vm x.moves * R))) : Hs B σ0 σ (CueP M e x * R) := by
 unfold CueP
 rw [hs_ex]
 refine ⟨vp, ?_⟩
 rw [hs_ex]
 refine ⟨vm, ?_⟩
 rw [star_assoc, hs_pr]
 exact ⟨he, hs_eq (by ac_rfl) H⟩
theorem cue_weak (H : Hs B σ0 σ (CueE e x * R)) : Hs B σ0 σ (CueF e x * R) := by
 obtain ⟨vp, vm, he, H⟩ := cueP H
 exact cueP_of he (hs_eq (by ac_rfl) (sf_own (hs_eq (show _ = Sl (fl cMove) 8 vm x.moves * (Sf cPoint 2 vp x.curve.points * R) by ac_rfl) H)))
theorem cueF_fz (H : Hs B σ0 σ (CueF e x * R)) {n : Nat} (hn : n ≤ σ0.length) (d : Nat) : ∃ e', A.frzL σ n (d + 1) e = some e' ∧ e'.any A.own1 = false ∧ A.nnL shCue e' = cCue x := by
 obtain ⟨vp, vm, he, K⟩ := cueP H
 subst he
 obtain ⟨vp', p1, p2, p3⟩ := sf_fz K fz_cPoint hn d
 obtain ⟨vm', m1, m2, m3⟩ := sf_fz (hs_drop K) fz_cMove hn d
 refine ⟨cCueH x vp' vm', ?_, ?_, ?_⟩
 ·simp [cCueH, A.frzL, A.frz, p1, m1]
 ·simp only [cCueH, List.any_cons, List.any_nil, p2, m2]; rfl
 ·simp only [cCueH, shCue, A.nnL, nn_k, p3, m3]; rfl
theorem elsF_fz : ∀ {seg : List (List AV)} {l : List CueD} {R : HP}, Hs B σ0 σ (els CueF seg l * R) → ∀ {n : Nat}, n ≤ σ0.length → ∀ (d : Nat), ∃ seg', A.frzLL σ n (d + 1) seg = some seg' ∧ seg'.map (A.nnL shCue) = l.map cCue
 | [], [], R, H, n, hn, d => ⟨[], by simp [A.frzLL], rfl⟩
 | [], _ :: _, R, H, n, hn, d => (hs_pr.1 H).1.elim
 | _ :: _, [], R, H, n, hn, d => (hs_pr.1 H).1.elim
 | e :: seg, x :: l, R, H, n, hn, d => by
  rw [els, star_assoc] at H
  obtain ⟨e', h1, _, h3⟩ := cueF_fz H hn d
  obtain ⟨seg', k1, k2⟩ := elsF_fz (hs_drop H) hn d
  exact ⟨e' :: seg', by simp [A.frzLL, h1, k1], by simp [h3, k2]⟩
theorem els_weak : ∀ {seg : List (List AV)} {l : List CueD} {R : HP}, Hs B σ0 σ (els CueE seg l * R) → Hs B σ0 σ (els CueF seg l * R)
 | [], [], R, H => H
 | [], _ :: _, R, H => H
 | _ :: _, [], R, H => H
 | e :: seg, x :: l, R, H => by
  rw [els] at H ⊢
  have H2 := els_weak (hs_eq (show _ = els CueE seg l * (CueE e x * R) by ac_rfl) H)
  have H3 := cue_weak (hs_eq (show _ = CueE e x * (els CueF seg l * R) by ac_rfl) H2)
  exact hs_eq (by ac_rfl) H3
variable {v : AV} {l : List CueD}
theorem cues_weak (H : Hs B σ0 σ (Sl CueE 11 v l * R)) : Hs B σ0 σ (Sl CueF 11 v l * R) := by
 rcases sl_cases H with ⟨rfl, hv, H⟩ | ⟨id, g, seg, rfl, hl, H⟩
 ·exact slz H hv
 ·have H2 := els_weak (hs_eq (show _ = els CueE seg l * (blk id (.arr g 11 seg) * R) by ac_rfl) H)
  exact sl_os (id := id) (g := g) (seg := seg) (hs_eq (by ac_rfl) H2)
theorem cuesF_fz (H : Hs B σ0 σ (Sl CueF 11 v l * R)) {n : Nat} (hn : n ≤ σ0.length) (d : Nat) : ∃ v', A.frz σ n (d + 2) v = some v' ∧ A.own1 v' = false ∧ A.nn (.e 11 shCue) v' = sl 11 cCue l := by
 rcases sl_cases H with ⟨rfl, rfl | rfl, _⟩ | ⟨id, g, seg, rfl, hl, H⟩
 ·exact ⟨.nsl, by simp [A.frz], rfl, rfl⟩
 ·exact ⟨.ez, by simp [A.frz], rfl, rfl⟩
 ·obtain ⟨h1, h2⟩ := hs_get H
  obtain ⟨seg', k1, k2⟩ := elsF_fz (hs_eq (show _ = els CueF seg l * (blk id (.arr g 11 seg) * R) by ac_rfl) H) hn d
  refine ⟨.sl 11 seg', ?_, rfl, ?_⟩
  ·simp only [A.frz, if_neg (show ¬ id < n by omega), h2]
   rw [if_pos (by simp; omega), List.drop_zero, List.take_of_length_le (by omega), frzLL_eq, k1]
   rfl
  ·simp only [A.nn, k2]; rfl
theorem nn_idem_cues (l : List CueD) : A.nn (.e 11 shCue) (sl 11 cCue l) = sl 11 cCue l := nn_e (fun _ => rfl) l
theorem lt_cuesF (H : Hs B σ0 σ (Sl CueF 11 v l * R)) : Lt σ (.e 11 shCue) v (sl 11 cCue l) := by
 obtain ⟨v', h1, h2, h3⟩ := cuesF_fz H (Nat.zero_le _) 6
 refine ⟨⟨v', h1, ?_, by rw [h3, nn_idem_cues]⟩, rfl, fun ho => ?_⟩
 ·rcases sl_cases H with ⟨rfl, rfl | rfl, _⟩ | ⟨id, g, seg, rfl, hl, H⟩
  ·simp [A.frz] at h1; subst h1; rfl
  ·simp [A.frz] at h1; subst h1; rfl
  ·cases v' <;> first | rfl | cases h2 | skip
   rename_i cs
   simp only [A.nn] at h3
   cases h3
 ·rcases sl_cases H with ⟨rfl, rfl | rfl, _⟩ | ⟨id, g, seg, rfl, hl, H⟩
  ·rfl
  ·rfl
  ·cases ho
theorem lt_cues (H : Hs B σ0 σ (Sl CueE 11 v l * R)) : Lt σ (.e 11 shCue) v (sl 11 cCue l) := lt_cuesF (cues_weak H)
theorem lt_cueF (H : Hs B σ0 σ (CueF e x * R)) : Lt σ (.a shCue) (.agg e) (.agg (cCue x)) := by
 obtain ⟨e', h1, h2, h3⟩ := cueF_fz H (Nat.zero_le _) 7
 obtain ⟨vp, vm, he, K0⟩ := cueP H
 refine ⟨⟨.agg e', by simp [A.frz, h1], by simpa [A.own] using h2, ?_⟩, rfl, fun ho => ?_⟩
 ·simp only [A.nn, h3]
  rw [show A.nnL shCue (cCue x) = cCue x from rfl]
 ·subst he
  have hp : A.own1 vp = false ∧ A.own1 vm = false := by
   simp only [A.own, cCueH, List.any_cons, List.any_nil, Bool.or_eq_false_iff] at ho
   exact ⟨ho.2.2.2.2.2.2.2.1, ho.2.2.2.2.2.2.2.2.2.2.1⟩
  have q1 : A.nn (.s 2) vp = sl 2 cPoint x.curve.points := by
   rcases sf_cases K0 with ⟨rfl, _⟩ | K
   ·rfl
   ·rcases slf_cases K with ⟨e0, rfl | rfl, _⟩ | ⟨id, g, rfl, _⟩
    ·rw [e0]; rfl
    ·rw [e0]; rfl
    ·cases hp.1
  have q2 : A.nn (.s 8) vm = sl 8 cMove x.moves := by
   rcases sf_cases (hs_drop K0) with ⟨rfl, _⟩ | K
   ·rfl
   ·rcases slf_cases K with ⟨e0, rfl | rfl, _⟩ | ⟨id, g, rfl, _⟩
    ·rw [e0]; rfl
    ·rw [e0]; rfl
    ·cases hp.2
  have q3 : A.nnL shCue (cCueH x vp vm) = cCue x := by simp only [cCueH, shCue, A.nnL, nn_k, q1, q2]; rfl
  show AV.agg (A.nnL shCue (cCueH x vp vm)) = AV.agg (A.nnL shCue (cCue x))
  rw [q3]; rfl
end
end Go.Proofs.Ytphgchakmkankaa

namespace Go.Proofs.Ytphgchakmkankaa
set_option linter.unusedSectionVars false
set_option linter.unusedVariables false
set_option linter.unusedSimpArgs false
open HP
theorem loop_hs {α : Type} {f : List AV → Heap → Option LS} {Q : LS → Prop} (l : List α) (I : Nat → List AV → Heap → Prop) {v0 : List AV} {σ : Heap}
  (hstep : ∀ i x v σ, l[i]? = some x → I i v σ → ∃ v' σ', f v σ = some (.normal, v', σ') ∧ I (i + 1) v' σ')
  (hend : ∀ v σ, I l.length v σ → ∃ q, f v σ = some q ∧ q.1 ≠ .normal ∧ Q q) (h0 : I 0 v0 σ) : ∃ q, A.loop f v0 σ = some q ∧ Q q := by
 have key : ∀ (k i : Nat) v σ, l.length - i ≤ k → i ≤ l.length → I i v σ → ∃ q, (∃ n, A.iter f n v σ = some q) ∧ Q q := by
  intro k
  induction k with
  | zero =>
   intro i v σ hk hle hI
   have : i = l.length := by omega
   subst this
   obtain ⟨q, h1, h2, h3⟩ := hend v σ hI
   exact ⟨q, loop_done h1 h2, h3⟩
  | succ k ih =>
   intro i v σ hk hle hI
   by_cases hi : i < l.length
   ·obtain ⟨v', σ', h1, h2⟩ := hstep i _ v σ (List.getElem?_eq_getElem hi) hI
    obtain ⟨q, hq, hQ⟩ := ih (i + 1) v' σ' (by omega) (by omega) h2
    exact ⟨q, loop_step h1 hq, hQ⟩
   ·have : i = l.length := by omega
    subst this
    obtain ⟨q, h1, h2, h3⟩ := hend v σ hI
    exact ⟨q, loop_done h1 h2, h3⟩
 obtain ⟨q, ⟨n, hn⟩, hQ⟩ := key _ 0 v0 σ (Nat.le_refl _) (Nat.zero_le _) h0
 exact ⟨q, loop_of_iter hn, hQ⟩
theorem loop_k {β : Type} {f : List AV → Heap → Option LS} {K : LS → Option β} {v0 : List AV} {σ : Heap} {P : β → Prop} {Q : LS → Prop} (h : ∃ q, A.loop f v0 σ = some q ∧ Q q) (k : ∀ q, Q q → ∃ b, K q = some b ∧ P b) : ∃ b, (A.loop f v0 σ).bind K = some b ∧ P b := by
 obtain ⟨q, h1, h2⟩ := h
 obtain ⟨b, h3, h4⟩ := k q h2
 exact ⟨b, by rw [h1]; exact h3, h4⟩
section
variable {α : Type} {c : α → List AV} {sz : Nat} {B : Blk → Prop} {σ0 σ : Heap} {R : HP} {v : AV} {l : List α}
theorem slf_at (H : Hs B σ0 σ (Sl (fl c) sz v l * R)) {i : Nat} {x : α} (hx : l[i]? = some x) : ∃ p, A.iaddr sz v (.int .i64 (i : Int)) = some p ∧ A.deref p σ = some (c x) := by
 have hi := (List.getElem?_eq_some_iff.1 hx).1
 rcases slf_cases H with ⟨rfl, _, _⟩ | ⟨id, g, rfl, K⟩
 ·simp at hx
 ·obtain ⟨h1, h2⟩ := hs_get K
  have hi' : ((i : Int) < (l.length : Int)) := by omega
  exact ⟨.oe id g i 0, by simp [A.iaddr, A.idx, hi'], by simp [A.deref, h2, hx]⟩
theorem clo_gen {most : Nat} {m r : List AV → Heap → Option (AV × Heap)} {r0 : AV → Heap → Option (AV × Heap)} (hm : m = A.cloneZ (A.wrap true [(.s sz)] .k (A.ar1 r0))) (hr : ∀ a σ, r0 a σ = (A.eqN a .nsl).bind fun x1 => A.cond x1 (some (.nsl, σ)) ((A.append sz most .ez a σ).bind fun r2 => some (r2.1, r2.2)))
  (hl : l.length ≤ most) (hB : ∀ g g' seg, (seg = [] ∨ B (.arr g sz seg)) → B (.arr g' sz (seg ++ l.map c))) (H : Hs B σ0 σ R) : ∃ v σ', m [sl sz c l] σ = some (v, σ') ∧ A.cell v = some v ∧ Hs B σ0 σ' (Sl (fl c) sz v l * R) := by
 subst hm
 cases l with
 | nil => exact ⟨.ez, σ, rfl, rfl, slz H (.inr rfl)⟩
 | cons x l =>
  obtain ⟨v', σ', e1, H2⟩ := sl_app (B := B) (E := fl c) (sz := sz) (v := .ez) (l := []) (ys := (x :: l).map c) (xs := x :: l) (most := most) (slz (els_fl.2 ⟨rfl, H⟩) (.inr rfl)) (by simpa using hl) hB
  have hv : A.cell v' = some v' := by
   rcases slf_cases H2 with ⟨h, _, _⟩ | ⟨id, g, rfl, _⟩
   ·cases h
   ·rfl
  refine ⟨v', σ', ?_, hv, H2⟩
  show A.wrap true [(.s sz)] .k (A.ar1 r0) [sl sz c (x :: l)] σ = _
  refine wrap_eq rfl ?_ rfl
  show r0 (sl sz c (x :: l)) σ = _
  rw [hr, show A.eqN (sl sz c (x :: l)) .nsl = some (.bool false) from rfl, Option.bind_some, cnd_f, show sl sz c (x :: l) = .sl sz ((x :: l).map c) from rfl, e1]
  rfl
end
section
variable {σ0 σ : Heap} {R : HP}
theorem cloM {l : List MoveD} (hl : l.length ≤ 2199023255552) (H : Hs anyB σ0 σ R) : ∃ v σ', m_slices_Clone_api_Move [sl 8 cMove l] σ = some (v, σ') ∧ A.cell v = some v ∧ Hs anyB σ0 σ' (Sl (fl cMove) 8 v l * R) :=
 clo_gen (most := 140737488355328 / 64) (r := fun _ _ => none) rfl (fun _ _ => rfl) (by simpa using hl) (fun _ _ _ _ => trivial) H
theorem cloP {l : List PointD} (hl : l.length ≤ 8796093022208) (H : Hs anyB σ0 σ R) : ∃ v σ', m_slices_Clone_api_Point [sl 2 cPoint l] σ = some (v, σ') ∧ A.cell v = some v ∧ Hs anyB σ0 σ' (Sl (fl cPoint) 2 v l * R) :=
 clo_gen (most := 140737488355328 / 16) (r := fun _ _ => none) rfl (fun _ _ => rfl) (by simpa using hl) (fun _ _ _ _ => trivial) H
def putM (l : List MoveD) (m : MoveD) : List MoveD := if hasM l m.key = true then l.set (posM l m.key) m else l.take (posM l m.key) ++ [m] ++ l.drop (posM l m.key)
theorem hasM_lt {l : List MoveD} (hs : srtM l) {k : KeyD} (h : hasM l k = true) : ∃ x, l[posM l k]? = some x := by
 rw [← posM_has hs] at h
 cases hx : l[posM l k]? with
 | none => rw [hx] at h; cases h
 | some x => exact ⟨x, rfl⟩
theorem insM {v : AV} {l : List MoveD} {m : MoveD} {i : Nat} (hi : i ≤ l.length) (hl : l.length < 2199023255552) (H : Hs anyB σ0 σ (Sl (fl cMove) 8 v l * R)) :
  ∃ v' σ', m_slices_Insert_api_Move [v, .int .i64 (i : Int), .sl 8 [cMove m]] σ = some (v', σ') ∧ A.cell v' = some v' ∧ Hs anyB σ0 σ' (Sl (fl cMove) 8 v' (l.take i ++ [m] ++ l.drop i) * R) := by
 obtain ⟨v', σ', e, H2⟩ := sl_ins (most := 140737488355328 / 64) (zs := [(AV.int .i64 0), (AV.str ⟨#[]⟩), (AV.int .i64 0), (AV.int .i64 0), (AV.bool false), (AV.bool false), (AV.int .i64 0), (AV.int .i64 0)]) (rot := m_slices_rotateRight_api_Move) (B := anyB) (E := fl cMove) (y := m) (ye := cMove m)
  (hs_eq (show pr (cMove m = cMove m) * (Sl (fl cMove) 8 v l * R) = _ by rw [show fl cMove (cMove m) m = pr (cMove m = cMove m) from rfl]; ac_rfl) (hs_pr.2 ⟨rfl, H⟩)) hi (by omega) (by omega) (fun _ _ _ _ _ => trivial)
 have hv : A.cell v' = some v' := by
  rcases slf_cases H2 with ⟨h, _, _⟩ | ⟨id, g, rfl, _⟩
  ·simp at h
  ·rfl
 refine ⟨v', σ', ?_, hv, H2⟩
 unfold m_slices_Insert_api_Move A.wrap
 rw [Bool.false_and, cond_false, show A.nnL [] [v, .int .i64 (i : Int), .sl 8 [cMove m]] = [v, .int .i64 (i : Int), .sl 8 [cMove m]] by simp [A.nnL]]
 show (r_slices_Insert_api_Move v (.int .i64 (i : Int)) (.sl 8 [cMove m]) σ).map _ = _
 rw [show r_slices_Insert_api_Move v (.int .i64 (i : Int)) (.sl 8 [cMove m]) σ = some (v', σ') from e]
 simp [nn_k]
theorem cell_sl {α : Type} {E : List AV → α → HP} {sz : Nat} {B : Blk → Prop} {v : AV} {l : List α} (H : Hs B σ0 σ (Sl E sz v l * R)) : A.cell v = some v := by
 rcases sl_cases H with ⟨_, rfl | rfl, _⟩ | ⟨id, g, seg, rfl, _⟩ <;> rfl
theorem row_move (m : MoveD) : (((A.cells 8 (.agg (cMove m))).bind fun c22 => (A.splice 0 c22 [(AV.int .i64 0), (AV.str ⟨#[]⟩), (AV.int .i64 0), (AV.int .i64 0), (AV.bool false), (AV.bool false), (AV.int .i64 0), (AV.int .i64 0)]).bind fun c23 => some c23).bind fun cs => some (AV.sl 8 (chunks 8 1 cs))) = some (.sl 8 [cMove m]) := rfl
theorem setM {v : AV} {l : List MoveD} {m : MoveD} {i : Nat} {x : MoveD} (hx : l[i]? = some x) (H : Hs anyB σ0 σ (Sl (fl cMove) 8 v l * R)) :
  ∃ p σ', A.iaddr 8 v (.int .i64 (i : Int)) = some p ∧ A.storeAt p (cMove m) σ = some σ' ∧ Hs anyB σ0 σ' (Sl (fl cMove) 8 v (l.set i m) * R) := by
 obtain ⟨p, F, e, h1, hC, K, back⟩ := sl_cell H hx
 have he : e = cMove x := (hs_pr.1 (hs_drop K)).1
 subst he
 have K2 := hs_drop (hs_eq (show _ = pr (cMove x = cMove x) * (F (cMove x) * R) by rw [show fl cMove (cMove x) x = pr (cMove x = cMove x) from rfl]; ac_rfl) K)
 obtain ⟨σ', h2, K3⟩ := hC.st K2 (sp_cMove m (cMove x) rfl)
 refine ⟨p, σ', h1, h2, back (e := cMove m) (hs_eq (show pr (cMove m = cMove m) * (F (cMove m) * R) = _ by rw [show fl cMove (cMove m) m = pr (cMove m = cMove m) from rfl]; ac_rfl) (hs_pr.2 ⟨rfl, K3⟩))⟩
theorem faddr_at {p : AV} {F : List AV → HP} (hC : Cl p F) {e : List AV} (o : Nat) (H : Hs anyB σ0 σ (F e * R)) {vm : AV} (h1 : A.part1 0 (e.drop o) = some vm) : ∃ q, A.faddr o p = some q ∧ ((A.deref q σ).bind fun c => A.part1 0 c) = some vm := by
 obtain ⟨q, a1, a2, _⟩ := hC.fa o
 exact ⟨q, a1, by rw [a2 H, Option.bind_some, h1]⟩
theorem moveAt_own {e : List AV} {x : CueD} (H : Hs anyB σ0 σ (CueF e x * R)) (hs : srtM x.moves) (hl : x.moves.length < 4611686018427387904) (k : KeyD) : m_cue_moveAt [.agg e, .agg (cKey k)] σ = some (.tup [.int .i64 (posM x.moves k : Int), .bool (hasM x.moves k)], σ) :=
 lent (ain := [.a shCue]) (ts := [.agg (cCue x), .agg (cKey k)]) ⟨lt_cueF H, lt_fz (fz_agg (fz_cKey k)) rfl, trivial⟩ (fun σ => moveAt_t hs hl k σ) rfl
theorem put_s {p : AV} {F : List AV → HP} {e : List AV} {x : CueD} {m : MoveD} (hC : Cl p F) (H : Hs anyB σ0 σ (F e * (CueE e x * R))) (hs : srtM x.moves) (hl : x.moves.length < 2199023255552) :
  ∃ σ' e', m_cue_put [p, .agg (cMove m)] σ = some (.tup [], σ') ∧ Hs anyB σ0 σ' (F e' * (CueE e' { x with moves := putM x.moves m } * R)) := by
 obtain ⟨vp, vm, he, K⟩ := cueP (hs_eq (show _ = CueP (Sl (fl cMove) 8) e x * (F e * R) from by rw [show CueE e x = CueP (Sl (fl cMove) 8) e x from rfl]; ac_rfl) H)
 have hat := moveAt_own (cue_weak (hs_eq (show _ = CueE e x * (F e * R) by ac_rfl) H)) hs (by omega) m.key
 have hld := hC.ld H
 have hmv : Hs anyB σ0 σ (Sl (fl cMove) 8 vm x.moves * (F e * (Sf cPoint 2 vp x.curve.points * R))) := hs_eq (by ac_rfl) K
 have mk : ∀ {σ : Heap} {vm' : AV} {l : List MoveD}, Hs anyB σ0 σ (F (cCueH x vp vm') * (Sl (fl cMove) 8 vm' l * (Sf cPoint 2 vp x.curve.points * R))) → Hs anyB σ0 σ (F (cCueH x vp vm') * (CueE (cCueH x vp vm') { x with moves := l } * R)) := by
  intro σ vm' l K
  have := cueP_of (M := Sl (fl cMove) 8) (x := { x with moves := l }) (e := cCueH x vp vm') (vp := vp) (vm := vm') (R := F (cCueH x vp vm') * R) (B := anyB) (σ0 := σ0) (σ := σ) rfl (hs_eq (by ac_rfl) K)
  exact hs_eq (by rw [show CueE (cCueH x vp vm') { x with moves := l } = CueP (Sl (fl cMove) 8) (cCueH x vp vm') { x with moves := l } from rfl]; ac_rfl) this
 have run : ∃ σ' e', r_cue_put p (.agg (cMove m)) σ = some (.tup [], σ') ∧ Hs anyB σ0 σ' (F e' * (CueE e' { x with moves := putM x.moves m } * R)) := by
  subst he
  unfold r_cue_put
  rw [ce_cMove, Option.bind_some, hC.nc, Option.bind_some, hld, Option.bind_some]
  rw [show A.partA 0 11 (cCueH x vp vm) = some (.agg (cCueH x vp vm)) from rfl, Option.bind_some, pA_cMove_key, Option.bind_some, quiet_of hat, Option.bind_some]
  show ∃ σ' e', A.cond (.bool (hasM x.moves m.key)) _ _ = _ ∧ _
  obtain ⟨q, f1, f2⟩ := faddr_at hC 10 H (vm := vm) (by
   have := cell_sl hmv
   simp only [cCueH, List.drop_succ_cons, List.drop_zero, A.part1, List.getElem?_cons_zero, Option.bind_some]
   exact this)
  cases hh : hasM x.moves m.key
  ·rw [cnd_f]
   rw [Option.bind_some, f1, Option.bind_some, f2, Option.bind_some, pA_cMove, Option.bind_some, row_move, Option.bind_some]
   obtain ⟨v', σ1, e1, e2, H1⟩ := insM (m := m) (posM_le x.moves m.key) hl hmv
   rw [e1, Option.bind_some, Option.bind_some]
   simp only
   rw [f1, Option.bind_some, e2, Option.bind_some, Option.bind_some]
   obtain ⟨q', g1, _, g3⟩ := hC.fa 10
   rw [f1] at g1; injection g1 with g1; subst g1
   obtain ⟨σ2, e3, H2⟩ := g3 (hs_eq (show _ = F (cCueH x vp vm) * (Sl (fl cMove) 8 v' (x.moves.take (posM x.moves m.key) ++ [m] ++ x.moves.drop (posM x.moves m.key)) * (Sf cPoint 2 vp x.curve.points * R)) by ac_rfl) H1) (new := [v']) (e' := cCueH x vp v') rfl
   rw [e3, Option.bind_some]
   refine ⟨σ2, cCueH x vp v', rfl, ?_⟩
   rw [putM, if_neg (by rw [hh]; decide)]
   exact mk H2
  ·rw [cnd_t]
   obtain ⟨y, hy⟩ := hasM_lt hs hh
   obtain ⟨pp, σ1, e1, e2, H1⟩ := setM (m := m) hy hmv
   rw [Option.bind_some, f1, Option.bind_some, f2, Option.bind_some, pA_cMove, Option.bind_some, e1, Option.bind_some, ce_cMove, Option.bind_some, e2, Option.bind_some]
   refine ⟨σ1, cCueH x vp vm, rfl, ?_⟩
   rw [putM, if_pos hh]
   exact mk (hs_eq (by ac_rfl) H1)
 obtain ⟨σ', e', h1, h2⟩ := run
 refine ⟨σ', e', ?_, h2⟩
 unfold m_cue_put A.wrap
 rw [Bool.false_and, cond_false, show A.nnL [] [p, .agg (cMove m)] = [p, .agg (cMove m)] by simp [A.nnL]]
 show (r_cue_put p (.agg (cMove m)) σ).map _ = _
 rw [h1]
 simp [nn_k]
end
end Go.Proofs.Ytphgchakmkankaa

namespace Go.Proofs.Ytphgchakmkankaa
set_option linter.unusedSectionVars false
set_option linter.unusedVariables false
set_option linter.unusedSimpArgs false
open HP
section
variable {σ0 σ : Heap} {R : HP}
def Small (l : List CueD) : Prop := l.length ≤ 1099511627776 ∧ ∀ c ∈ l, c.moves.length ≤ 2199023255552 ∧ c.curve.points.length ≤ 8796093022208
theorem row_cueH (x : CueD) (vp vm : AV) : (((A.cells 11 (.agg (cCueH x vp vm))).bind fun c20 => (A.splice 0 c20 [(AV.int .i64 0), (AV.str ⟨#[]⟩), (AV.int .i64 0), (AV.int .i64 0), (AV.int .i64 0), (AV.int .i64 0), (AV.int .i64 0), AV.nsl, (AV.bool false), (AV.int .i64 0), AV.nsl]).bind fun c21 => some c21).bind fun cs => some (AV.sl 11 (chunks 11 1 cs))) = some (.sl 11 [cCueH x vp vm]) := rfl
theorem part_cell {v : AV} (h : A.cell v = some v) (cs : List AV) (i : Nat) (hi : cs[i]? = some v) : A.part1 i cs = some v := by
 simp [A.part1, hi, h]
theorem copied_s {l : List CueD} (hl : Small l) (hx : l.length ≤ mxl) (H : Hs anyB σ0 σ R) : ∃ v σ', m_cue_copied [sl 11 cCue l] σ = some (v, σ') ∧ Hs anyB σ0 σ' (Sl CueE 11 v l * R) := by
 have run : ∃ b : AV × Heap, r_cue_copied (sl 11 cCue l) σ = some b ∧ Hs anyB σ0 b.2 (Sl CueE 11 b.1 l * R) := by
  unfold r_cue_copied
  rw [lenS_sl, Option.bind_some]
  refine loop_k (Q := fun q => ∃ v w, q.1 = .exit 0 ∧ q.2.1 = [v, w] ∧ Hs anyB σ0 q.2.2 (Sl CueE 11 v l * R)) (loop_hs l (fun i v s => ∃ h, v = [h, .int .i64 (i : Int)] ∧ Hs anyB σ0 s (Sl CueE 11 h (l.take i) * R)) ?_ ?_ ⟨.nsl, rfl, slz H (.inl rfl)⟩) ?_
  ·rintro i x v s hx1 ⟨h, rfl, K⟩
   obtain ⟨hm, hp⟩ := hl.2 x (List.mem_of_getElem? hx1)
   have hi := (List.getElem?_eq_some_iff.1 hx1).1
   simp only [List.getD_cons_succ, List.getD_cons_zero]
   rw [ix_lt hx1, Option.bind_some, cnd_t, ix_for hx1, Option.bind_some]
   simp only [A.deref, Option.bind_some]
   rw [pA_cCue, Option.bind_some, ce_cCue, Option.bind_some, sp_cCue _ _ rfl, Option.bind_some, show A.part1 7 (cCue x) = some (sl 2 cPoint x.curve.points) from rfl, Option.bind_some]
   obtain ⟨vp, s1, e1, e2, K1⟩ := cloP hp K
   rw [e1, Option.bind_some, e2, Option.bind_some, Option.bind_some, show A.splice 7 [vp] (cCue x) = some (cCueH x vp (sl 8 cMove x.moves)) from rfl, Option.bind_some, show A.part1 10 (cCueH x vp (sl 8 cMove x.moves)) = some (sl 8 cMove x.moves) from rfl, Option.bind_some]
   obtain ⟨vm, s2, e3, e4, K2⟩ := cloM hm K1
   rw [e3, Option.bind_some, e4, Option.bind_some, Option.bind_some, show A.splice 10 [vm] (cCueH x vp (sl 8 cMove x.moves)) = some (cCueH x vp vm) from rfl, Option.bind_some, show A.partA 0 11 (cCueH x vp vm) = some (.agg (cCueH x vp vm)) from rfl, Option.bind_some, row_cueH, Option.bind_some]
   have K3 := cueP_of (M := Sl (fl cMove) 8) (x := x) (e := cCueH x vp vm) rfl (hs_eq (show _ = Sf cPoint 2 vp x.curve.points * (Sl (fl cMove) 8 vm x.moves * (Sl CueE 11 h (l.take i) * R)) by ac_rfl) (sf_own (hs_eq (show _ = Sl (fl cPoint) 2 vp x.curve.points * (Sl (fl cMove) 8 vm x.moves * (Sl CueE 11 h (l.take i) * R)) by ac_rfl) K2)))
   have K4 := hs_eq (show _ = Sl CueE 11 h (l.take i) * (els CueE [cCueH x vp vm] [x] * R) by rw [els_one, show CueE (cCueH x vp vm) x = CueP (Sl (fl cMove) 8) (cCueH x vp vm) x from rfl]; ac_rfl) K3
   have hm2 := hl.1
   obtain ⟨h', s3, e5, K5⟩ := sl_app (most := 140737488355328 / 128) K4 (by simp; omega) (fun _ _ _ _ => trivial)
   rw [e5, Option.bind_some, ix_inc hx1 hx, Option.bind_some]
   refine ⟨_, _, rfl, h', rfl, ?_⟩
   rw [List.take_add_one, hx1]
   exact K5
  ·rintro v s ⟨h, rfl, K⟩
   simp only [List.getD_cons_succ, List.getD_cons_zero]
   rw [ix_end, Option.bind_some, cnd_f]
   refine ⟨_, rfl, by simp, h, _, rfl, rfl, ?_⟩
   rw [List.take_length] at K; exact K
  ·rintro ⟨e, v, s⟩ ⟨h, w, h1, h2, K⟩
   simp only at h1 h2 K
   subst h1; subst h2
   exact ⟨_, rfl, K⟩
 obtain ⟨⟨v, σ'⟩, h1, h2⟩ := run
 refine ⟨v, σ', wrap_eq rfl ?_ rfl, h2⟩
 rw [show A.nnL [Sh.e 11 [.k, .k, .k, .k, .k, .k, .k, .s 2, .k, .k, .s 8]] [sl 11 cCue l] = [sl 11 cCue l] from nn_t1 (nn_e (fun _ => rfl) _) rfl]
 exact h1
theorem elsF_part {B : Blk → Prop} {seg : List (List AV)} {l : List CueD} {R : HP} (H : Hs B σ0 σ (els CueF seg l * R)) (hl : seg.length = l.length) (lo n : Nat) : Hs B σ0 σ (els CueF ((seg.drop lo).take n) ((l.drop lo).take n) * (els CueF (seg.take lo) (l.take lo) * (els CueF ((seg.drop lo).drop n) ((l.drop lo).drop n) * R))) := by
 refine hs_eq ?_ H
 have e1 : els CueF seg l = els CueF (seg.take lo) (l.take lo) * els CueF (seg.drop lo) (l.drop lo) := by
  rw [← els_app (by simp; omega), List.take_append_drop, List.take_append_drop]
 have e2 : els CueF (seg.drop lo) (l.drop lo) = els CueF ((seg.drop lo).take n) ((l.drop lo).take n) * els CueF ((seg.drop lo).drop n) ((l.drop lo).drop n) := by
  rw [← els_app (by simp; omega), List.take_append_drop, List.take_append_drop]
 rw [e1, e2]
 ac_rfl
theorem lt_part {v : AV} {l : List CueD} {lo hi : Nat} (H : Hs anyB σ0 σ (Sl CueE 11 v l * R)) (h1 : lo ≤ hi) (h2 : hi ≤ l.length) : ∃ v', A.sliceS 11 v (some (.int .i64 (lo : Int))) (some (.int .i64 (hi : Int))) σ = some v' ∧ Lt σ (.e 11 shCue) v' (sl 11 cCue ((l.drop lo).take (hi - lo))) := by
 rcases sl_cases (cues_weak H) with ⟨rfl, hv, _⟩ | ⟨id, g, seg, rfl, hl, K⟩
 ·have hz : hi = 0 := by simpa using h2
  have hz2 : lo = 0 := by omega
  subst hz; subst hz2
  rcases hv with rfl | rfl
  ·exact ⟨.nsl, by simp [A.sliceS, bnd_s (y := 0) (k := 0) (Nat.le_refl 0)]; rfl, lt_cues H⟩
  ·exact ⟨.ez, by simp [A.sliceS, bnd_s (y := 0) (k := 0) (Nat.le_refl 0)]; rfl, lt_cues H⟩
 ·obtain ⟨k1, k2⟩ := hs_get K
  refine ⟨_, slo (room_arr k2 (by omega)) (bnd_s (k := hi) (by omega)) (bnd_s (k := lo) h1), ?_⟩
  have K2 := elsF_part (hs_eq (show _ = els CueF seg l * (blk id (.arr g 11 seg) * R) by ac_rfl) K) hl lo (hi - lo)
  obtain ⟨seg', e1, e2⟩ := elsF_fz K2 (Nat.zero_le _) 6
  refine ⟨⟨.sl 11 seg', ?_, rfl, ?_⟩, rfl, fun ho => by cases ho⟩
  ·simp only [A.frz, Nat.not_lt_zero, if_false, k2]
   rw [if_pos (by simp; omega), Nat.zero_add, frzLL_eq, e1]
   rfl
  ·rw [nn_idem_cues]; simp only [A.nn, e2]; rfl
theorem moved_own {v v' : AV} {l : List CueD} {lo hi : Nat} (H : Hs anyB σ0 σ (Sl CueE 11 v l * R)) (h1 : lo ≤ hi) (h2 : hi ≤ l.length) (hl : l.length ≤ mxl) (hm : ∀ c ∈ l, srtM c.moves ∧ c.moves.length < 4611686018427387904) (k : KeyD) :
  ∃ v', A.sliceS 11 v (some (.int .i64 (lo : Int))) (some (.int .i64 (hi : Int))) σ = some v' ∧ m_cue_moved [v', .agg (cKey k)] σ = some (.bool (((l.drop lo).take (hi - lo)).any fun c => hasM c.moves k), σ) := by
 obtain ⟨v', e1, e2⟩ := lt_part H h1 h2
 refine ⟨v', e1, ?_⟩
 exact lent (ain := [.e 11 shCue]) (ts := [sl 11 cCue ((l.drop lo).take (hi - lo)), .agg (cKey k)]) ⟨e2, lt_fz (fz_agg (fz_cKey k)) rfl, trivial⟩
  (fun σ => moved_t (by simp; omega) (fun c hc => hm c (List.mem_of_mem_drop (List.mem_of_mem_take hc))) k σ) rfl
theorem blocked_own {v : AV} {l : List CueD} (H : Hs anyB σ0 σ (Sl CueE 11 v l * R)) (hl : l.length < 4611686018427387904) (i : Nat) : m_cue_blocked [v, .int .i64 (i : Int)] σ = some (.int .i64 (match blkF l i with | some j => (j : Int) | none => -1), σ) :=
 lent (ain := [.e 11 shCue]) (ts := [sl 11 cCue l, .int .i64 (i : Int)]) ⟨lt_cues H, lt_int _, trivial⟩ (fun σ => h_cue_blocked (blocked_t hl i)) rfl
theorem delC {v : AV} {l : List CueD} {i : Nat} {x : CueD} (hx : l[i]? = some x) (hl : l.length ≤ 1099511627776) (H : Hs anyB σ0 σ (Sl CueE 11 v l * R)) :
  ∃ v' σ' xe, (∃ p, A.iaddr 11 v (.int .i64 (i : Int)) = some p ∧ A.deref p σ = some xe) ∧ m_slices_Delete_api_Cue [v, .int .i64 (i : Int), .int .i64 ((i + 1 : Nat) : Int)] σ = some (v', σ') ∧ Hs anyB σ0 σ' (Sl CueE 11 v' (l.eraseIdx i) * (CueE xe x * R)) := by
 obtain ⟨v', σ', xe, e0, e, H2⟩ := sl_del (most := 140737488355328 / 128) (zs := [(AV.int .i64 0), (AV.str ⟨#[]⟩), (AV.int .i64 0), (AV.int .i64 0), (AV.int .i64 0), (AV.int .i64 0), (AV.int .i64 0), AV.nsl, (AV.bool false), (AV.int .i64 0), AV.nsl]) H hx (by omega) (by omega) (fun _ _ _ _ _ => trivial)
 refine ⟨v', σ', xe, e0, ?_, H2⟩
 unfold m_slices_Delete_api_Cue A.wrap
 rw [Bool.false_and, cond_false, show A.nnL [] [v, .int .i64 (i : Int), .int .i64 ((i + 1 : Nat) : Int)] = [v, .int .i64 (i : Int), .int .i64 ((i + 1 : Nat) : Int)] by simp [A.nnL]]
 show (r_slices_Delete_api_Cue v (.int .i64 (i : Int)) (.int .i64 ((i + 1 : Nat) : Int)) σ).map _ = _
 rw [show r_slices_Delete_api_Cue v (.int .i64 (i : Int)) (.int .i64 ((i + 1 : Nat) : Int)) σ = some (v', σ') from e]
 simp [nn_k]
theorem fin_hs {v v' : AV} (H : Hs anyB σ0 σ R) (h : A.frz σ σ0.length 8 v = some v') (hv : σ = σ0 → v' = v) : A.fin σ0 v σ = some (v', σ0) := by
 obtain ⟨⟨bs, rfl, _⟩, _⟩ := H
 by_cases hbs : bs = []
 ·subst hbs
  rw [List.append_nil] at h ⊢
  rw [fin_same, hv (by simp)]
 ·unfold A.fin
  rw [if_neg (by simpa using hbs), if_pos (by simp), h]; rfl
theorem fin_cues {v : AV} {l : List CueD} (H : Hs anyB σ0 σ (Sl CueF 11 v l * R)) : ∃ v', A.fin σ0 v σ = some (v', σ0) ∧ A.nn (.e 11 shCue) v' = sl 11 cCue l := by
 obtain ⟨v', h1, h2, h3⟩ := cuesF_fz H (Nat.le_refl _) 6
 refine ⟨v', fin_hs H h1 (fun e => ?_), h3⟩
 rcases sl_cases H with ⟨rfl, rfl | rfl, _⟩ | ⟨id, g, seg, rfl, hl, K⟩
 ·simp [A.frz] at h1; exact h1.symm
 ·simp [A.frz] at h1; exact h1.symm
 ·obtain ⟨k1, k2⟩ := hs_get K
  have := (List.getElem?_eq_some_iff.1 k2).1
  subst e; omega
end
end Go.Proofs.Ytphgchakmkankaa

namespace Go.Proofs.Ytphgchakmkankaa
set_option linter.unusedSectionVars false
set_option linter.unusedVariables false
set_option linter.unusedSimpArgs false
open HP
theorem small_of {l : List CueD} (h : Good l) : Small l := ⟨by have := h.len; omega, fun c hc => ⟨by have := (h.mv c hc).1; omega, by have := h.pts c hc; omega⟩⟩
theorem srt_put {l : List MoveD} (h : srtM l) (m : MoveD) : srtM (putM l m) := by
 unfold putM
 have hlt : ∀ x ∈ l.take (posM l m.key), ltK x.key m.key = true := fun x hx => by
  obtain ⟨i, hi⟩ := List.mem_iff_getElem?.1 hx
  rw [List.getElem?_take] at hi
  split at hi
  ·rename_i hlt; exact (posM_lt h hi).2 hlt
  ·cases hi
 have hge : ∀ x ∈ l.drop (posM l m.key), ltK x.key m.key = false := fun x hx => by
  obtain ⟨i, hi⟩ := List.mem_iff_getElem?.1 hx
  rw [List.getElem?_drop] at hi
  cases hq : ltK x.key m.key
  ·rfl
  ·have := (posM_lt h hi).1 hq; omega
 split
 ·rename_i hh
  obtain ⟨y, hy⟩ := hasM_lt h hh
  have hk : y.key = m.key := by
   have := posM_has (k := m.key) h
   rw [hh, hy] at this
   simpa using this
  unfold srtM at h ⊢
  rw [List.pairwise_iff_getElem] at h ⊢
  intro i j hi hj hij
  simp only [List.length_set] at hi hj
  have hp := (List.getElem?_eq_some_iff.1 hy).1
  have key : ∀ k (hk' : k < l.length), ((l.set (posM l m.key) m)[k]'(by simpa using hk')).key = l[k].key := by
   intro k hk'
   rw [List.getElem_set]
   split
   ·rename_i e; subst e; exact hk.symm.trans (congrArg MoveD.key (List.getElem?_eq_some_iff.1 hy).2.symm)
   ·rfl
  rw [key i hi, key j hj]
  exact h i j hi hj hij
 ·rename_i hh
  unfold srtM at h ⊢
  rw [List.append_assoc, List.pairwise_append]
  refine ⟨h.sublist (List.take_sublist _ _), ?_, fun x hx y hy => ?_⟩
  ·rw [List.singleton_append, List.pairwise_cons]
   refine ⟨fun y hy => ?_, h.sublist (List.drop_sublist _ _)⟩
   cases hq : ltK m.key y.key
   ·exfalso
    have e := ltK_tri hq (hge y hy)
    exact hh (List.any_eq_true.2 ⟨y, List.mem_of_mem_drop hy, by simp [e]⟩)
   ·rfl
  ·rcases List.mem_append.1 hy with hy | hy
   ·simp at hy; subst hy; exact hlt x hx
   ·have e : l.take (posM l m.key) ++ l.drop (posM l m.key) = l := List.take_append_drop _ _
    rw [← e, List.pairwise_append] at h
    exact h.2.2 x hx y hy
theorem put_len (l : List MoveD) (m : MoveD) : (putM l m).length ≤ l.length + 1 := by
 unfold putM
 split
 ·simp
 ·simp; omega
theorem has_put {l : List MoveD} (hs : srtM l) (m : MoveD) (k : KeyD) : hasM (putM l m) k = (hasM l k || decide (m.key = k)) := by
 rw [Bool.eq_iff_iff]
 simp only [Bool.or_eq_true, decide_eq_true_eq]
 unfold hasM putM
 split
 ·rename_i hh
  obtain ⟨y, hy⟩ := hasM_lt hs hh
  have hp := (List.getElem?_eq_some_iff.1 hy).1
  have hk : y.key = m.key := by
   have := posM_has (k := m.key) hs
   rw [hh, hy] at this
   simpa using this
  simp only [List.any_eq_true, decide_eq_true_eq]
  constructor
  ·rintro ⟨x, hx, e⟩
   rcases List.mem_or_eq_of_mem_set hx with hx | hx
   ·exact .inl ⟨x, hx, e⟩
   ·subst hx; exact .inr e
  ·rintro (⟨x, hx, e⟩ | e)
   ·by_cases hm : m.key = k
    ·exact ⟨m, List.mem_of_getElem? (i := posM l m.key) (by rw [List.getElem?_set_self hp]), hm⟩
    ·obtain ⟨i, hi⟩ := List.mem_iff_getElem?.1 hx
     have hne : posM l m.key ≠ i := fun e' => hm (by rw [← e', hy] at hi; injection hi with hi; rw [← hk, hi, e])
     exact ⟨x, List.mem_of_getElem? (i := i) (by rw [List.getElem?_set_ne hne, hi]), e⟩
   ·exact ⟨m, List.mem_of_getElem? (i := posM l m.key) (by rw [List.getElem?_set_self hp]), e⟩
 ·have e : l = l.take (posM l m.key) ++ l.drop (posM l m.key) := (List.take_append_drop _ _).symm
  simp only [List.any_append, List.any_cons, List.any_nil, Bool.or_eq_true, decide_eq_true_eq, Bool.or_false]
  conv => rhs; lhs; rw [e, List.any_append, Bool.or_eq_true]
  constructor
  ·rintro ((h | h) | h)
   ·exact .inl (.inl h)
   ·exact .inr h
   ·exact .inl (.inr h)
  ·rintro ((h | h) | h)
   ·exact .inl (.inl h)
   ·exact .inr h
   ·exact .inl (.inr h)
def setMv (l : List CueD) (i : Nat) (g : List MoveD → List MoveD) : List CueD := match l[i]? with
 | some c => l.set i { c with moves := g c.moves }
 | none => l
theorem setMv_len (l : List CueD) (i : Nat) (g : List MoveD → List MoveD) : (setMv l i g).length = l.length := by unfold setMv; split <;> simp
def Inv (k : Nat) (l : List CueD) : Prop := l.length ≤ 1000 ∧ ∀ c ∈ l, srtM c.moves ∧ c.moves.length ≤ 2000 + k
theorem Inv.mono {k k' : Nat} {l : List CueD} (h : Inv k l) (hk : k ≤ k') : Inv k' l := ⟨h.1, fun c hc => ⟨(h.2 c hc).1, by have := (h.2 c hc).2; omega⟩⟩
theorem Inv.setMv {k : Nat} {l : List CueD} (h : Inv k l) (i : Nat) (m : MoveD) : Inv (k + 1) (setMv l i (putM · m)) := by
 refine ⟨by rw [setMv_len]; exact h.1, fun c hc => ?_⟩
 unfold Go.Proofs.Ytphgchakmkankaa.setMv at hc
 split at hc
 ·rename_i x hx
  rcases List.mem_or_eq_of_mem_set hc with hc | hc
  ·exact ⟨(h.2 c hc).1, by have := (h.2 c hc).2; omega⟩
  ·subst hc
   have hx' := h.2 x (List.mem_of_getElem? hx)
   exact ⟨srt_put hx'.1 m, by have := put_len x.moves m; show (putM x.moves m).length ≤ _; omega⟩
 ·exact ⟨(h.2 c hc).1, by have := (h.2 c hc).2; omega⟩
theorem Inv.erase {k : Nat} {l : List CueD} (h : Inv k l) (i : Nat) : Inv k (l.eraseIdx i) :=
 ⟨by have := List.length_eraseIdx_le l i; have := h.1; omega, fun c hc => h.2 c (List.mem_of_mem_eraseIdx hc)⟩
theorem inv_good {l : List CueD} (h : Good l) : Inv 0 l := ⟨by have := h.len; omega, fun c hc => ⟨(h.mv c hc).2, by have := (h.mv c hc).1; omega⟩⟩
theorem Inv.small {k : Nat} {l : List CueD} (h : Inv k l) (hk : k ≤ 100000) : ∀ c ∈ l, srtM c.moves ∧ c.moves.length < 4611686018427387904 := fun c hc => ⟨(h.2 c hc).1, by have := (h.2 c hc).2; omega⟩
section
variable {σ0 σ : Heap} {R : HP}
theorem put_at {v : AV} {l : List CueD} {k i : Nat} {x : CueD} (hi : l[i]? = some x) (m : MoveD) (hI : Inv k l) (hk : k ≤ 100000) (H : Hs anyB σ0 σ (Sl CueE 11 v l * R)) :
  ∃ p σ', A.iaddr 11 v (.int .i64 (i : Int)) = some p ∧ m_cue_put [p, .agg (cMove m)] σ = some (.tup [], σ') ∧ Hs anyB σ0 σ' (Sl CueE 11 v (setMv l i (putM · m)) * R) := by
 obtain ⟨p, F, e, h1, hC, K, back⟩ := sl_cell H hi
 have hx := hI.2 x (List.mem_of_getElem? hi)
 obtain ⟨σ', e', h2, K2⟩ := put_s (m := m) hC K hx.1 (by omega)
 refine ⟨p, σ', h1, h2, ?_⟩
 rw [setMv, hi]
 exact back K2
def delStep (a nx : Nat) (out : List CueD) (m : MoveD) : List CueD := if (((out.drop a).take (nx + 1 - a)).any fun c => hasM c.moves m.key) = true then out else setMv out nx (putM · m)
def delF (l : List CueD) (a : Nat) (way : Int) : List CueD :=
 let out := l.eraseIdx a
 match (if way = 1 then blkF out a else some a) with
 | some nx => if nx < out.length then ((l[a]?.map (·.moves)).getD []).foldl (delStep a nx) out else out
 | none => out
theorem delStep_inv {k a nx : Nat} {out : List CueD} (h : Inv k out) (m : MoveD) : Inv (k + 1) (delStep a nx out m) := by
 unfold delStep
 split
 ·exact h.mono (Nat.le_succ k)
 ·exact h.setMv nx m
theorem delStep_len (a nx : Nat) (out : List CueD) (m : MoveD) : (delStep a nx out m).length = out.length := by
 unfold delStep
 split
 ·rfl
 ·exact setMv_len _ _ _
theorem foldl_take {α β : Type} (f : β → α → β) (b : β) (l : List α) {i : Nat} {x : α} (h : l[i]? = some x) : (l.take (i + 1)).foldl f b = f ((l.take i).foldl f b) x := by
 rw [List.take_add_one, h, Option.toList_some, List.foldl_append]; rfl
theorem del_fold {ms : List MoveD} {a nx : Nat} {out : List CueD} (h : Inv 0 out) : ∀ i, Inv (ms.take i).length ((ms.take i).foldl (delStep a nx) out) ∧ ((ms.take i).foldl (delStep a nx) out).length = out.length := by
 have key : ∀ (l : List MoveD) (k : Nat) (o : List CueD), Inv k o → Inv (k + l.length) (l.foldl (delStep a nx) o) ∧ (l.foldl (delStep a nx) o).length = o.length := by
  intro l
  induction l with
  | nil => intro k o ho; exact ⟨ho, rfl⟩
  | cons m l ih =>
   intro k o ho
   obtain ⟨h1, h2⟩ := ih (k + 1) (delStep a nx o m) (delStep_inv ho m)
   exact ⟨h1.mono (by simp; omega), by rw [List.foldl_cons, h2, delStep_len]⟩
 intro i
 have := key (ms.take i) 0 out h
 rwa [Nat.zero_add] at this
theorem deleted_s {l : List CueD} (hg : Good l) {a : Nat} {x : CueD} (hx : l[a]? = some x) (way : Int) (σ : Heap) : m_cue_deleted [sl 11 cCue l, .int .i64 (a : Int), .int .i64 way] σ = some (sl 11 cCue (delF l a way), σ) := by
 have hal := (List.getElem?_eq_some_iff.1 hx).1
 have hlen := hg.len
 have run : ∃ b : AV × Heap, r_cue_deleted (sl 11 cCue l) (.int .i64 (a : Int)) (.int .i64 way) σ = some b ∧ b.2 = σ ∧ A.nn (.e 11 shCue) b.1 = sl 11 cCue (delF l a way) := by
  unfold r_cue_deleted
  obtain ⟨v, s1, e1, K1⟩ := copied_s (small_of hg) (by unfold mxl; omega) (hs_nil (B := anyB) σ)
  rw [e1, Option.bind_some]
  obtain ⟨v2, s2, xe, ⟨p, e2, e3⟩, e4, K2⟩ := delC hx (by omega) K1
  obtain ⟨vp, vm, he, K3⟩ := cueP (hs_eq (show _ = CueP (Sl (fl cMove) 8) xe x * (Sl CueE 11 v2 (l.eraseIdx a) * emp) by rw [show CueE xe x = CueP (Sl (fl cMove) 8) xe x from rfl]; ac_rfl) K2)
  subst he
  simp only
  rw [e2, Option.bind_some, e3, Option.bind_some, show A.partA 0 11 (cCueH x vp vm) = some (.agg (cCueH x vp vm)) from rfl, Option.bind_some, show A.cells 11 (.agg (cCueH x vp vm)) = some (cCueH x vp vm) from rfl, Option.bind_some, show A.splice 0 (cCueH x vp vm) [(AV.int .i64 0), (AV.str ⟨#[]⟩), (AV.int .i64 0), (AV.int .i64 0), (AV.int .i64 0), (AV.int .i64 0), (AV.int .i64 0), AV.nsl, (AV.bool false), (AV.int .i64 0), AV.nsl] = some (cCueH x vp vm) from rfl, Option.bind_some, tadd1 (by omega), Option.bind_some, e4, Option.bind_some, aEq, Option.bind_some]
  obtain ⟨out, hout⟩ : ∃ out, out = l.eraseIdx a := ⟨_, rfl⟩
  have hol : out.length ≤ 300 := by rw [hout]; have := List.length_eraseIdx_le l a; omega
  have hIo : Inv 0 out := hout ▸ (inv_good hg).erase a
  rw [← hout] at K3 K2
  have K4 := hs_eq (show _ = Sl CueE 11 v2 out * (Sl (fl cMove) 8 vm x.moves * (Sf cPoint 2 vp x.curve.points * emp)) by ac_rfl) K3
  have hend : ∀ {s : Heap} {o : List CueD} {R : HP}, Hs anyB σ s (Sl CueE 11 v2 o * R) → o = delF l a way → ∃ b : AV × Heap, A.fin σ v2 s = some b ∧ b.2 = σ ∧ A.nn (.e 11 shCue) b.1 = sl 11 cCue (delF l a way) := by
   intro s o R K ho
   obtain ⟨v', f1, f2⟩ := fin_cues (cues_weak K)
   exact ⟨_, f1, rfl, by rw [← ho]; exact f2⟩
  have hloop : ∀ nx : Nat, nx < out.length → (if way = 1 then blkF out a else some a) = some nx → ∃ b : AV × Heap,
    ((A.loop (fun v22 s23 =>
     (A.lss (v22.getD 0 AV.undef) (.int .i64 (x.moves.length : Int))).bind fun x25 =>
     A.cond x25 (
      (A.iaddr 8 vm (v22.getD 0 AV.undef)).bind fun x26 =>
      ((A.deref x26 s23).bind fun c27 => A.partA 0 8 c27).bind fun x28 =>
      (A.cells 8 x28).bind fun c29 =>
      (A.splice 0 c29 [(AV.int .i64 0), (AV.str ⟨#[]⟩), (AV.int .i64 0), (AV.int .i64 0), (AV.bool false), (AV.bool false), (AV.int .i64 0), (AV.int .i64 0)]).bind fun c30 =>
      (A.add (.int .i64 (nx : Int)) (AV.int .i64 1)).bind fun x31 =>
      (A.sliceS 11 v2 (some (.int .i64 (a : Int))) (some x31) s23).bind fun x32 =>
      (A.partA 0 2 c30).bind fun x33 =>
      (A.quiet (m_cue_moved [x32, x33] s23) s23).bind fun x34 =>
      (A.not x34).bind fun x35 =>
      (A.cond x35 (
       (A.iaddr 11 v2 (.int .i64 (nx : Int))).bind fun x37 =>
       (A.partA 0 8 c30).bind fun x38 =>
       (m_cue_put [x37, x38] s23).bind fun r39 =>
       some (([] : List AV), r39.2)) (
       some (([] : List AV), s23))).bind fun r36 =>
      (A.add (v22.getD 0 AV.undef) (AV.int .i64 1)).bind fun x40 =>
      some (AX.normal, [x40], r36.2)) (
      some (AX.exit 0, [(v22.getD 0 AV.undef)], s23))) [(AV.int .i64 0)] s2).bind fun r41 =>
    bif r41.1 == AX.exit 0 then (A.fin σ v2 r41.2.2) else none) = some b ∧ b.2 = σ ∧ A.nn (.e 11 shCue) b.1 = sl 11 cCue (delF l a way) := by
   intro nx hnx hsel
   have han : a ≤ nx := by
    by_cases hw : way = 1
    ·rw [if_pos hw] at hsel
     unfold blkF at hsel
     have key : ∀ (m : List CueD) (i : Nat) j, scanL (fun j c => if c.block = true then some j else none) m i = some j → i ≤ j := by
      intro m
      induction m with
      | nil => intro i j h; cases h
      | cons y m ih =>
       intro i j h
       rw [scanL] at h
       cases hb : y.block
       ·rw [hb] at h; simp only [Bool.false_eq_true, if_false] at h
        have := ih (i + 1) j h; omega
       ·rw [hb] at h; simp only [if_true, Option.some.injEq] at h; omega
     exact key _ _ _ hsel
    ·rw [if_neg hw] at hsel; injection hsel with hsel; omega
   have hmv : x.moves.length ≤ 2000 := (hg.mv x (List.mem_of_getElem? hx)).1
   refine loop_k (Q := fun q => ∃ w, q.1 = .exit 0 ∧ q.2.1 = [w] ∧ ∃ R, Hs anyB σ q.2.2 (Sl CueE 11 v2 (x.moves.foldl (delStep a nx) out) * R)) (loop_hs x.moves (fun i v s => v = [.int .i64 (i : Int)] ∧ Hs anyB σ s (Sl CueE 11 v2 ((x.moves.take i).foldl (delStep a nx) out) * (Sl (fl cMove) 8 vm x.moves * (Sf cPoint 2 vp x.curve.points * emp)))) ?_ ?_ ⟨rfl, K4⟩) ?_
   ·rintro i m v s hm ⟨rfl, K⟩
    have hi := (List.getElem?_eq_some_iff.1 hm).1
    obtain ⟨hI, hL⟩ := del_fold (a := a) (nx := nx) (ms := x.moves) hIo i
    obtain ⟨o, ho⟩ : ∃ o, o = (x.moves.take i).foldl (delStep a nx) out := ⟨_, rfl⟩
    rw [foldl_take _ _ _ hm]
    rw [← ho] at hI hL K ⊢
    have hil : (x.moves.take i).length ≤ 2000 := by simp; omega
    obtain ⟨pm, f1, f2⟩ := slf_at (hs_drop K |> fun K => K) hm
    simp only [List.getD_cons_zero]
    rw [ix_lt hm, Option.bind_some, cnd_t, f1, Option.bind_some, f2, Option.bind_some, pA_cMove, Option.bind_some, ce_cMove, Option.bind_some, sp_cMove m _ rfl, Option.bind_some, tadd1 (by omega), Option.bind_some]
    obtain ⟨vs, f3, f4⟩ := moved_own (v' := .undef) (lo := a) (hi := nx + 1) K (by omega) (by omega) (by unfold mxl; omega) (hI.small (by omega)) m.key
    rw [f3, Option.bind_some, pA_cMove_key, Option.bind_some, quiet_of f4, Option.bind_some]
    unfold delStep
    cases hmm : (((o.drop a).take (nx + 1 - a)).any fun c => hasM c.moves m.key)
    ·rw [show A.not (.bool false) = some (.bool true) from rfl, Option.bind_some, cnd_t]
     obtain ⟨pc, s', f5, f6, K5⟩ := put_at (List.getElem?_eq_getElem (show nx < o.length by omega)) m hI (by omega) K
     rw [f5, Option.bind_some, pA_cMove, Option.bind_some, f6, Option.bind_some, Option.bind_some, tadd1 (by omega), Option.bind_some]
     exact ⟨_, _, rfl, rfl, by simpa using K5⟩
    ·rw [show A.not (.bool true) = some (.bool false) from rfl, Option.bind_some, cnd_f, Option.bind_some, tadd1 (by omega), Option.bind_some]
     exact ⟨_, _, rfl, rfl, by simpa using K⟩
   ·rintro v s ⟨rfl, K⟩
    simp only [List.getD_cons_zero]
    rw [ix_end, Option.bind_some, cnd_f]
    refine ⟨_, rfl, by simp, _, rfl, rfl, (Sl (fl cMove) 8 vm x.moves * (Sf cPoint 2 vp x.curve.points * emp)), ?_⟩
    rw [List.take_length] at K
    exact K
   ·rintro ⟨e, v, s⟩ ⟨w, h1, h2, R, K⟩
    simp only at h1 h2 K
    subst h1; subst h2
    refine hend K ?_
    unfold delF
    simp only [← hout, hsel, if_pos hnx, hx, Option.map_some, Option.getD_some]
  have hvm : A.cell vm = some vm := cell_sl (hs_drop K4)
  have hvl : A.lenS vm = some (.int .i64 (x.moves.length : Int)) := sl_len (hs_drop K4)
  have hv2 : A.lenS v2 = some (.int .i64 (out.length : Int)) := sl_len K4
  have hpart : A.part1 10 (cCueH x vp vm) = some vm := part_cell hvm _ 10 rfl
  have sel : ∀ nx : Nat, (if way = 1 then blkF out a else some a) = some nx → ∃ b : AV × Heap, ((A.lss (.int .i64 (nx : Int)) (AV.int .i64 0)).bind fun x12 =>
    (A.guard x12 false (some (.int .i64 (nx : Int))) (some (AV.tup []))).bind fun x13 =>
    (A.guard x12 false (some v2) (some (AV.tup []))).bind fun x14 =>
    (A.guard x12 false (A.lenS x14) (some (AV.tup []))).bind fun x15 =>
    (A.guard x12 false (A.geq x13 x15) (some (AV.tup []))).bind fun x16 =>
    (A.pick x12 (AV.bool true) x16).bind fun x17 =>
    A.cond x17 (
     A.fin σ v2 s2) (
     ((A.lb (.lbx (cCueH x vp vm))).bind fun _ => some (10)).bind fun p18 =>
     ((A.lb (.lbx (cCueH x vp vm))).bind fun c19 => A.part1 p18 c19).bind fun x20 =>
     (A.lenS x20).bind fun x21 =>
     (A.loop (fun v22 s23 =>
       (A.lss (v22.getD 0 AV.undef) x21).bind fun x25 =>
       A.cond x25 (
        (A.iaddr 8 x20 (v22.getD 0 AV.undef)).bind fun x26 =>
        ((A.deref x26 s23).bind fun c27 => A.partA 0 8 c27).bind fun x28 =>
        (A.cells 8 x28).bind fun c29 =>
        (A.splice 0 c29 [(AV.int .i64 0), (AV.str ⟨#[]⟩), (AV.int .i64 0), (AV.int .i64 0), (AV.bool false), (AV.bool false), (AV.int .i64 0), (AV.int .i64 0)]).bind fun c30 =>
        (A.add (.int .i64 (nx : Int)) (AV.int .i64 1)).bind fun x31 =>
        (A.sliceS 11 v2 (some (.int .i64 (a : Int))) (some x31) s23).bind fun x32 =>
        (A.partA 0 2 c30).bind fun x33 =>
        (A.quiet (m_cue_moved [x32, x33] s23) s23).bind fun x34 =>
        (A.not x34).bind fun x35 =>
        (A.cond x35 (
         (A.iaddr 11 v2 (.int .i64 (nx : Int))).bind fun x37 =>
         (A.partA 0 8 c30).bind fun x38 =>
         (m_cue_put [x37, x38] s23).bind fun r39 =>
         some (([] : List AV), r39.2)) (
         some (([] : List AV), s23))).bind fun r36 =>
        (A.add (v22.getD 0 AV.undef) (AV.int .i64 1)).bind fun x40 =>
        some (AX.normal, [x40], r36.2)) (
        some (AX.exit 0, [(v22.getD 0 AV.undef)], s23))) [(AV.int .i64 0)] s2).bind fun r41 =>
     bif r41.1 == AX.exit 0 then (A.fin σ v2 r41.2.2) else none)) = some b ∧ b.2 = σ ∧ A.nn (.e 11 shCue) b.1 = sl 11 cCue (delF l a way) := by
   intro nx hsel
   rw [tlss0, decide_eq_false (by omega), Option.bind_some]
   simp only [A.guard, beq_self_eq_true, cond_true, Option.bind_some, hv2, A.pick, cond_false]
   rw [aGeq]
   try simp only [Option.bind_some]
   by_cases hnx : nx < out.length
   ·rw [decide_eq_false (by omega), cnd_f]
    simp only [A.lb, Option.bind_some, hpart, hvl]
    exact hloop nx hnx hsel
   ·rw [decide_eq_true (by omega), cnd_t]
    refine hend K4 ?_
    unfold delF
    simp only [← hout, hsel, if_neg hnx]
  by_cases hw : way = 1
  ·rw [decide_eq_true hw, cnd_t, blocked_own K4 (by omega) a, Option.bind_some, Option.bind_some]
   simp only [List.getD_cons_succ, List.getD_cons_zero]
   cases hb : blkF out a with
   | none =>
    simp only [show A.lss (.int .i64 (-1)) (.int .i64 0) = some (.bool true) from rfl, Option.bind_some, A.guard, show (true == false) = false from rfl, cond_false, A.pick, cond_true, cnd_t]
    refine hend K4 ?_
    unfold delF
    simp only [← hout, if_pos hw, hb]
   | some nx => exact sel nx (by rw [if_pos hw, hb])
  ·rw [decide_eq_false hw, cnd_f, Option.bind_some]
   simp only [List.getD_cons_succ, List.getD_cons_zero]
   exact sel a (by rw [if_neg hw])
 obtain ⟨⟨v', σ'⟩, h1, h2, h3⟩ := run
 simp only at h2 h3
 subst h2
 refine wrap_eq rfl ?_ h3
 rw [show A.nnL [Sh.e 11 [.k, .k, .k, .k, .k, .k, .k, .s 2, .k, .k, .s 8]] [sl 11 cCue l, .int .i64 (a : Int), .int .i64 way] = [sl 11 cCue l, .int .i64 (a : Int), .int .i64 way] from nn_t1 (nn_e (fun _ => rfl) _) rfl]
 exact h1
end
end Go.Proofs.Ytphgchakmkankaa

namespace Go.Proofs.Ytphgchakmkankaa
set_option linter.unusedSectionVars false
set_option linter.unusedVariables false
set_option linter.unusedSimpArgs false
open HP
section
variable {α β : Type} {E : List AV → β → HP} {f : α → β} {B : Blk → Prop} {σ0 σ : Heap} {R : HP} {sz : Nat} {v : AV}
theorem els_map : ∀ (seg : List (List AV)) (l : List α), els E seg (l.map f) = els (fun e x => E e (f x)) seg l
 | [], [] => rfl
 | [], _ :: _ => rfl
 | _ :: _, [] => rfl
 | e :: seg, x :: l => by rw [List.map_cons, els, els, els_map seg l]
theorem sl_map (l : List α) : Sl E sz v (l.map f) = Sl (fun e x => E e (f x)) sz v l := by
 funext h
 unfold Sl
 simp only [List.map_eq_nil_iff, List.length_map, els_map]
end
section
variable {σ0 σ : Heap} {R : HP} {v : AV}
theorem lt_slf {α : Type} {c : α → List AV} {sz : Nat} {l : List α} {vm : AV} (hc : ∀ x, FzL (c x)) (H : Hs anyB σ0 σ (Sl (fl c) sz vm l * R)) : Lt σ (.s sz) vm (sl sz c l) := by
 obtain ⟨v', h1, h2, h3⟩ := slf_fz H hc (Nat.zero_le _) 7
 refine ⟨⟨v', h1, ?_, by rw [h3]; rfl⟩, rfl, fun ho => ?_⟩
 ·rcases slf_cases H with ⟨rfl, rfl | rfl, _⟩ | ⟨id, g, rfl, K⟩
  ·simp [A.frz] at h1; subst h1; rfl
  ·simp [A.frz] at h1; subst h1; rfl
  ·cases v' <;> first | rfl | (cases h2; done) | (simp only [A.nn] at h3; cases h3)
 ·rcases slf_cases H with ⟨rfl, rfl | rfl, _⟩ | ⟨id, g, rfl, K⟩
  ·rfl
  ·rfl
  ·cases ho
end
end Go.Proofs.Ytphgchakmkankaa

namespace Go.Proofs.Ytphgchakmkankaa
set_option linter.unusedSectionVars false
set_option linter.unusedVariables false
set_option linter.unusedSimpArgs false
open HP
def OkC (l : List CueD) : Prop := ∀ c ∈ l, okCue c
theorem okC_set {l : List CueD} (h : OkC l) (i : Nat) {g : List MoveD → List MoveD} (hg : ∀ c ∈ l, okL okMove (g c.moves)) : OkC (setMv l i g) := by
 intro c hc
 unfold setMv at hc
 split at hc
 ·rename_i x hx
  rcases List.mem_or_eq_of_mem_set hc with hc | hc
  ·exact h c hc
  ·subst hc
   have hx' := h x (List.mem_of_getElem? hx)
   obtain ⟨a1, a2, a3, a4, a5, a6, a7, a8, _⟩ := hx'
   exact ⟨a1, a2, a3, a4, a5, a6, a7, a8, hg x (List.mem_of_getElem? hx)⟩
 ·exact h c hc
theorem mem_put {l : List MoveD} {m x : MoveD} (h : x ∈ putM l m) : x ∈ l ∨ x = m := by
 unfold putM at h
 split at h
 ·exact List.mem_or_eq_of_mem_set h
 ·simp only [List.mem_append, List.mem_singleton] at h
  rcases h with (h | h) | h
  ·exact .inl (List.mem_of_mem_take h)
  ·exact .inr h
  ·exact .inl (List.mem_of_mem_drop h)
theorem ok_put {l : List MoveD} {m : MoveD} (h : ∀ x ∈ l, okMove x) (hm : okMove m) (hl : l.length < 2199023255552) : okL okMove (putM l m) :=
 ⟨by have := put_len l m; unfold mxl; omega, fun x hx => by rcases mem_put hx with hx | rfl; exact h x hx; exact hm⟩
theorem okC_put {l : List CueD} (h : OkC l) {k : Nat} (hI : Inv k l) (hk : k ≤ 100000) (i : Nat) {m : MoveD} (hm : okMove m) : OkC (setMv l i (putM · m)) :=
 okC_set h i fun c hc => ok_put (h c hc).2.2.2.2.2.2.2.2.2 hm (by have := (hI.2 c hc).2; omega)
theorem okL_of {l : List CueD} (h : OkC l) {k : Nat} (hI : Inv k l) : okL okCue l := ⟨by have := hI.1; unfold mxl; omega, h⟩
theorem okC_del {l : List CueD} (hl : OkC l) (hI : Inv 0 l) {a : Nat} {x : CueD} (hx : l[a]? = some x) (way : Int) : OkC (delF l a way) ∧ Inv 2000 (delF l a way) := by
 have hxo := hl x (List.mem_of_getElem? hx)
 have hxl := (hI.2 x (List.mem_of_getElem? hx)).2
 have ho : OkC (l.eraseIdx a) := fun c hc => hl c (List.mem_of_mem_eraseIdx hc)
 have hIo := hI.erase a
 unfold delF
 simp only [hx, Option.map_some, Option.getD_some]
 split
 ·rename_i nx _
  split
  ·have key : ∀ (ms : List MoveD) (k : Nat) (o : List CueD), (∀ m ∈ ms, okMove m) → k + ms.length ≤ 2000 → OkC o → Inv k o → OkC (ms.foldl (delStep a nx) o) ∧ Inv 2000 (ms.foldl (delStep a nx) o) := by
    intro ms
    induction ms with
    | nil => intro k o _ hk h1 h2; exact ⟨h1, h2.mono (by simpa using hk)⟩
    | cons m ms ih =>
     intro k o hms hk h1 h2
     simp only [List.length_cons] at hk
     refine ih (k + 1) _ (fun y hy => hms y (by simp [hy])) (by omega) ?_ (delStep_inv h2 m)
     unfold delStep
     split
     ·exact h1
     ·exact okC_put h1 h2 (by omega) nx (hms m (by simp))
   exact key x.moves 0 _ hxo.2.2.2.2.2.2.2.2.2 (by omega) ho hIo
  ·exact ⟨ho, hIo.mono (by omega)⟩
 ·exact ⟨ho, hIo.mono (by omega)⟩
def doneF (o : List CueD) : List CueD × Int := if formF o = 0 then (o, 0) else ([], formF o)
def delRes (l : List CueD) (n way : Int) : List CueD × Int :=
 if ¬ (formF l = 0) then ([], formF l) else if hasC l n = false then ([], 8) else if ¬ (way = 1 ∨ way = 2) then ([], 4) else doneF (delF l (posC l n) way)
theorem hasC_at {l : List CueD} {n : Int} (hg : Good l) (h : hasC l n = true) : ∃ x, l[posC l n]? = some x ∧ x.number = n := by
 rw [← posC_has hg.srt] at h
 cases hx : l[posC l n]? with
 | none => rw [hx] at h; cases h
 | some x => rw [hx] at h; exact ⟨x, rfl, by simpa using h⟩
theorem ext0 (a b : AV) : A.ext 0 (.tup [a, b]) = some a := rfl
theorem ext1 (a b : AV) : A.ext 1 (.tup [a, b]) = some b := rfl
theorem nn_ret {v : AV} {o : List CueD} {e : Int} (h : A.nn (.e 11 shCue) v = sl 11 cCue o) : A.nn (.t [(.e 11 shCue), .k]) (.tup [v, .int .i64 e]) = .tup [sl 11 cCue o, .int .i64 e] := by
 show AV.tup (A.nnL [.e 11 shCue, .k] [v, .int .i64 e]) = _
 rw [nn_t1 h (nn_t1 (nn_k _) nn_t0)]
theorem nn_nil {e : Int} : A.nn (.t [(.e 11 shCue), .k]) (.tup [.nsl, .int .i64 e]) = .tup [sl 11 cCue [], .int .i64 e] := nn_ret rfl
theorem nn_arg1 (l : List CueD) (aas : List AV) : A.nnL [Sh.e 11 shCue] (sl 11 cCue l :: aas) = sl 11 cCue l :: aas := nn_t1 (nn_idem_cues l) rfl
theorem When_8 (b : Bool) (σ : Heap) : m_word_When [.bool (!b), .int .i64 8] σ = some (.int .i64 (if b = false then 8 else 0), σ) := by
 rw [When_eq]; cases b <;> rfl
theorem aNeI (a : Int) : A.neq .i (.int .i64 a) (.int .i64 0) = some (.bool (decide (¬ (a = 0)))) := by rw [aNe]
theorem Delete_s {l : List CueD} (hl : okL okCue l) {n : Int} (hn : inI n) (way : Int) (σ : Heap) : m_cue_Delete [sl 11 cCue l, .int .i64 n, .int .i64 way] σ = some (.tup [sl 11 cCue (delRes l n way).1, .int .i64 (delRes l n way).2], σ) := by
 have run : ∃ b, r_cue_Delete (sl 11 cCue l) (.int .i64 n) (.int .i64 way) σ = some (b, σ) ∧ A.nn (.t [(.e 11 shCue), .k]) b = .tup [sl 11 cCue (delRes l n way).1, .int .i64 (delRes l n way).2] := by
  unfold r_cue_Delete delRes
  rw [h_cue_form (form_t l hl), Option.bind_some, aNeI, Option.bind_some]
  by_cases hf : formF l = 0
  case neg =>
   rw [decide_eq_true hf, cnd_t, if_pos hf]
   exact ⟨_, fin_same _ _, nn_nil⟩
  have hg := good_of hf
  rw [decide_eq_false (by simp [hf]), cnd_f, if_neg (by simp [hf])]
  obtain ⟨p, e1, e2, e3⟩ := place_t hg hn σ
  rw [e1, Option.bind_some]
  rw [ext0, Option.bind_some, ext1, Option.bind_some]
  rw [show A.not (.bool (hasC l n)) = some (.bool (!hasC l n)) from rfl, Option.bind_some, When_8, Option.bind_some]
  rw [h_cue_wayFault (a0 := way) (σ := σ) (r := (if ((decide (¬ (way = 1))) && (decide (¬ (way = 2)))) = true then 4 else 0)) rfl, Option.bind_some]
  obtain ⟨w1, hw1⟩ : ∃ w1 : Int, w1 = if hasC l n = false then 8 else 0 := ⟨_, rfl⟩
  obtain ⟨w2, hw2⟩ : ∃ w2 : Int, w2 = if ((decide (¬ (way = 1))) && (decide (¬ (way = 2)))) = true then 4 else 0 := ⟨_, rfl⟩
  rw [← hw1, ← hw2]
  have hrow : (((A.cell (.int .i64 w1)).bind fun v => some [v]).bind fun c9 => (A.splice 0 c9 [(AV.int .i64 0), (AV.int .i64 0)]).bind fun c10 => ((A.cell (.int .i64 w2)).bind fun v => some [v]).bind fun c11 => (A.splice 1 c11 c10).bind fun c12 => some c12) = some [.int .i64 w1, .int .i64 w2] := rfl
  simp only
  rw [hrow, Option.bind_some, Option.bind_some, show AV.sl 1 (chunks 1 2 [.int .i64 w1, .int .i64 w2]) = sl 1 cInt [w1, w2] from rfl, First_eq _ (by simp [mxl]), Option.bind_some, find2, aNeI, Option.bind_some]
  cases hh : hasC l n
  ·have : w1 = 8 := by rw [hw1, hh]; rfl
   subst this
   simp only [show ¬ ((8 : Int) = 0) by decide, not_false_eq_true, if_true, decide_true, cnd_t]
   exact ⟨_, fin_same _ _, nn_nil⟩
  ·have : w1 = 0 := by rw [hw1, hh]; rfl
   subst this
   simp only [not_true_eq_false, if_false, Bool.true_eq_false]
   by_cases hw : way = 1 ∨ way = 2
   case neg =>
    have : w2 = 4 := by rw [hw2]; simp only [not_or] at hw; simp [hw.1, hw.2]
    subst this
    rw [if_pos hw, decide_eq_true (by decide), cnd_t]
    exact ⟨_, fin_same _ _, nn_nil⟩
   have : w2 = 0 := by rw [hw2]; rcases hw with h | h <;> simp [h]
   subst this
   rw [if_neg (fun h => h hw), decide_eq_false (by decide), cnd_f, e3 (.inr hh)]
   obtain ⟨x, hx, _⟩ := hasC_at hg hh
   rw [deleted_s hg hx, Option.bind_some]
   obtain ⟨k1, k2⟩ := okC_del hl.2 (inv_good hg) hx way
   have hd : m_cue_done [sl 11 cCue (delF l (posC l n) way)] σ = some (.tup [if formF (delF l (posC l n) way) = 0 then sl 11 cCue (delF l (posC l n) way) else .nsl, .int .i64 (formF (delF l (posC l n) way))], σ) := by
    unfold m_cue_done A.wrap
    rw [Bool.false_and, cond_false, show A.nnL [] [sl 11 cCue (delF l (posC l n) way)] = [sl 11 cCue (delF l (posC l n) way)] by simp [A.nnL]]
    show (r_cue_done (sl 11 cCue (delF l (posC l n) way)) σ).map _ = _
    unfold r_cue_done
    rw [h_cue_form (form_t _ (okL_of k1 k2)), Option.bind_some, aNeI, Option.bind_some]
    by_cases hq : formF (delF l (posC l n) way) = 0
    ·rw [decide_eq_false (by simp [hq]), cnd_f, if_pos hq, hq]; simp [nn_k]
    ·rw [decide_eq_true hq, cnd_t, if_neg hq]; simp [nn_k]
   rw [hd, Option.bind_some]
   rw [ext0, Option.bind_some, ext1, Option.bind_some]
   refine ⟨_, fin_same _ _, ?_⟩
   unfold doneF
   split
   ·rename_i hq; rw [hq]; exact nn_ret (nn_idem_cues _)
   ·exact nn_nil
 obtain ⟨b, h1, h2⟩ := run
 refine wrap_eq rfl ?_ h2
 rw [show A.nnL [Sh.e 11 [.k, .k, .k, .k, .k, .k, .k, .s 2, .k, .k, .s 8]] [sl 11 cCue l, .int .i64 n, .int .i64 way] = [sl 11 cCue l, .int .i64 n, .int .i64 way] from nn_arg1 l _]
 exact h1
end Go.Proofs.Ytphgchakmkankaa

namespace Go.Proofs.Ytphgchakmkankaa
set_option linter.unusedSectionVars false
set_option linter.unusedVariables false
set_option linter.unusedSimpArgs false
open HP
theorem setMv_ne {l : List CueD} {i j : Nat} (h : i ≠ j) (g : List MoveD → List MoveD) : (setMv l i g)[j]? = l[j]? := by
 unfold setMv
 split
 ·rw [List.getElem?_set_ne h]
 ·rfl
section
variable {σ0 σ : Heap} {R : HP}
theorem fin_ret {v : AV} {l : List CueD} {e : Int} (H : Hs anyB σ0 σ (Sl CueF 11 v l * R)) : ∃ v', A.fin σ0 (.tup [v, .int .i64 e]) σ = some (.tup [v', .int .i64 e], σ0) ∧ A.nn (.e 11 shCue) v' = sl 11 cCue l := by
 obtain ⟨v', h1, h2, h3⟩ := cuesF_fz H (Nat.le_refl _) 6
 refine ⟨v', fin_hs H (by simp [A.frz, A.frzL, h1]) (fun e => ?_), h3⟩
 rcases sl_cases H with ⟨rfl, rfl | rfl, _⟩ | ⟨id, g, seg, rfl, hl, K⟩
 ·simp [A.frz] at h1; rw [h1]
 ·simp [A.frz] at h1; rw [h1]
 ·obtain ⟨k1, k2⟩ := hs_get K
  have := (List.getElem?_eq_some_iff.1 k2).1
  subst e; omega
theorem fin_nil {e : Int} (H : Hs anyB σ0 σ R) : A.fin σ0 (.tup [.nsl, .int .i64 e]) σ = some (.tup [.nsl, .int .i64 e], σ0) := fin_hs H (by simp [A.frz, A.frzL]) (fun _ => rfl)
end
end Go.Proofs.Ytphgchakmkankaa

namespace Go.Proofs.Ytphgchakmkankaa
set_option linter.unusedSectionVars false
set_option linter.unusedVariables false
set_option linter.unusedSimpArgs false
open HP
def frB : Blk → Prop := fun b => A.freshB b = true
section
variable {α : Type} {c : α → List AV} {sz : Nat} {σ0 σ : Heap} {R : HP}
theorem hs_ext {B : Blk → Prop} (H : Hs B σ0 σ R) (bs : Heap) (hbs : ∀ b ∈ bs, B b) : Hs B σ0 (σ ++ bs) R := by
 obtain ⟨⟨b0, rfl, hb0⟩, h, hr, h2⟩ := H
 exact ⟨⟨b0 ++ bs, by simp, fun b hb => (List.mem_append.1 hb).elim (hb0 b) (hbs b)⟩, h, hr, fun i b hb => ⟨(h2 i b hb).1, by rw [List.getElem?_append_left (List.getElem?_eq_some_iff.1 (h2 i b hb).2).1]; exact (h2 i b hb).2⟩⟩
theorem hs_add {B : Blk → Prop} (H : Hs B σ0 σ R) {bs : Heap} (hbs : ∀ b ∈ bs, B b) {j : Nat} {b : Blk} (hj : σ.length ≤ j) (hb : (σ ++ bs)[j]? = some b) : Hs B σ0 (σ ++ bs) (blk j b * R) := by
 have hl := hs_len H
 have H2 := hs_ext H bs hbs
 obtain ⟨_, h, hr, h2⟩ := H
 have hn : h j = none := by
  cases hh : h j with
  | none => rfl
  | some x => have := (List.getElem?_eq_some_iff.1 (h2 j x hh).2).1; omega
 refine ⟨H2.pre, fun i => if i = j then some b else h i, ⟨fun i => if i = j then some b else none, h, fun i => rfl, hr, fun i => ?_, fun i => ?_⟩, fun i x hx => ?_⟩
 ·by_cases e : i = j
  ·subst e; exact .inr hn
  ·simp [e]
 ·by_cases e : i = j <;> simp [e]
 ·by_cases e : i = j
  ·subst e
   simp only [if_true, Option.some.injEq] at hx
   subst hx
   exact ⟨by omega, hb⟩
  ·simp only [e, if_false] at hx
   obtain ⟨k1, k2⟩ := h2 i x hx
   exact ⟨k1, by rw [List.getElem?_append_left (List.getElem?_eq_some_iff.1 k2).1]; exact k2⟩
def KS (m : List AV → Heap → Option (AV × Heap)) (args : List AV) (c : α → List AV) (sz : Nat) (l : List α) : Prop :=
 ∀ (σ0 σ : Heap) (R : HP), Hs frB σ0 σ R → ∃ v σ', m args σ = some (v, σ') ∧ Hs frB σ0 σ' (Sl (fl c) sz v l * R)
theorem ks_at {B : Blk → Prop} (hBB : ∀ b, frB b → B b) {m : List AV → Heap → Option (AV × Heap)} {args : List AV} {l : List α} (h : KS m args c sz l) (H : Hs B σ0 σ R) : ∃ v σ', m args σ = some (v, σ') ∧ Hs B σ0 σ' (Sl (fl c) sz v l * R) := by
 obtain ⟨v, σ', e1, K⟩ := h σ σ emp (hs_nil σ)
 refine ⟨v, σ', e1, ?_⟩
 obtain ⟨⟨bs, hbs, hfr⟩, _⟩ := id K
 subst hbs
 have hbb : ∀ b ∈ bs, B b := fun b hb => hBB b (hfr b hb)
 rcases slf_cases K with ⟨rfl, hv, _⟩ | ⟨id, g, rfl, K2⟩
 ·exact slz (hs_ext H bs hbb) hv
 ·obtain ⟨k1, k2⟩ := hs_get K2
  exact slf_os (hs_add H hbb k1 k2)
theorem lentK {B : Blk → Prop} (hBB : ∀ b, frB b → B b) {ain : List Sh} {r : List AV → Heap → Option (AV × Heap)} {as0 ts : List AV} {l : List α} (h : LtL σ ain as0 ts) (e : KS (A.wrap true ain .k r) ts c sz l) (H : Hs B σ0 σ R) :
  ∃ v σ', A.wrap true ain .k r as0 σ = some (v, σ') ∧ Hs B σ0 σ' (Sl (fl c) sz v l * R) := by
 obtain ⟨⟨as', k1, k2, k3⟩, k4, k5⟩ := ltL h
 cases ho : as0.any A.own
 ·obtain ⟨v, σ', e1, K⟩ := ks_at hBB e H
  exact ⟨v, σ', by rw [wrap_nn (k5 ho) ho k4]; exact e1, K⟩
 ·obtain ⟨v, σ1, e1, K⟩ := e [] [] emp (hs_nil [])
  have e2 : r (A.nnL ain ts) [] = some (v, σ1) := by
   unfold A.wrap at e1
   rw [k4, Bool.and_false, cond_false] at e1
   obtain ⟨⟨q1, q2⟩, f1, f2⟩ := Option.map_eq_some_iff.1 e1
   simp only [Prod.mk.injEq, nn_k] at f2
   obtain ⟨rfl, rfl⟩ := f2
   exact f1
  have hfr : ∀ b ∈ σ1, frB b := by
   obtain ⟨⟨bs, hbs, hB⟩, _⟩ := K
   rw [List.nil_append] at hbs
   subst hbs
   exact hB
  have hb : σ1.all A.freshB = true := List.all_eq_true.2 hfr
  have hbb : ∀ b ∈ σ1, B b := fun b hb => hBB b (hfr b hb)
  have hw : ∀ v', A.freshT v = true → A.shiftT σ.length v = v' → A.wrap true ain .k r as0 σ = some (v', σ ++ σ1) := by
   intro v' h1 h2
   unfold A.wrap
   rw [ho, Bool.and_self, cond_true, k1, Option.bind_some, k3, e2, Option.bind_some, nn_k]
   simp only [h1, hb, Bool.and_self, cond_true, h2]
  rcases slf_cases K with ⟨rfl, rfl | rfl, _⟩ | ⟨id, g, rfl, K2⟩
  ·exact ⟨.nsl, _, hw _ rfl rfl, slz (hs_ext H σ1 hbb) (.inl rfl)⟩
  ·exact ⟨.ez, _, hw _ rfl rfl, slz (hs_ext H σ1 hbb) (.inr rfl)⟩
  ·obtain ⟨_, k2⟩ := hs_get K2
   refine ⟨.os (id + σ.length) g sz 0 l.length, _, hw _ rfl rfl, slf_os (hs_add H hbb (by omega) ?_)⟩
   rw [List.getElem?_append_right (by omega), Nat.add_sub_cancel]; exact k2
theorem frB_app {c : α → List AV} (hc : ∀ x, (c x).all A.scal1 = true) (l : List α) : ∀ g g' seg, (seg = [] ∨ frB (.arr g sz seg)) → frB (.arr g' sz (seg ++ l.map c)) := by
 intro g g' seg h
 show ((seg ++ l.map c).all fun e => e.all A.scal1) = true
 rw [List.all_append, Bool.and_eq_true]
 refine ⟨?_, ?_⟩
 ·rcases h with rfl | h
  ·rfl
  ·exact h
 ·rw [List.all_map, List.all_eq_true]; intro x _; exact hc x
end
def srtE (l : List EntryD) : Prop := l.Pairwise fun a b => ltK a.key b.key = true
def posE (l : List EntryD) (k : KeyD) : Nat := (l.takeWhile fun m => ltK m.key k).length
def hasE (l : List EntryD) (k : KeyD) : Bool := l.any fun m => decide (m.key = k)
theorem posE_le (l : List EntryD) (k : KeyD) : posE l k ≤ l.length := (List.takeWhile_prefix _).length_le
theorem posE_lt {l : List EntryD} {k : KeyD} (h : srtE l) : ∀ {i : Nat} {x : EntryD}, l[i]? = some x → (ltK x.key k = true ↔ i < posE l k) := by
 induction l with
 | nil => intro i x hx; simp at hx
 | cons a l ih =>
  intro i x hx
  have hs := List.pairwise_cons.1 h
  unfold posE
  rw [List.takeWhile_cons]
  cases ha : ltK a.key k
  ·simp only [Bool.false_eq_true, if_false, List.length_nil, Nat.not_lt_zero, iff_false, Bool.not_eq_true]
   cases i with
   | zero => simp at hx; subst hx; exact ha
   | succ i =>
    simp only [List.getElem?_cons_succ] at hx
    have := hs.1 x (List.mem_of_getElem? hx)
    cases hq : ltK x.key k
    ·rfl
    ·rw [ltK_trans this hq] at ha; cases ha
  ·simp only [if_true, List.length_cons]
   cases i with
   | zero => simp at hx; subst hx; simp [ha]
   | succ i =>
    simp only [List.getElem?_cons_succ] at hx
    rw [ih hs.2 hx]
    unfold posE
    omega
theorem posE_at {l : List EntryD} {k : KeyD} (h : srtE l) {i : Nat} {x : EntryD} (hi : l[i]? = some x) (hk : x.key = k) : posE l k = i := by
 have h1 : ¬ i < posE l k := fun q => by
  have := (posE_lt h hi).2 q
  rw [hk, ltK_irr] at this; cases this
 have h2 : ¬ posE l k < i := fun q => by
  have hp : posE l k < l.length := Nat.lt_trans q (List.getElem?_eq_some_iff.1 hi).1
  have hy : l[posE l k]? = some l[posE l k] := List.getElem?_eq_getElem hp
  have h3 : ¬ ltK l[posE l k].key k = true := fun q' => Nat.lt_irrefl _ ((posE_lt h hy).1 q')
  have h4 := List.pairwise_iff_getElem.1 h (posE l k) i hp (List.getElem?_eq_some_iff.1 hi).1 q
  rw [(List.getElem?_eq_some_iff.1 hi).2, hk] at h4
  exact h3 h4
 omega
theorem posE_has {l : List EntryD} {k : KeyD} (h : srtE l) : ((l[posE l k]?).any fun x => decide (x.key = k)) = hasE l k := by
 rw [Bool.eq_iff_iff]
 constructor
 ·intro e
  cases hx : l[posE l k]? with
  | none => rw [hx] at e; cases e
  | some x => rw [hx] at e; exact List.any_eq_true.2 ⟨x, List.mem_of_getElem? hx, e⟩
 ·intro e
  obtain ⟨x, hm, hk⟩ := List.any_eq_true.1 e
  have hk := of_decide_eq_true hk
  obtain ⟨i, hi⟩ := List.mem_iff_getElem?.1 hm
  rw [posE_at h hi hk, hi]; simp [hk]
def stepE (n : Int) (st : List EntryD) (m : MoveD) : List EntryD :=
 let st1 := if hasE st m.key = true then st.eraseIdx (posE st m.key) else st
 if m.release = true then st1 else st1.take (posE st m.key) ++ [⟨m.key, m.value, n⟩] ++ st1.drop (posE st m.key)
def afterF (st : List EntryD) (c : CueD) : List EntryD := c.moves.foldl (stepE c.number) st
def beforeF (l : List CueD) : List EntryD := l.foldl afterF []
def lookE (st : List EntryD) (k : KeyD) : Option EntryD := st.find? fun e => decide (e.key = k)
theorem stepE_spec {n : Int} {st : List EntryD} (h : srtE st) (m : MoveD) : srtE (stepE n st m) ∧ (∀ k, lookE (stepE n st m) k = if k = m.key then (if m.release = true then none else some ⟨m.key, m.value, n⟩) else lookE st k) ∧ (stepE n st m).length ≤ st.length + 1 := by
 obtain ⟨p, hp⟩ : ∃ p, p = posE st m.key := ⟨_, rfl⟩
 obtain ⟨st1, hst1⟩ : ∃ st1, st1 = if hasE st m.key = true then st.eraseIdx p else st := ⟨_, rfl⟩
 have hple : p ≤ st.length := by rw [hp]; exact posE_le _ _
 have e1 : st1.take p = st.take p := by
  rw [hst1]; split
  ·rw [List.eraseIdx_eq_take_drop_succ, List.take_append_of_le_length (by simp; omega), List.take_take, Nat.min_self]
  ·rfl
 have e2 : st1.drop p = if hasE st m.key = true then st.drop (p + 1) else st.drop p := by
  rw [hst1]; split
  ·rw [List.eraseIdx_eq_take_drop_succ, List.drop_append_of_le_length (by simp; omega), List.drop_of_length_le (by simp; omega), List.nil_append]
  ·rfl
 have hlt : ∀ x ∈ st.take p, ltK x.key m.key = true := fun x hx => by
  obtain ⟨i, hi⟩ := List.mem_iff_getElem?.1 hx
  rw [List.getElem?_take] at hi
  split at hi
  ·rename_i q; exact (posE_lt h hi).2 (by omega)
  ·cases hi
 have hgt : ∀ x ∈ st1.drop p, ltK m.key x.key = true := fun x hx => by
  rw [e2] at hx
  have key : ∀ i, p ≤ i → st[i]? = some x → x.key ≠ m.key → ltK m.key x.key = true := by
   intro i hpi hi hne
   cases hq : ltK m.key x.key
   ·exfalso
    have h1 : ltK x.key m.key = false := by
     cases hq2 : ltK x.key m.key
     ·rfl
     ·have := (posE_lt h hi).1 hq2; omega
    exact hne (ltK_tri h1 hq)
   ·rfl
  split at hx
  ·rename_i hh
   obtain ⟨i, hi⟩ := List.mem_iff_getElem?.1 hx
   rw [List.getElem?_drop] at hi
   refine key _ (by omega) hi fun e => ?_
   have := posE_at h hi e
   omega
  ·rename_i hh
   obtain ⟨i, hi⟩ := List.mem_iff_getElem?.1 hx
   rw [List.getElem?_drop] at hi
   refine key _ (by omega) hi fun e => ?_
   exact hh (List.any_eq_true.2 ⟨x, List.mem_of_getElem? hi, by simp [e]⟩)
 have hs1 : srtE st1 := by
  rw [hst1]; split
  ·exact h.sublist (List.eraseIdx_sublist _ _)
  ·exact h
 have hl1 : st1.length ≤ st.length := by
  rw [hst1]; split
  ·exact List.length_eraseIdx_le _ _
  ·exact Nat.le_refl _
 have hno : ∀ k, k = m.key → lookE st1 k = none := by
  rintro k rfl
  unfold lookE
  rw [List.find?_eq_none]
  intro x hx hk
  have hk := of_decide_eq_true hk
  rw [← List.take_append_drop p st1, List.mem_append] at hx
  rcases hx with hx | hx
  ·rw [e1] at hx
   have := hlt x hx
   rw [hk, ltK_irr] at this; cases this
  ·have := hgt x hx
   rw [hk, ltK_irr] at this; cases this
 have hoth : ∀ k, k ≠ m.key → lookE st1 k = lookE st k := by
  intro k hk
  rw [hst1]; split
  ·rename_i hh
   unfold lookE
   rw [List.eraseIdx_eq_take_drop_succ]
   have hx : st[p]? ≠ none := fun e => by
    have := posE_has (k := m.key) h
    rw [hh, ← hp, e] at this; cases this
   obtain ⟨x, hx⟩ := Option.ne_none_iff_exists'.1 hx
   have hxk : x.key = m.key := by
    have := posE_has (k := m.key) h
    rw [hh, ← hp, hx] at this
    simpa using this
   have e : st = st.take p ++ x :: st.drop (p + 1) := by
    rw [← (List.getElem?_eq_some_iff.1 hx).2, List.getElem_cons_drop, List.take_append_drop]
   conv => rhs; rw [e]
   rw [List.find?_append, List.find?_append, List.find?_cons, decide_eq_false (fun q => hk (by rw [← q, hxk]))]
  ·rfl
 have hdef : stepE n st m = if m.release = true then st1 else st1.take p ++ [⟨m.key, m.value, n⟩] ++ st1.drop p := by
  unfold stepE
  rw [← hp, ← hst1]
 rw [hdef]
 split
 ·rename_i hr
  refine ⟨hs1, fun k => ?_, by omega⟩
  by_cases hk : k = m.key
  ·rw [if_pos hk]; exact hno k hk
  ·rw [if_neg hk]; exact hoth k hk
 ·rename_i hr
  refine ⟨?_, fun k => ?_, by simp; omega⟩
  ·unfold srtE
   rw [List.append_assoc, List.pairwise_append]
   refine ⟨hs1.sublist (List.take_sublist _ _), ?_, fun x hx y hy => ?_⟩
   ·rw [List.singleton_append, List.pairwise_cons]
    exact ⟨fun y hy => hgt y hy, hs1.sublist (List.drop_sublist _ _)⟩
   ·rw [e1] at hx
    rcases List.mem_append.1 hy with hy | hy
    ·simp at hy; subst hy; exact hlt x hx
    ·exact ltK_trans (hlt x hx) (hgt y hy)
  ·by_cases hk : k = m.key
   ·rw [if_pos hk]
    subst hk
    unfold lookE
    rw [List.append_assoc, List.find?_append]
    have : (st1.take p).find? (fun e => decide (e.key = m.key)) = none := by
     rw [List.find?_eq_none]
     intro x hx q
     rw [e1] at hx
     have := hlt x hx
     rw [of_decide_eq_true q, ltK_irr] at this; cases this
    rw [this]
    simp
   ·rw [if_neg hk, ← hoth k hk]
    unfold lookE
    rw [List.append_assoc, List.find?_append, List.singleton_append, List.find?_cons, decide_eq_false (fun q => hk q.symm)]
    conv => rhs; rw [← List.take_append_drop p st1, List.find?_append]
end Go.Proofs.Ytphgchakmkankaa

