/- Parts of the proof of PlaySetupsMatchSpec, in order. -/
import Derived.Orders
import Derived.Below
import Derived.WalkKit
import Derived.Laws.StructEq
import Derived.Laws.Append
import Derived.Laws.AppendOwn
import Derived.IntWalk
import Derived.Lib.Bytealg
import Derived.Lib.Strings
import Derived.Test.YtooknfkholjpbaaRows
import Derived.KernelRfl
import Derived.Test.YtooknfkholjpbaaShelf
import Derived.WalkSpells
import Derived.ProofKit
import Derived.OpenShut
import Derived.Lib.Hide
import Derived.Lib.SmallJoins
import Derived.Deep.QuietTactic
import Derived.BigQuiet
import Derived.Deep.RegionHeld3
import Derived.Deep.Slices
import Derived.Test.YtooknfkholjpbaaKPlaySetupsMatchSpec5
/- That the code of each function computes what its mirror says. Written by a program. -/
namespace Go.Proofs.Ytooknfkholjpbaa
set_option linter.unusedSectionVars false
set_option maxRecDepth 100000
set_option linter.unusedVariables false
set_option linter.unusedSimpArgs false
noncomputable def x_word_Row : Fx := ⟨Try.prog, nmT, A.tab (fun _ _ => none) [], (fun _ _ _ => none), [], [], 35⟩
theorem w_word_Row : Sound Try.prog nmT 62 (A.wrap true [] .k (A.ar1 (r_word_Row))) :=
 Sound.wrap (Sound.run1 (X := x_word_Row) (fn := Try.f62) (ann := (.s .n (.s (.s .n (.b (.l [2, 7] [.exit 0, .ret] (.s .n (.s (.j .n .n) (.s (.b (.s .n (.s .n (.s .n (.j (.s .n .n) .n))))) .n)))))) (.s .n .n)))) false (Snd.of rfl All.nil (fun _ => Sound.none)) Try.func62 Try.call62 (fun a0 σ => by kernel_rfl)) _ _ _ rfl rfl
theorem s_word_Row : Sound Try.prog nmT 62 m_word_Row := w_word_Row
noncomputable def x_word_Name : Fx := ⟨Try.prog, nmT, A.tab (fun _ _ => none) [(62, m_word_Row)], (fun _ _ _ => none), [], [], 20⟩
theorem w_word_Name : Sound Try.prog nmT 55 (A.wrap true [] .k (A.ar1 (r_word_Name))) :=
 Sound.wrap (Sound.run1 (X := x_word_Name) (fn := Try.f55) (ann := (.s .n (.s .n .n))) false (Snd.of rfl (All.cons s_word_Row All.nil) (fun _ => Sound.none)) Try.func55 Try.call55 (fun a0 σ => by kernel_rfl)) _ _ _ rfl rfl
theorem s_word_Name : Sound Try.prog nmT 55 m_word_Name := w_word_Name
noncomputable def x_word_Within : Fx := ⟨Try.prog, nmT, A.tab (fun _ _ => none) [], (fun _ _ _ => none), [], [], 15⟩
theorem w_word_Within : Sound Try.prog nmT 9 (A.wrap true [] .k (A.ar3 (r_word_Within))) :=
 Sound.wrap (Sound.run3 (X := x_word_Within) (fn := Try.f9) (ann := (.s .n (.s .n .n))) false (Snd.of rfl All.nil (fun _ => Sound.none)) Try.func9 Try.call9 (fun a0 a1 a2 σ => by kernel_rfl)) _ _ _ rfl rfl
theorem s_word_Within : Sound Try.prog nmT 9 m_word_Within := w_word_Within
noncomputable def x_fixture_isLevel : Fx := ⟨Try.prog, nmT, A.tab (fun _ _ => none) [(9, m_word_Within)], (fun _ _ _ => none), [], [], 5⟩
theorem w_fixture_isLevel : Sound Try.prog nmT 59 (A.wrap true [] .k (A.ar1 (r_fixture_isLevel))) :=
 Sound.wrap (Sound.run1 (X := x_fixture_isLevel) (fn := Try.f59) (ann := (.s .n (.s .n .n))) false (Snd.of rfl (All.cons s_word_Within All.nil) (fun _ => Sound.none)) Try.func59 Try.call59 (fun a0 σ => by kernel_rfl)) _ _ _ rfl rfl
theorem s_fixture_isLevel : Sound Try.prog nmT 59 m_fixture_isLevel := w_fixture_isLevel
noncomputable def x_fixture_checkRanges : Fx := ⟨Try.prog, nmT, A.tab (fun _ _ => none) [(59, m_fixture_isLevel), (55, m_word_Name)], (fun _ _ _ => none), [5], [], 63⟩
theorem w_fixture_checkRanges : Sound Try.prog nmT 60 (A.wrap true [(.s 3)] .k (A.ar1 (r_fixture_checkRanges))) :=
 Sound.wrap (Sound.run1 (X := x_fixture_checkRanges) (fn := Try.f60) (ann := (.s .n (.s (.s .n (.j (.s .n .n) .n)) (.s .n (.s (.s .n (.b (.l [2, 12] [.exit 0, .ret] (.s .n (.s (.j .n .n) (.s (.b (.s .n (.s (.b (.s .n (.j (.s .n .n) (.s .n (.j (.s .n .n) (.s .n (.j (.s .n .n) (.s .n (.j (.s .n .n) .n))))))))) .n))) .n)))))) (.s .n .n)))))) false (Snd.of rfl (All.cons s_fixture_isLevel (All.cons s_word_Name All.nil)) (fun _ => Sound.none)) Try.func60 Try.call60 (fun a0 σ => by kernel_rfl)) _ _ _ rfl rfl
theorem s_fixture_checkRanges : Sound Try.prog nmT 60 m_fixture_checkRanges := w_fixture_checkRanges
noncomputable def x_fixture_CheckProfile : Fx := ⟨Try.prog, nmT, A.tab (fun _ _ => none) [(55, m_word_Name), (9, m_word_Within), (59, m_fixture_isLevel), (60, m_fixture_checkRanges)], (fun _ _ _ => none), [1, 6], [], 115⟩
theorem w_fixture_CheckProfile : Sound Try.prog nmT 51 (A.wrap true [(.a [.k, .k, (.s 7)])] .k (A.ar1 (r_fixture_CheckProfile))) :=
 Sound.wrap (Sound.run1 (X := x_fixture_CheckProfile) (fn := Try.f51) (ann := (.s .n (.s (.b (.s .n (.j (.s .n .n) (.s .n (.j (.s .n .n) (.s .n (.j (.s .n .n) (.s .n (.j (.s .n .n) .n))))))))) (.s .n (.s (.s .n (.b (.l [1, 2, 33] [.exit 1, .ret] (.s .n (.s (.j .n .n) (.s (.b (.s .n (.s (.b (.s .n (.j (.s .n .n) (.s .n (.j (.s .n .n) (.s .n (.j (.s .n .n) (.s .n (.j (.s .n .n) (.s .n (.j (.s .n .n) .n))))))))))) (.s (.s .n (.s .n (.j (.s .n .n) .n))) (.s .n (.s .n (.c [1] .n .n))))))) .n)))))) (.s .n .n)))))) false (Snd.of rfl (All.cons s_word_Name (All.cons s_word_Within (All.cons s_fixture_isLevel (All.cons s_fixture_checkRanges All.nil)))) (fun _ => Sound.none)) Try.func51 Try.call51 (fun a0 σ => by kernel_rfl)) _ _ _ rfl rfl
theorem s_fixture_CheckProfile : Sound Try.prog nmT 51 m_fixture_CheckProfile := w_fixture_CheckProfile
noncomputable def x_fixture_CheckLibrary : Fx := ⟨Try.prog, nmT, A.tab (fun _ _ => none) [(51, m_fixture_CheckProfile)], (fun _ _ _ => none), [5], [], 30⟩
theorem w_fixture_CheckLibrary : Sound Try.prog nmT 33 (A.wrap true [(.s 3)] .k (A.ar1 (r_fixture_CheckLibrary))) :=
 Sound.wrap (Sound.run1 (X := x_fixture_CheckLibrary) (fn := Try.f33) (ann := (.s .n (.s (.s .n (.j (.s .n .n) .n)) (.s .n (.s (.s .n (.b (.l [2, 13] [.exit 0, .ret] (.s .n (.s (.j .n .n) (.s (.b (.s .n (.s (.s .n (.s .n (.j (.s .n .n) .n))) (.s (.s .n (.j (.s .n .n) .n)) .n)))) .n)))))) (.s .n .n)))))) false (Snd.of rfl (All.cons s_fixture_CheckProfile All.nil) (fun _ => Sound.none)) Try.func33 Try.call33 (fun a0 σ => by kernel_rfl)) _ _ _ rfl rfl
theorem s_fixture_CheckLibrary : Sound Try.prog nmT 33 m_fixture_CheckLibrary := w_fixture_CheckLibrary
noncomputable def x_slices_IndexFunc_api_Profile (dyn : Nat → List AV → Heap → Option (AV × Heap)) : Fx := ⟨Try.prog, nmT, A.tab (fun _ _ => none) [], dyn, [], [], 19⟩
theorem w_slices_IndexFunc_api_Profile (dyn : Nat → List AV → Heap → Option (AV × Heap)) (hd : ∀ f, Sound Try.prog nmT f (dyn (nmT.getD f 0))) : Sound Try.prog nmT 52 (A.wrap true [(.s 3)] .k (A.ar2 (r_slices_IndexFunc_api_Profile dyn))) :=
 Sound.wrap (Sound.run2 (X := x_slices_IndexFunc_api_Profile dyn) (fn := Try.f52) (ann := (.s .n (.s (.s .n (.b (.l [4, 8] [.exit 0, .ret] (.s .n (.s (.j .n .n) (.s (.b (.s .n (.s .n (.j (.s .n .n) .n)))) .n)))))) (.s .n .n)))) false (Snd.of rfl All.nil (hd)) Try.func52 Try.call52 (fun a0 a1 σ => by kernel_rfl)) _ _ _ rfl rfl
theorem s_slices_IndexFunc_api_Profile (dyn : Nat → List AV → Heap → Option (AV × Heap)) (hd : ∀ f, Sound Try.prog nmT f (dyn (nmT.getD f 0))) : Sound Try.prog nmT 52 (m_slices_IndexFunc_api_Profile dyn) := w_slices_IndexFunc_api_Profile dyn hd
noncomputable def x_fixture_profile_fn1 : Fx := ⟨Try.prog, nmT, A.tab (fun _ _ => none) [], (fun _ _ _ => none), [2], [], 8⟩
theorem w_fixture_profile_fn1 : Sound Try.prog nmT 53 (A.wrap true [(.a [.k, .k, (.s 7)])] .k (A.ar2 (r_fixture_profile_fn1))) :=
 Sound.wrap (Sound.run2 (X := x_fixture_profile_fn1) (fn := Try.f53) (ann := (.s .n (.s .n .n))) false (Snd.of rfl All.nil (fun _ => Sound.none)) Try.func53 Try.call53 (fun a0 a1 σ => by kernel_rfl)) _ _ _ rfl rfl
theorem s_fixture_profile_fn1 : Sound Try.prog nmT 53 m_fixture_profile_fn1 := w_fixture_profile_fn1
noncomputable def x_fixture_profile : Fx := ⟨Try.prog, nmT, A.tab (fun _ _ => none) [(52, m_slices_IndexFunc_api_Profile (A.tab (fun _ _ => none) [(64, m_fixture_profile_fn1), (64, m_fixture_profile_fn1)]))], (A.tab (fun _ _ => none) [(64, m_fixture_profile_fn1), (64, m_fixture_profile_fn1)]), [4], [], 17⟩
theorem w_fixture_profile : Sound Try.prog nmT 34 (A.wrap true [(.s 3)] (.t [(.a [.k, .k, (.e 7 [.k, .k, .k, .k, .k, .k, (.s 3)])]), .k]) (A.ar2 (r_fixture_profile))) :=
 Sound.wrap (Sound.run2 (X := x_fixture_profile) (fn := Try.f34) (ann := (.s .n (.s .n (.s (.s .n (.j (.s .n .n) .n)) (.s .n .n))))) false (Snd.of rfl (All.cons (s_slices_IndexFunc_api_Profile _ (dyn_of (DAll.cons (nm_sound s_fixture_profile_fn1 (by kernel_rfl) rfl) (DAll.cons (nm_sound s_fixture_profile_fn1 (by kernel_rfl) rfl) DAll.nil)))) All.nil) (dyn_of (DAll.cons (nm_sound s_fixture_profile_fn1 (by kernel_rfl) rfl) (DAll.cons (nm_sound s_fixture_profile_fn1 (by kernel_rfl) rfl) DAll.nil)))) Try.func34 Try.call34 (fun a0 a1 σ => by kernel_rfl)) _ _ _ rfl rfl
theorem s_fixture_profile : Sound Try.prog nmT 34 m_fixture_profile := w_fixture_profile
noncomputable def x_fixture_slots_free : Fx := ⟨Try.prog, nmT, A.tab (fun _ _ => none) [], (fun _ _ _ => none), [], [], 32⟩
theorem w_fixture_slots_free : Sound Try.prog nmT 35 (A.wrap true [] .k (A.ar3 (r_fixture_slots_free))) :=
 Sound.wrap (Sound.run3 (X := x_fixture_slots_free) (fn := Try.f35) (ann := (.s .n (.s (.s .n (.j (.s .n .n) .n)) (.s (.s .n (.b (.l [6, 7] [.exit 0, .ret] (.s (.s .n (.j .n .n)) (.s (.b (.s .n (.j (.s .n .n) .n))) .n))))) (.s .n .n))))) false (Snd.of rfl All.nil (fun _ => Sound.none)) Try.func35 Try.call35 (fun a0 a1 a2 σ => by kernel_rfl)) _ _ _ rfl rfl
theorem s_fixture_slots_free : Sound Try.prog nmT 35 m_fixture_slots_free := w_fixture_slots_free
noncomputable def x_fixture_take : Fx := ⟨Try.prog, nmT, A.tab (fun _ _ => none) [], (fun _ _ _ => none), [4], [15], 33⟩
theorem w_fixture_take : Sound Try.prog nmT 36 (A.wrap false [] .k (A.ar3 (r_fixture_take))) :=
 Sound.wrap (Sound.run3 (X := x_fixture_take) (fn := Try.f36) (ann := (.s .n (.s (.s .n (.c [4] .n .n)) (.s .n (.b (.l [4, 6] [.exit 0] (.s (.s .n (.j .n .n)) (.s (.b .n) .n)))))))) true (Snd.of rfl All.nil (fun _ => Sound.none)) Try.func36 Try.call36 (fun a0 a1 a2 σ => by kernel_rfl)) _ _ _ rfl rfl
theorem s_fixture_take : Sound Try.prog nmT 36 m_fixture_take := w_fixture_take
noncomputable def x_fixture_CheckRig : Fx := ⟨Try.prog, nmT, A.tab (fun _ _ => none) [(33, m_fixture_CheckLibrary), (9, m_word_Within), (34, m_fixture_profile), (35, m_fixture_slots_free), (36, m_fixture_take)], (fun _ _ _ => none), [1, 6, 7], [], 91⟩
theorem w_fixture_CheckRig : Sound Try.prog nmT 16 (A.wrap true [(.a [(.s 3), (.s 4)])] .k (A.ar1 (r_fixture_CheckRig))) :=
 Sound.wrap (Sound.run1 (X := x_fixture_CheckRig) (fn := Try.f16) (ann := (.s .n (.s (.s .n (.s .n (.j (.s .n .n) .n))) (.s (.s .n (.j (.s .n .n) .n)) (.s .n (.s (.s .n (.b (.l [1, 2, 23] [.exit 0, .ret] (.s .n (.s (.j .n .n) (.s (.b (.s .n (.s (.s .n (.j (.s .n .n) .n)) (.s (.s .n (.j (.s .n .n) .n)) (.s .n (.s (.s .n (.j (.s .n .n) .n)) (.s (.s .n (.j (.s .n .n) .n)) (.s (.s .n (.j (.s .n .n) .n)) .n)))))))) .n)))))) (.s .n .n))))))) false (Snd.of rfl (All.cons s_fixture_CheckLibrary (All.cons s_word_Within (All.cons s_fixture_profile (All.cons s_fixture_slots_free (All.cons s_fixture_take All.nil))))) (fun _ => Sound.none)) Try.func16 Try.call16 (fun a0 σ => by kernel_rfl)) _ _ _ rfl rfl
theorem s_fixture_CheckRig : Sound Try.prog nmT 16 m_fixture_CheckRig := w_fixture_CheckRig
noncomputable def x_word_When : Fx := ⟨Try.prog, nmT, A.tab (fun _ _ => none) [], (fun _ _ _ => none), [], [], 7⟩
theorem w_word_When : Sound Try.prog nmT 8 (A.wrap true [] .k (A.ar2 (r_word_When))) :=
 Sound.wrap (Sound.run2 (X := x_word_When) (fn := Try.f8) (ann := (.s .n (.s (.s .n (.j (.s .n .n) .n)) (.s .n .n)))) false (Snd.of rfl All.nil (fun _ => Sound.none)) Try.func8 Try.call8 (fun a0 a1 σ => by kernel_rfl)) _ _ _ rfl rfl
theorem s_word_When : Sound Try.prog nmT 8 m_word_When := w_word_When
noncomputable def x_word_First : Fx := ⟨Try.prog, nmT, A.tab (fun _ _ => none) [], (fun _ _ _ => none), [], [], 15⟩
theorem w_word_First : Sound Try.prog nmT 6 (A.wrap true [(.s 1)] .k (A.ar1 (r_word_First))) :=
 Sound.wrap (Sound.run1 (X := x_word_First) (fn := Try.f6) (ann := (.s .n (.s (.s .n (.b (.l [2, 7] [.exit 0, .ret] (.s .n (.s (.j .n .n) (.s (.b (.s .n (.s .n (.j (.s .n .n) .n)))) .n)))))) (.s .n .n)))) false (Snd.of rfl All.nil (fun _ => Sound.none)) Try.func6 Try.call6 (fun a0 σ => by kernel_rfl)) _ _ _ rfl rfl
theorem s_word_First : Sound Try.prog nmT 6 m_word_First := w_word_First
noncomputable def x_fixture_Keys : Fx := ⟨Try.prog, nmT, A.tab (fun _ _ => none) [(16, m_fixture_CheckRig), (34, m_fixture_profile)], (fun _ _ _ => none), [1, 7, 8, 11], [], 50⟩
theorem w_fixture_Keys : Sound Try.prog nmT 22 (A.wrap true [(.a [(.s 3), (.s 4)])] (.t [(.s 2), .k]) (A.ar1 (r_fixture_Keys))) :=
 Sound.wrap (Sound.run1 (X := x_fixture_Keys) (fn := Try.f22) (ann := (.s .n (.s (.s .n (.s .n (.j (.s .n .n) .n))) (.s .n (.s (.s .n (.b (.l [1, 5, 20] [.exit 0] (.s .n (.s (.j .n .n) (.s (.b (.s .n (.s .n (.s .n (.b (.l [1, 5, 7, 35] [.exit 2] (.s .n (.s (.j .n .n) (.s (.b (.s .n .n)) .n))))))))) .n)))))) (.s .n .n)))))) false (Snd.of rfl (All.cons s_fixture_CheckRig (All.cons s_fixture_profile All.nil)) (fun _ => Sound.none)) Try.func22 Try.call22 (fun a0 σ => by kernel_rfl)) _ _ _ rfl rfl
theorem s_fixture_Keys : Sound Try.prog nmT 22 m_fixture_Keys := w_fixture_Keys
noncomputable def x_pick_keys : Fx := ⟨Try.prog, nmT, A.tab (fun _ _ => none) [(22, m_fixture_Keys)], (fun _ _ _ => none), [1, 7], [], 24⟩
theorem w_pick_keys : Sound Try.prog nmT 17 (A.wrap true [(.a [(.s 3), (.s 4)])] .k (A.ar1 (r_pick_keys))) :=
 Sound.wrap (Sound.run1 (X := x_pick_keys) (fn := Try.f17) (ann := (.s .n (.s .n (.s .n (.s (.s .n (.b (.l [16] [.exit 0] (.s .n (.s (.j .n .n) (.s (.b (.s .n .n)) .n)))))) (.s .n .n)))))) false (Snd.of rfl (All.cons s_fixture_Keys All.nil) (fun _ => Sound.none)) Try.func17 Try.call17 (fun a0 σ => by kernel_rfl)) _ _ _ rfl rfl
theorem s_pick_keys : Sound Try.prog nmT 17 m_pick_keys := w_pick_keys
noncomputable def x_word_Title : Fx := ⟨Try.prog, nmT, A.tab (fun _ _ => none) [], (fun _ _ _ => none), [], [], 40⟩
theorem w_word_Title : Sound Try.prog nmT 37 (A.wrap true [] .k (A.ar1 (r_word_Title))) :=
 Sound.wrap (Sound.run1 (X := x_word_Title) (fn := Try.f37) (ann := (.s .n (.s (.s .n (.b (.l [2, 6] [.exit 0, .ret] (.s .n (.s (.j .n .n) (.s (.b (.s .n (.s .n (.j (.s .n .n) .n)))) .n)))))) (.s .n .n)))) false (Snd.of rfl All.nil (fun _ => Sound.none)) Try.func37 Try.call37 (fun a0 σ => by kernel_rfl)) _ _ _ rfl rfl
theorem s_word_Title : Sound Try.prog nmT 37 m_word_Title := w_word_Title
noncomputable def x_pick_blank : Fx := ⟨Try.prog, nmT, A.tab (fun _ _ => none) [(37, m_word_Title)], (fun _ _ _ => none), [], [], 9⟩
theorem w_pick_blank : Sound Try.prog nmT 18 (A.wrap true [] .k (A.ar1 (r_pick_blank))) :=
 Sound.wrap (Sound.run1 (X := x_pick_blank) (fn := Try.f18) (ann := (.s .n (.s .n .n))) false (Snd.of rfl (All.cons s_word_Title All.nil) (fun _ => Sound.none)) Try.func18 Try.call18 (fun a0 σ => by kernel_rfl)) _ _ _ rfl rfl
theorem s_pick_blank : Sound Try.prog nmT 18 m_pick_blank := w_pick_blank
noncomputable def x_pick_isLevel : Fx := ⟨Try.prog, nmT, A.tab (fun _ _ => none) [(9, m_word_Within)], (fun _ _ _ => none), [], [], 5⟩
theorem w_pick_isLevel : Sound Try.prog nmT 19 (A.wrap true [] .k (A.ar1 (r_pick_isLevel))) :=
 Sound.wrap (Sound.run1 (X := x_pick_isLevel) (fn := Try.f19) (ann := (.s .n (.s .n .n))) false (Snd.of rfl (All.cons s_word_Within All.nil) (fun _ => Sound.none)) Try.func19 Try.call19 (fun a0 σ => by kernel_rfl)) _ _ _ rfl rfl
theorem s_pick_isLevel : Sound Try.prog nmT 19 m_pick_isLevel := w_pick_isLevel
noncomputable def x_pick_before : Fx := ⟨Try.prog, nmT, A.tab (fun _ _ => none) [(38, m_strings_Compare)], (fun _ _ _ => none), [2, 3], [], 21⟩
theorem w_pick_before : Sound Try.prog nmT 20 (A.wrap true [] .k (A.ar2 (r_pick_before))) :=
 Sound.wrap (Sound.run2 (X := x_pick_before) (fn := Try.f20) (ann := (.s .n (.s (.s .n (.j (.s .n .n) .n)) (.s .n .n)))) false (Snd.of rfl (All.cons s_strings_Compare All.nil) (fun _ => Sound.none)) Try.func20 Try.call20 (fun a0 a1 σ => by kernel_rfl)) _ _ _ rfl rfl
theorem s_pick_before : Sound Try.prog nmT 20 m_pick_before := w_pick_before
noncomputable def x_pick_CheckPresets : Fx := ⟨Try.prog, nmT, A.tab (fun _ _ => none) [(16, m_fixture_CheckRig), (8, m_word_When), (6, m_word_First), (17, m_pick_keys), (9, m_word_Within), (18, m_pick_blank), (19, m_pick_isLevel), (20, m_pick_before)], (fun _ _ _ => none), [2, 8, 10], [], 97⟩
theorem w_pick_CheckPresets : Sound Try.prog nmT 7 (A.wrap true [(.a [(.s 3), (.s 4)]), (.s 3)] .k (A.ar2 (r_pick_CheckPresets))) :=
 Sound.wrap (Sound.run2 (X := x_pick_CheckPresets) (fn := Try.f7) (ann := (.s .n (.s (.s .n (.s .n (.j (.s .n .n) .n))) (.s .n (.s (.s .n (.b (.l [4, 26] [.exit 0, .ret] (.s .n (.s (.j .n .n) (.s (.b (.s .n (.s (.b (.s .n (.j (.s .n .n) (.s .n (.j (.s .n .n) (.s .n (.j (.s .n .n) (.s .n (.j (.s .n .n) .n))))))))) (.s .n (.b (.l [4, 8, 63] [.exit 3, .ret] (.s .n (.s (.j .n .n) (.s (.b (.s .n (.b (.s .n (.j (.s .n .n) (.s .n (.j (.s .n .n) (.s .n (.j (.s .n .n) .n))))))))) .n))))))))) .n)))))) (.s .n .n)))))) false (Snd.of rfl (All.cons s_fixture_CheckRig (All.cons s_word_When (All.cons s_word_First (All.cons s_pick_keys (All.cons s_word_Within (All.cons s_pick_blank (All.cons s_pick_isLevel (All.cons s_pick_before All.nil)))))))) (fun _ => Sound.none)) Try.func7 Try.call7 (fun a0 a1 σ => by kernel_rfl)) _ _ _ rfl rfl
theorem s_pick_CheckPresets : Sound Try.prog nmT 7 m_pick_CheckPresets := w_pick_CheckPresets
noncomputable def x_cue_isTime : Fx := ⟨Try.prog, nmT, A.tab (fun _ _ => none) [(9, m_word_Within)], (fun _ _ _ => none), [], [], 5⟩
theorem w_cue_isTime : Sound Try.prog nmT 39 (A.wrap true [] .k (A.ar1 (r_cue_isTime))) :=
 Sound.wrap (Sound.run1 (X := x_cue_isTime) (fn := Try.f39) (ann := (.s .n (.s .n .n))) false (Snd.of rfl (All.cons s_word_Within All.nil) (fun _ => Sound.none)) Try.func39 Try.call39 (fun a0 σ => by kernel_rfl)) _ _ _ rfl rfl
theorem s_cue_isTime : Sound Try.prog nmT 39 m_cue_isTime := w_cue_isTime
noncomputable def x_level_CheckCurve : Fx := ⟨Try.prog, nmT, A.tab (fun _ _ => none) [(9, m_word_Within), (8, m_word_When)], (fun _ _ _ => none), [1, 5], [], 90⟩
theorem w_level_CheckCurve : Sound Try.prog nmT 40 (A.wrap true [(.a [.k, (.s 2)])] .k (A.ar1 (r_level_CheckCurve))) :=
 Sound.wrap (Sound.run1 (X := x_level_CheckCurve) (fn := Try.f40) (ann := (.s .n (.s (.s .n (.j (.s .n .n) .n)) (.s .n (.s (.s .n (.j (.s .n .n) .n)) (.s (.s .n (.j (.s .n .n) .n)) (.s (.s .n (.j (.s .n .n) .n)) (.s (.s .n (.b (.l [2, 28] [.exit 0, .ret] (.s .n (.s (.j .n .n) (.s (.b (.s .n (.s .n (.j (.s .n .n) .n)))) .n)))))) (.s (.s .n (.j (.s .n .n) .n)) (.s (.s .n (.b (.l [2, 6] [.exit 2, .ret] (.s (.s .n (.j .n .n)) (.s (.b (.s .n (.j (.s .n .n) .n))) .n))))) (.s .n .n))))))))))) false (Snd.of rfl (All.cons s_word_Within (All.cons s_word_When All.nil)) (fun _ => Sound.none)) Try.func40 Try.call40 (fun a0 σ => by kernel_rfl)) _ _ _ rfl rfl
theorem s_level_CheckCurve : Sound Try.prog nmT 40 m_level_CheckCurve := w_level_CheckCurve
noncomputable def x_cue_compare : Fx := ⟨Try.prog, nmT, A.tab (fun _ _ => none) [(38, m_strings_Compare)], (fun _ _ _ => none), [2, 3], [], 20⟩
theorem w_cue_compare : Sound Try.prog nmT 56 (A.wrap true [] .k (A.ar2 (r_cue_compare))) :=
 Sound.wrap (Sound.run2 (X := x_cue_compare) (fn := Try.f56) (ann := (.s .n (.s (.s .n (.j (.s (.s .n (.j (.s .n .n) .n)) (.s .n .n)) .n)) (.s .n .n)))) false (Snd.of rfl (All.cons s_strings_Compare All.nil) (fun _ => Sound.none)) Try.func56 Try.call56 (fun a0 a1 σ => by kernel_rfl)) _ _ _ rfl rfl
theorem s_cue_compare : Sound Try.prog nmT 56 m_cue_compare := w_cue_compare
noncomputable def x_cue_checkMoves : Fx := ⟨Try.prog, nmT, A.tab (fun _ _ => none) [(9, m_word_Within), (55, m_word_Name), (39, m_cue_isTime), (56, m_cue_compare)], (fun _ _ _ => none), [4], [], 99⟩
theorem w_cue_checkMoves : Sound Try.prog nmT 41 (A.wrap true [(.s 8)] .k (A.ar1 (r_cue_checkMoves))) :=
 Sound.wrap (Sound.run1 (X := x_cue_checkMoves) (fn := Try.f41) (ann := (.s .n (.s (.s .n (.b (.l [2, 7] [.exit 0, .ret] (.s .n (.s (.j .n .n) (.s (.b (.s .n (.b (.s .n (.j (.s .n .n) (.s .n (.j (.s .n .n) (.s .n (.j (.s .n .n) (.s .n (.j (.s .n .n) (.s .n (.j (.s .n .n) (.s .n (.j (.s .n .n) (.s .n (.j (.s .n .n) .n))))))))))))))))) .n)))))) (.s .n .n)))) false (Snd.of rfl (All.cons s_word_Within (All.cons s_word_Name (All.cons s_cue_isTime (All.cons s_cue_compare All.nil)))) (fun _ => Sound.none)) Try.func41 Try.call41 (fun a0 σ => by kernel_rfl)) _ _ _ rfl rfl
theorem s_cue_checkMoves : Sound Try.prog nmT 41 m_cue_checkMoves := w_cue_checkMoves
noncomputable def x_cue_form : Fx := ⟨Try.prog, nmT, A.tab (fun _ _ => none) [(9, m_word_Within), (37, m_word_Title), (39, m_cue_isTime), (40, m_level_CheckCurve), (41, m_cue_checkMoves), (8, m_word_When)], (fun _ _ _ => none), [5], [], 101⟩
theorem w_cue_form : Sound Try.prog nmT 21 (A.wrap true [(.s 11)] .k (A.ar1 (r_cue_form))) :=
 Sound.wrap (Sound.run1 (X := x_cue_form) (fn := Try.f21) (ann := (.s .n (.s (.s .n (.j (.s .n .n) .n)) (.s .n (.s (.s .n (.b (.l [2, 3, 13] [.exit 0, .ret] (.s .n (.s (.j .n .n) (.s (.b (.s .n (.s (.b (.s .n (.j (.s .n .n) (.s .n (.j (.s .n .n) (.s .n (.j (.s .n .n) (.s .n (.j (.s .n .n) .n))))))))) (.s (.s .n (.s .n (.j (.s .n .n) .n))) (.s (.s .n (.j (.s .n .n) .n)) (.s (.s .n (.s .n (.j (.s .n .n) .n))) .n)))))) .n)))))) (.s .n .n)))))) false (Snd.of rfl (All.cons s_word_Within (All.cons s_word_Title (All.cons s_cue_isTime (All.cons s_level_CheckCurve (All.cons s_cue_checkMoves (All.cons s_word_When All.nil)))))) (fun _ => Sound.none)) Try.func21 Try.call21 (fun a0 σ => by kernel_rfl)) _ _ _ rfl rfl
theorem s_cue_form : Sound Try.prog nmT 21 m_cue_form := w_cue_form
noncomputable def x_pick_Level : Fx := ⟨Try.prog, nmT, A.tab (fun _ _ => none) [(19, m_pick_isLevel)], (fun _ _ _ => none), [4, 5, 9, 11], [], 55⟩
theorem w_pick_Level : Sound Try.prog nmT 23 (A.wrap true [(.s 3)] .k (A.ar3 (r_pick_Level))) :=
 Sound.wrap (Sound.run3 (X := x_pick_Level) (fn := Try.f23) (ann := (.s .n (.s (.s .n (.j (.s .n .n) .n)) (.s (.s .n (.j (.s .n .n) .n)) (.s (.s .n (.j (.s .n .n) .n)) (.s (.s .n (.b (.l [4, 5, 6, 7, 31] [.exit 0, .ret] (.s .n (.s (.j .n .n) (.s (.b (.s .n (.s (.s .n (.j .n .n)) (.s (.s .n (.b (.l [4, 6, 7, 43] [.exit 2, .ret] (.s .n (.s (.j .n .n) (.s (.b (.s .n (.s .n (.j (.s .n .n) .n)))) .n)))))) .n)))) .n)))))) (.s .n .n))))))) false (Snd.of rfl (All.cons s_pick_isLevel All.nil) (fun _ => Sound.none)) Try.func23 Try.call23 (fun a0 a1 a2 σ => by kernel_rfl)) _ _ _ rfl rfl
theorem s_pick_Level : Sound Try.prog nmT 23 m_pick_Level := w_pick_Level
noncomputable def x_cue_CheckList : Fx := ⟨Try.prog, nmT, A.tab (fun _ _ => none) [(7, m_pick_CheckPresets), (21, m_cue_form), (6, m_word_First), (22, m_fixture_Keys), (23, m_pick_Level)], (fun _ _ _ => none), [3, 12, 14, 16], [], 76⟩
theorem w_cue_CheckList : Sound Try.prog nmT 10 (A.wrap true [(.a [(.s 3), (.s 4)]), (.s 3), (.s 11)] .k (A.ar3 (r_cue_CheckList))) :=
 Sound.wrap (Sound.run3 (X := x_cue_CheckList) (fn := Try.f10) (ann := (.s .n (.s (.s .n (.s .n (.j (.s .n .n) .n))) (.s .n (.s .n (.s (.s .n (.b (.l [37] [.exit 0] (.s .n (.s (.j .n .n) (.s (.b (.s .n .n)) .n)))))) (.s (.s .n (.b (.l [6, 46] [.exit 2, .ret] (.s .n (.s (.j .n .n) (.s (.b (.s .n (.s .n (.b (.l [6, 53] [.exit 4, .ret] (.s .n (.s (.j .n .n) (.s (.b (.s .n (.s (.s .n (.j (.s .n .n) .n)) (.s .n (.s .n (.j (.s .n .n) .n)))))) .n)))))))) .n)))))) (.s .n .n)))))))) false (Snd.of rfl (All.cons s_pick_CheckPresets (All.cons s_cue_form (All.cons s_word_First (All.cons s_fixture_Keys (All.cons s_pick_Level All.nil))))) (fun _ => Sound.none)) Try.func10 Try.call10 (fun a0 a1 a2 σ => by kernel_rfl)) _ _ _ rfl rfl
theorem s_cue_CheckList : Sound Try.prog nmT 10 m_cue_CheckList := w_cue_CheckList
noncomputable def x_slices_IndexFunc_api_List (dyn : Nat → List AV → Heap → Option (AV × Heap)) : Fx := ⟨Try.prog, nmT, A.tab (fun _ _ => none) [], dyn, [], [], 19⟩
theorem w_slices_IndexFunc_api_List (dyn : Nat → List AV → Heap → Option (AV × Heap)) (hd : ∀ f, Sound Try.prog nmT f (dyn (nmT.getD f 0))) : Sound Try.prog nmT 24 (A.wrap true [(.s 2)] .k (A.ar2 (r_slices_IndexFunc_api_List dyn))) :=
 Sound.wrap (Sound.run2 (X := x_slices_IndexFunc_api_List dyn) (fn := Try.f24) (ann := (.s .n (.s (.s .n (.b (.l [4, 8] [.exit 0, .ret] (.s .n (.s (.j .n .n) (.s (.b (.s .n (.s .n (.j (.s .n .n) .n)))) .n)))))) (.s .n .n)))) false (Snd.of rfl All.nil (hd)) Try.func24 Try.call24 (fun a0 a1 σ => by kernel_rfl)) _ _ _ rfl rfl
theorem s_slices_IndexFunc_api_List (dyn : Nat → List AV → Heap → Option (AV × Heap)) (hd : ∀ f, Sound Try.prog nmT f (dyn (nmT.getD f 0))) : Sound Try.prog nmT 24 (m_slices_IndexFunc_api_List dyn) := w_slices_IndexFunc_api_List dyn hd
noncomputable def x_play_list_fn1 : Fx := ⟨Try.prog, nmT, A.tab (fun _ _ => none) [], (fun _ _ _ => none), [2], [], 8⟩
theorem w_play_list_fn1 : Sound Try.prog nmT 25 (A.wrap true [(.a [.k, (.s 11)])] .k (A.ar2 (r_play_list_fn1))) :=
 Sound.wrap (Sound.run2 (X := x_play_list_fn1) (fn := Try.f25) (ann := (.s .n (.s .n .n))) false (Snd.of rfl All.nil (fun _ => Sound.none)) Try.func25 Try.call25 (fun a0 a1 σ => by kernel_rfl)) _ _ _ rfl rfl
theorem s_play_list_fn1 : Sound Try.prog nmT 25 m_play_list_fn1 := w_play_list_fn1
noncomputable def x_play_list : Fx := ⟨Try.prog, nmT, A.tab (fun _ _ => none) [(24, m_slices_IndexFunc_api_List (A.tab (fun _ _ => none) [(127, m_play_list_fn1), (127, m_play_list_fn1)]))], (A.tab (fun _ _ => none) [(127, m_play_list_fn1), (127, m_play_list_fn1)]), [2, 4], [], 19⟩
theorem w_play_list : Sound Try.prog nmT 11 (A.wrap true [(.a [(.s 3), (.s 4), (.s 3), (.s 2), (.s 3)])] (.t [(.a [.k, (.e 11 [.k, .k, .k, .k, .k, .k, .k, (.s 2), .k, .k, (.s 8)])]), .k]) (A.ar2 (r_play_list))) :=
 Sound.wrap (Sound.run2 (X := x_play_list) (fn := Try.f11) (ann := (.s .n (.s .n (.s (.s .n (.j (.s .n .n) .n)) (.s .n .n))))) false (Snd.of rfl (All.cons (s_slices_IndexFunc_api_List _ (dyn_of (DAll.cons (nm_sound s_play_list_fn1 (by kernel_rfl) rfl) (DAll.cons (nm_sound s_play_list_fn1 (by kernel_rfl) rfl) DAll.nil)))) All.nil) (dyn_of (DAll.cons (nm_sound s_play_list_fn1 (by kernel_rfl) rfl) (DAll.cons (nm_sound s_play_list_fn1 (by kernel_rfl) rfl) DAll.nil)))) Try.func11 Try.call11 (fun a0 a1 σ => by kernel_rfl)) _ _ _ rfl rfl
theorem s_play_list : Sound Try.prog nmT 11 m_play_list := w_play_list
noncomputable def x_play_CheckSetup : Fx := ⟨Try.prog, nmT, A.tab (fun _ _ => none) [(7, m_pick_CheckPresets), (8, m_word_When), (6, m_word_First), (9, m_word_Within), (10, m_cue_CheckList), (11, m_play_list)], (fun _ _ _ => none), [1, 5, 8, 9], [], 107⟩
theorem w_play_CheckSetup : Sound Try.prog nmT 4 (A.wrap true [(.a [(.s 3), (.s 4), (.s 3), (.s 2), (.s 3)])] .k (A.ar1 (r_play_CheckSetup))) :=
 Sound.wrap (Sound.run1 (X := x_play_CheckSetup) (fn := Try.f4) (ann := (.s .n (.s (.s .n (.s .n (.j (.s .n .n) .n))) (.s (.s .n (.b (.l [1, 2, 29] [.exit 0, .ret] (.s .n (.s (.j .n .n) (.s (.b (.s .n (.s (.s .n (.j (.s .n .n) .n)) (.s (.s .n (.j (.s .n .n) .n)) (.s .n (.s .n (.j (.s .n .n) .n))))))) .n)))))) (.s (.s .n (.j (.s .n .n) .n)) (.s (.s .n (.b (.l [1, 2, 70] [.exit 2, .ret] (.s .n (.s (.j .n .n) (.s (.b (.s .n (.s (.s .n (.j (.s .n .n) .n)) (.s (.s .n (.j (.s .n .n) .n)) (.s (.s .n (.s .n (.j (.s .n .n) .n))) (.s .n (.j (.s .n .n) .n))))))) .n)))))) (.s .n .n))))))) false (Snd.of rfl (All.cons s_pick_CheckPresets (All.cons s_word_When (All.cons s_word_First (All.cons s_word_Within (All.cons s_cue_CheckList (All.cons s_play_list All.nil)))))) (fun _ => Sound.none)) Try.func4 Try.call4 (fun a0 σ => by kernel_rfl)) _ _ _ rfl rfl
theorem s_play_CheckSetup : Sound Try.prog nmT 4 m_play_CheckSetup := w_play_CheckSetup
noncomputable def x_R1_IsWord : Fx := ⟨Try.prog, nmT, A.tab (fun _ _ => none) [], (fun _ _ _ => none), [], [], 34⟩
theorem w_R1_IsWord : Sound Try.prog nmT 65 (A.wrap true [] .k (A.ar1 (r_R1_IsWord))) :=
 Sound.wrap (Sound.run1 (X := x_R1_IsWord) (fn := Try.f65) (ann := (.s .n (.s (.s .n (.b (.l [2, 7] [.exit 0, .ret] (.s .n (.s (.j .n .n) (.s (.b (.s .n (.s .n (.s .n (.j (.s .n .n) .n))))) .n)))))) (.s .n .n)))) false (Snd.of rfl All.nil (fun _ => Sound.none)) Try.func65 Try.call65 (fun a0 σ => by kernel_rfl)) _ _ _ rfl rfl
theorem s_R1_IsWord : Sound Try.prog nmT 65 m_R1_IsWord := w_R1_IsWord
noncomputable def x_R1_IsName : Fx := ⟨Try.prog, nmT, A.tab (fun _ _ => none) [(65, m_R1_IsWord)], (fun _ _ _ => none), [], [], 20⟩
theorem w_R1_IsName : Sound Try.prog nmT 63 (A.wrap true [] .k (A.ar1 (r_R1_IsName))) :=
 Sound.wrap (Sound.run1 (X := x_R1_IsName) (fn := Try.f63) (ann := (.s .n (.s .n .n))) false (Snd.of rfl (All.cons s_R1_IsWord All.nil) (fun _ => Sound.none)) Try.func63 Try.call63 (fun a0 σ => by kernel_rfl)) _ _ _ rfl rfl
theorem s_R1_IsName : Sound Try.prog nmT 63 m_R1_IsName := w_R1_IsName
noncomputable def x_R1_Within : Fx := ⟨Try.prog, nmT, A.tab (fun _ _ => none) [], (fun _ _ _ => none), [], [], 15⟩
theorem w_R1_Within : Sound Try.prog nmT 13 (A.wrap true [] .k (A.ar3 (r_R1_Within))) :=
 Sound.wrap (Sound.run3 (X := x_R1_Within) (fn := Try.f13) (ann := (.s .n (.s .n .n))) false (Snd.of rfl All.nil (fun _ => Sound.none)) Try.func13 Try.call13 (fun a0 a1 a2 σ => by kernel_rfl)) _ _ _ rfl rfl
theorem s_R1_Within : Sound Try.prog nmT 13 m_R1_Within := w_R1_Within
noncomputable def x_R1_IsLevel : Fx := ⟨Try.prog, nmT, A.tab (fun _ _ => none) [(13, m_R1_Within)], (fun _ _ _ => none), [], [], 5⟩
theorem w_R1_IsLevel : Sound Try.prog nmT 29 (A.wrap true [] .k (A.ar1 (r_R1_IsLevel))) :=
 Sound.wrap (Sound.run1 (X := x_R1_IsLevel) (fn := Try.f29) (ann := (.s .n (.s .n .n))) false (Snd.of rfl (All.cons s_R1_Within All.nil) (fun _ => Sound.none)) Try.func29 Try.call29 (fun a0 σ => by kernel_rfl)) _ _ _ rfl rfl
theorem s_R1_IsLevel : Sound Try.prog nmT 29 m_R1_IsLevel := w_R1_IsLevel
noncomputable def x_R2_slots : Fx := ⟨Try.prog, nmT, A.tab (fun _ _ => none) [], (fun _ _ _ => none), [1], [], 14⟩
theorem w_R2_slots : Sound Try.prog nmT 66 (A.wrap true [(.a [.k, .k, .k, .k, .k, .k, (.s 3)])] (.s 1) (A.ar1 (r_R2_slots))) :=
 Sound.wrap (Sound.run1 (X := x_R2_slots) (fn := Try.f66) (ann := (.s .n (.s (.s .n (.j (.s .n .n) .n)) (.s .n .n)))) false (Snd.of rfl All.nil (fun _ => Sound.none)) Try.func66 Try.call66 (fun a0 σ => by kernel_rfl)) _ _ _ rfl rfl
theorem s_R2_slots : Sound Try.prog nmT 66 m_R2_slots := w_R2_slots
noncomputable def x_slices_Index_int : Fx := ⟨Try.prog, nmT, A.tab (fun _ _ => none) [], (fun _ _ _ => none), [], [], 19⟩
theorem w_slices_Index_int : Sound Try.prog nmT 68 (A.wrap true [(.s 1)] .k (A.ar2 (r_slices_Index_int))) :=
 Sound.wrap (Sound.run2 (X := x_slices_Index_int) (fn := Try.f68) (ann := (.s .n (.s (.s .n (.b (.l [4, 8] [.exit 0, .ret] (.s .n (.s (.j .n .n) (.s (.b (.s .n (.s .n (.j (.s .n .n) .n)))) .n)))))) (.s .n .n)))) false (Snd.of rfl All.nil (fun _ => Sound.none)) Try.func68 Try.call68 (fun a0 a1 σ => by kernel_rfl)) _ _ _ rfl rfl
theorem s_slices_Index_int : Sound Try.prog nmT 68 m_slices_Index_int := w_slices_Index_int
noncomputable def x_slices_Contains_int : Fx := ⟨Try.prog, nmT, A.tab (fun _ _ => none) [(68, m_slices_Index_int)], (fun _ _ _ => none), [], [], 9⟩
theorem w_slices_Contains_int : Sound Try.prog nmT 67 (A.wrap true [(.s 1)] .k (A.ar2 (r_slices_Contains_int))) :=
 Sound.wrap (Sound.run2 (X := x_slices_Contains_int) (fn := Try.f67) (ann := (.s .n (.s .n .n))) false (Snd.of rfl (All.cons s_slices_Index_int All.nil) (fun _ => Sound.none)) Try.func67 Try.call67 (fun a0 a1 σ => by kernel_rfl)) _ _ _ rfl rfl
theorem s_slices_Contains_int : Sound Try.prog nmT 67 m_slices_Contains_int := w_slices_Contains_int
end Go.Proofs.Ytooknfkholjpbaa

/- That the code of each function computes what its mirror says. Written by a program. -/
namespace Go.Proofs.Ytooknfkholjpbaa
set_option linter.unusedSectionVars false
set_option maxRecDepth 100000
set_option linter.unusedVariables false
set_option linter.unusedSimpArgs false
noncomputable def x_R2_checkParam : Fx := ⟨Try.prog, nmT, A.tab (fun _ _ => none) [(63, m_R1_IsName), (13, m_R1_Within), (29, m_R1_IsLevel), (66, m_R2_slots), (67, m_slices_Contains_int)], (fun _ _ _ => none), [3, 8, 10, 14, 16], [], 148⟩
theorem w_R2_checkParam : Sound Try.prog nmT 64 (A.wrap true [(.a [.k, .k, .k, .k, .k, .k, (.s 3)]), (.s 7)] .k (A.ar3 (r_R2_checkParam))) :=
 Sound.wrap (Sound.run3 (X := x_R2_checkParam) (fn := Try.f64) (ann := (.s .n (.s (.s .n (.j (.s .n .n) .n)) (.s (.s .n (.b (.l [3, 6, 23] [.exit 0, .ret] (.s .n (.s (.j .n .n) (.s (.b (.s .n (.s .n (.j (.s .n .n) .n)))) .n)))))) (.s (.b (.s .n (.j (.s .n .n) (.s .n (.j (.s .n .n) (.s .n (.j (.s .n .n) .n))))))) (.s (.s .n (.b (.l [3, 6, 65] [.exit 3, .ret] (.s .n (.s (.j .n .n) (.s (.b (.s .n (.s .n (.b (.l [3, 6, 10, 72] [.exit 5, .ret] (.s .n (.s (.j .n .n) (.s (.b (.s .n (.s .n (.j (.s .n .n) .n)))) .n)))))))) .n)))))) (.s (.s .n (.j (.s .n .n) .n)) (.s (.s .n (.b (.l [3, 6, 89] [.exit 7, .ret] (.s .n (.s (.j .n .n) (.s (.b (.s .n (.s (.b (.s .n (.j (.s .n .n) (.s .n (.j (.s .n .n) (.s .n (.j (.s .n .n) .n))))))) (.s .n (.b (.l [3, 6, 14, 137] [.exit 10, .ret] (.s .n (.s (.j .n .n) (.s (.b (.s .n (.s .n (.j (.s .n .n) .n)))) .n))))))))) .n)))))) (.s .n .n))))))))) false (Snd.of rfl (All.cons s_R1_IsName (All.cons s_R1_Within (All.cons s_R1_IsLevel (All.cons s_R2_slots (All.cons s_slices_Contains_int All.nil))))) (fun _ => Sound.none)) Try.func64 Try.call64 (fun a0 a1 a2 σ => by kernel_rfl)) _ _ _ rfl rfl
theorem s_R2_checkParam : Sound Try.prog nmT 64 m_R2_checkParam := w_R2_checkParam
noncomputable def x_R2_CheckProfile : Fx := ⟨Try.prog, nmT, A.tab (fun _ _ => none) [(63, m_R1_IsName), (13, m_R1_Within), (64, m_R2_checkParam)], (fun _ _ _ => none), [1, 4], [], 46⟩
theorem w_R2_CheckProfile : Sound Try.prog nmT 57 (A.wrap true [(.a [.k, .k, (.s 7)])] .k (A.ar1 (r_R2_CheckProfile))) :=
 Sound.wrap (Sound.run1 (X := x_R2_CheckProfile) (fn := Try.f57) (ann := (.s .n (.s (.b (.s .n (.j (.s .n .n) (.s .n (.j (.s .n .n) (.s .n (.j (.s .n .n) (.s .n (.j (.s .n .n) .n))))))))) (.s (.s .n (.b (.l [1, 2, 29] [.exit 1, .ret] (.s .n (.s (.j .n .n) (.s (.b (.s .n (.s .n (.s .n (.j (.s .n .n) .n))))) .n)))))) (.s .n .n))))) false (Snd.of rfl (All.cons s_R1_IsName (All.cons s_R1_Within (All.cons s_R2_checkParam All.nil))) (fun _ => Sound.none)) Try.func57 Try.call57 (fun a0 σ => by kernel_rfl)) _ _ _ rfl rfl
theorem s_R2_CheckProfile : Sound Try.prog nmT 57 m_R2_CheckProfile := w_R2_CheckProfile
noncomputable def x_R2_CheckLibrary : Fx := ⟨Try.prog, nmT, A.tab (fun _ _ => none) [(57, m_R2_CheckProfile)], (fun _ _ _ => none), [4, 7], [], 38⟩
theorem w_R2_CheckLibrary : Sound Try.prog nmT 42 (A.wrap true [(.s 3)] .k (A.ar1 (r_R2_CheckLibrary))) :=
 Sound.wrap (Sound.run1 (X := x_R2_CheckLibrary) (fn := Try.f42) (ann := (.s .n (.s (.s .n (.j (.s .n .n) .n)) (.s (.s .n (.b (.l [2, 13] [.exit 0, .ret] (.s .n (.s (.j .n .n) (.s (.b (.s .n (.s (.s .n (.s .n (.j (.s .n .n) .n))) (.s .n (.b (.l [2, 4, 27] [.exit 2, .ret] (.s .n (.s (.j .n .n) (.s (.b (.s .n (.s .n (.j (.s .n .n) .n)))) .n))))))))) .n)))))) (.s .n .n))))) false (Snd.of rfl (All.cons s_R2_CheckProfile All.nil) (fun _ => Sound.none)) Try.func42 Try.call42 (fun a0 σ => by kernel_rfl)) _ _ _ rfl rfl
theorem s_R2_CheckLibrary : Sound Try.prog nmT 42 m_R2_CheckLibrary := w_R2_CheckLibrary
noncomputable def x_R2_Profile : Fx := ⟨Try.prog, nmT, A.tab (fun _ _ => none) [], (fun _ _ _ => none), [4, 7], [], 21⟩
theorem w_R2_Profile : Sound Try.prog nmT 43 (A.wrap true [(.s 3)] (.t [(.a [.k, .k, (.e 7 [.k, .k, .k, .k, .k, .k, (.s 3)])]), .k]) (A.ar2 (r_R2_Profile))) :=
 Sound.wrap (Sound.run2 (X := x_R2_Profile) (fn := Try.f43) (ann := (.s .n (.s (.s .n (.b (.l [4, 5, 10] [.exit 0, .ret] (.s .n (.s (.j .n .n) (.s (.b (.s .n (.s .n (.j (.s .n .n) .n)))) .n)))))) (.s .n .n)))) false (Snd.of rfl All.nil (fun _ => Sound.none)) Try.func43 Try.call43 (fun a0 a1 σ => by kernel_rfl)) _ _ _ rfl rfl
theorem s_R2_Profile : Sound Try.prog nmT 43 m_R2_Profile := w_R2_Profile
noncomputable def x_R2_last : Fx := ⟨Try.prog, nmT, A.tab (fun _ _ => none) [(43, m_R2_Profile)], (fun _ _ _ => none), [2, 3, 5], [], 21⟩
theorem w_R2_last : Sound Try.prog nmT 44 (A.wrap true [(.a [(.s 3), (.s 4)])] .k (A.ar2 (r_R2_last))) :=
 Sound.wrap (Sound.run2 (X := x_R2_last) (fn := Try.f44) (ann := (.s .n (.s .n (.s .n .n)))) false (Snd.of rfl (All.cons s_R2_Profile All.nil) (fun _ => Sound.none)) Try.func44 Try.call44 (fun a0 a1 σ => by kernel_rfl)) _ _ _ rfl rfl
theorem s_R2_last : Sound Try.prog nmT 44 m_R2_last := w_R2_last
noncomputable def x_R2_CheckRig : Fx := ⟨Try.prog, nmT, A.tab (fun _ _ => none) [(42, m_R2_CheckLibrary), (43, m_R2_Profile), (13, m_R1_Within), (44, m_R2_last)], (fun _ _ _ => none), [1, 5, 6, 9], [], 108⟩
theorem w_R2_CheckRig : Sound Try.prog nmT 26 (A.wrap true [(.a [(.s 3), (.s 4)])] .k (A.ar1 (r_R2_CheckRig))) :=
 Sound.wrap (Sound.run1 (X := x_R2_CheckRig) (fn := Try.f26) (ann := (.s .n (.s (.s .n (.s .n (.j (.s .n .n) .n))) (.s (.s .n (.j (.s .n .n) .n)) (.s (.s .n (.b (.l [1, 2, 23] [.exit 0, .ret] (.s .n (.s (.j .n .n) (.s (.b (.s .n (.s .n (.s (.b (.s .n (.j (.s .n .n) (.s .n (.j (.s .n .n) (.s .n (.j (.s .n .n) (.s .n (.j (.s .n .n) .n))))))))) (.s .n (.b (.l [1, 2, 5, 81] [.exit 3, .ret] (.s .n (.s (.j .n .n) (.s (.b (.s .n (.s .n (.j (.s .n .n) .n)))) .n)))))))))) .n)))))) (.s .n .n)))))) false (Snd.of rfl (All.cons s_R2_CheckLibrary (All.cons s_R2_Profile (All.cons s_R1_Within (All.cons s_R2_last All.nil)))) (fun _ => Sound.none)) Try.func26 Try.call26 (fun a0 σ => by kernel_rfl)) _ _ _ rfl rfl
theorem s_R2_CheckRig : Sound Try.prog nmT 26 m_R2_CheckRig := w_R2_CheckRig
noncomputable def x_R1_IsTitle : Fx := ⟨Try.prog, nmT, A.tab (fun _ _ => none) [], (fun _ _ _ => none), [], [], 40⟩
theorem w_R1_IsTitle : Sound Try.prog nmT 27 (A.wrap true [] .k (A.ar1 (r_R1_IsTitle))) :=
 Sound.wrap (Sound.run1 (X := x_R1_IsTitle) (fn := Try.f27) (ann := (.s .n (.s (.s .n (.j (.s .n .n) .n)) (.s (.s .n (.b (.l [2, 26] [.exit 0, .ret] (.s .n (.s (.j .n .n) (.s (.b (.s .n (.s .n (.j (.s .n .n) .n)))) .n)))))) (.s .n .n))))) false (Snd.of rfl All.nil (fun _ => Sound.none)) Try.func27 Try.call27 (fun a0 σ => by kernel_rfl)) _ _ _ rfl rfl
theorem s_R1_IsTitle : Sound Try.prog nmT 27 m_R1_IsTitle := w_R1_IsTitle
noncomputable def x_R2_unit : Fx := ⟨Try.prog, nmT, A.tab (fun _ _ => none) [], (fun _ _ _ => none), [2, 6], [], 21⟩
theorem w_R2_unit : Sound Try.prog nmT 45 (A.wrap true [(.a [(.s 3), (.s 4)])] .k (A.ar2 (r_R2_unit))) :=
 Sound.wrap (Sound.run2 (X := x_R2_unit) (fn := Try.f45) (ann := (.s .n (.s (.s .n (.b (.l [4, 10] [.exit 0, .ret] (.s .n (.s (.j .n .n) (.s (.b (.s .n (.s .n (.j (.s .n .n) .n)))) .n)))))) (.s .n .n)))) false (Snd.of rfl All.nil (fun _ => Sound.none)) Try.func45 Try.call45 (fun a0 a1 σ => by kernel_rfl)) _ _ _ rfl rfl
theorem s_R2_unit : Sound Try.prog nmT 45 m_R2_unit := w_R2_unit
noncomputable def x_R2_param : Fx := ⟨Try.prog, nmT, A.tab (fun _ _ => none) [], (fun _ _ _ => none), [2, 4, 7], [], 22⟩
theorem w_R2_param : Sound Try.prog nmT 46 (A.wrap true [(.a [.k, .k, (.s 7)])] (.t [(.a [.k, .k, .k, .k, .k, .k, (.s 3)]), .k]) (A.ar2 (r_R2_param))) :=
 Sound.wrap (Sound.run2 (X := x_R2_param) (fn := Try.f46) (ann := (.s .n (.s (.s .n (.b (.l [4, 5, 11] [.exit 0, .ret] (.s .n (.s (.j .n .n) (.s (.b (.s .n (.s .n (.j (.s .n .n) .n)))) .n)))))) (.s .n .n)))) false (Snd.of rfl All.nil (fun _ => Sound.none)) Try.func46 Try.call46 (fun a0 a1 σ => by kernel_rfl)) _ _ _ rfl rfl
theorem s_R2_param : Sound Try.prog nmT 46 m_R2_param := w_R2_param
noncomputable def x_R2_ParamOf : Fx := ⟨Try.prog, nmT, A.tab (fun _ _ => none) [(45, m_R2_unit), (43, m_R2_Profile), (46, m_R2_param)], (fun _ _ _ => none), [2, 3, 4, 7], [], 34⟩
theorem w_R2_ParamOf : Sound Try.prog nmT 28 (A.wrap true [(.a [(.s 3), (.s 4)])] (.t [(.a [.k, .k, .k, .k, .k, .k, (.s 3)]), .k]) (A.ar2 (r_R2_ParamOf))) :=
 Sound.wrap (Sound.run2 (X := x_R2_ParamOf) (fn := Try.f28) (ann := (.s .n (.s .n (.s (.s .n (.j (.s .n .n) .n)) (.s .n (.s .n .n)))))) false (Snd.of rfl (All.cons s_R2_unit (All.cons s_R2_Profile (All.cons s_R2_param All.nil))) (fun _ => Sound.none)) Try.func28 Try.call28 (fun a0 a1 σ => by kernel_rfl)) _ _ _ rfl rfl
theorem s_R2_ParamOf : Sound Try.prog nmT 28 m_R2_ParamOf := w_R2_ParamOf
noncomputable def x_R4_Before : Fx := ⟨Try.prog, nmT, A.tab (fun _ _ => none) [], (fun _ _ _ => none), [2, 3], [], 24⟩
theorem w_R4_Before : Sound Try.prog nmT 30 (A.wrap true [] .k (A.ar2 (r_R4_Before))) :=
 Sound.wrap (Sound.run2 (X := x_R4_Before) (fn := Try.f30) (ann := (.s .n (.s .n .n))) false (Snd.of rfl All.nil (fun _ => Sound.none)) Try.func30 Try.call30 (fun a0 a1 σ => by kernel_rfl)) _ _ _ rfl rfl
theorem s_R4_Before : Sound Try.prog nmT 30 m_R4_Before := w_R4_Before
noncomputable def x_R4_CheckPresets : Fx := ⟨Try.prog, nmT, A.tab (fun _ _ => none) [(26, m_R2_CheckRig), (13, m_R1_Within), (27, m_R1_IsTitle), (28, m_R2_ParamOf), (29, m_R1_IsLevel), (30, m_R4_Before)], (fun _ _ _ => none), [2, 7, 9, 10], [], 99⟩
theorem w_R4_CheckPresets : Sound Try.prog nmT 12 (A.wrap true [(.a [(.s 3), (.s 4)]), (.s 3)] .k (A.ar2 (r_R4_CheckPresets))) :=
 Sound.wrap (Sound.run2 (X := x_R4_CheckPresets) (fn := Try.f12) (ann := (.s .n (.s (.s .n (.s .n (.j (.s .n .n) .n))) (.s (.s .n (.j (.s .n .n) .n)) (.s (.s .n (.b (.l [2, 4, 22] [.exit 0, .ret] (.s .n (.s (.j .n .n) (.s (.b (.s .n (.s (.b (.s .n (.j (.s .n .n) (.s .n (.j (.s .n .n) (.s .n (.j (.s .n .n) (.s .n (.j (.s .n .n) .n))))))))) (.s .n (.b (.l [2, 4, 7, 64] [.exit 3, .ret] (.s .n (.s (.j .n .n) (.s (.b (.s .n (.s (.s .n (.s .n (.j (.s .n .n) .n))) (.s (.s .n (.j (.s .n .n) .n)) (.s .n (.j (.s .n .n) .n)))))) .n))))))))) .n)))))) (.s .n .n)))))) false (Snd.of rfl (All.cons s_R2_CheckRig (All.cons s_R1_Within (All.cons s_R1_IsTitle (All.cons s_R2_ParamOf (All.cons s_R1_IsLevel (All.cons s_R4_Before All.nil)))))) (fun _ => Sound.none)) Try.func12 Try.call12 (fun a0 a1 σ => by kernel_rfl)) _ _ _ rfl rfl
theorem s_R4_CheckPresets : Sound Try.prog nmT 12 m_R4_CheckPresets := w_R4_CheckPresets
noncomputable def x_R1_IsTime : Fx := ⟨Try.prog, nmT, A.tab (fun _ _ => none) [(13, m_R1_Within)], (fun _ _ _ => none), [], [], 5⟩
theorem w_R1_IsTime : Sound Try.prog nmT 47 (A.wrap true [] .k (A.ar1 (r_R1_IsTime))) :=
 Sound.wrap (Sound.run1 (X := x_R1_IsTime) (fn := Try.f47) (ann := (.s .n (.s .n .n))) false (Snd.of rfl (All.cons s_R1_Within All.nil) (fun _ => Sound.none)) Try.func47 Try.call47 (fun a0 σ => by kernel_rfl)) _ _ _ rfl rfl
theorem s_R1_IsTime : Sound Try.prog nmT 47 m_R1_IsTime := w_R1_IsTime
noncomputable def x_R1_CheckCurve : Fx := ⟨Try.prog, nmT, A.tab (fun _ _ => none) [(13, m_R1_Within)], (fun _ _ _ => none), [1, 4], [], 108⟩
theorem w_R1_CheckCurve : Sound Try.prog nmT 48 (A.wrap true [(.a [.k, (.s 2)])] .k (A.ar1 (r_R1_CheckCurve))) :=
 Sound.wrap (Sound.run1 (X := x_R1_CheckCurve) (fn := Try.f48) (ann := (.s .n (.s (.b (.s .n (.j (.s .n .n) (.s .n (.j (.s .n .n) (.s .n (.j (.s .n .n) (.s .n (.j (.s .n .n) (.s .n (.j (.s .n .n) .n))))))))))) (.s (.s .n (.b (.l [1, 2, 38] [.exit 1, .ret] (.s .n (.s (.j .n .n) (.s (.b (.s .n (.s .n (.j (.s .n .n) .n)))) .n)))))) (.s (.s .n (.j (.s .n .n) .n)) (.s (.s .n (.b (.l [1, 2, 5] [.exit 3, .ret] (.s (.s .n (.j .n .n)) (.s (.b (.s .n (.j (.s .n .n) .n))) .n))))) (.s .n .n))))))) false (Snd.of rfl (All.cons s_R1_Within All.nil) (fun _ => Sound.none)) Try.func48 Try.call48 (fun a0 σ => by kernel_rfl)) _ _ _ rfl rfl
theorem s_R1_CheckCurve : Sound Try.prog nmT 48 m_R1_CheckCurve := w_R1_CheckCurve
noncomputable def x_R5_checkMove : Fx := ⟨Try.prog, nmT, A.tab (fun _ _ => none) [(13, m_R1_Within), (63, m_R1_IsName), (29, m_R1_IsLevel), (47, m_R1_IsTime), (30, m_R4_Before)], (fun _ _ _ => none), [2], [], 93⟩
theorem w_R5_checkMove : Sound Try.prog nmT 58 (A.wrap true [.k, (.s 8)] .k (A.ar2 (r_R5_checkMove))) :=
 Sound.wrap (Sound.run2 (X := x_R5_checkMove) (fn := Try.f58) (ann := (.s .n (.s (.b (.s .n (.j (.s .n .n) (.s .n (.j (.s .n .n) (.s .n (.j (.s .n .n) (.s .n (.j (.s .n .n) (.s .n (.j (.s .n .n) (.s .n (.j (.s .n .n) (.s .n (.j (.s .n .n) .n))))))))))))))) (.s .n .n)))) false (Snd.of rfl (All.cons s_R1_Within (All.cons s_R1_IsName (All.cons s_R1_IsLevel (All.cons s_R1_IsTime (All.cons s_R4_Before All.nil))))) (fun _ => Sound.none)) Try.func58 Try.call58 (fun a0 a1 σ => by kernel_rfl)) _ _ _ rfl rfl
theorem s_R5_checkMove : Sound Try.prog nmT 58 m_R5_checkMove := w_R5_checkMove
noncomputable def x_R5_checkMoves : Fx := ⟨Try.prog, nmT, A.tab (fun _ _ => none) [(58, m_R5_checkMove)], (fun _ _ _ => none), [4], [], 25⟩
theorem w_R5_checkMoves : Sound Try.prog nmT 49 (A.wrap true [(.s 8)] .k (A.ar1 (r_R5_checkMoves))) :=
 Sound.wrap (Sound.run1 (X := x_R5_checkMoves) (fn := Try.f49) (ann := (.s .n (.s (.s .n (.j (.s .n .n) .n)) (.s (.s .n (.b (.l [2, 11] [.exit 0, .ret] (.s .n (.s (.j .n .n) (.s (.b (.s .n (.s .n (.s .n (.j (.s .n .n) .n))))) .n)))))) (.s .n .n))))) false (Snd.of rfl (All.cons s_R5_checkMove All.nil) (fun _ => Sound.none)) Try.func49 Try.call49 (fun a0 σ => by kernel_rfl)) _ _ _ rfl rfl
theorem s_R5_checkMoves : Sound Try.prog nmT 49 m_R5_checkMoves := w_R5_checkMoves
noncomputable def x_R5_CheckForm : Fx := ⟨Try.prog, nmT, A.tab (fun _ _ => none) [(13, m_R1_Within), (27, m_R1_IsTitle), (47, m_R1_IsTime), (48, m_R1_CheckCurve), (49, m_R5_checkMoves)], (fun _ _ _ => none), [5], [], 96⟩
theorem w_R5_CheckForm : Sound Try.prog nmT 31 (A.wrap true [(.s 11)] .k (A.ar1 (r_R5_CheckForm))) :=
 Sound.wrap (Sound.run1 (X := x_R5_CheckForm) (fn := Try.f31) (ann := (.s .n (.s (.s .n (.j (.s .n .n) .n)) (.s .n (.s (.s .n (.b (.l [2, 3, 13] [.exit 0, .ret] (.s .n (.s (.j .n .n) (.s (.b (.s .n (.s (.b (.s .n (.j (.s .n .n) (.s .n (.j (.s .n .n) (.s .n (.j (.s .n .n) (.s .n (.j (.s .n .n) .n))))))))) (.s (.s .n (.s .n (.j (.s .n .n) .n))) (.s (.s .n (.s .n (.j (.s .n .n) .n))) .n))))) .n)))))) (.s (.s .n (.j (.s .n .n) .n)) (.s .n .n))))))) false (Snd.of rfl (All.cons s_R1_Within (All.cons s_R1_IsTitle (All.cons s_R1_IsTime (All.cons s_R1_CheckCurve (All.cons s_R5_checkMoves All.nil))))) (fun _ => Sound.none)) Try.func31 Try.call31 (fun a0 σ => by kernel_rfl)) _ _ _ rfl rfl
theorem s_R5_CheckForm : Sound Try.prog nmT 31 m_R5_CheckForm := w_R5_CheckForm
noncomputable def x_R4_PresetOf : Fx := ⟨Try.prog, nmT, A.tab (fun _ _ => none) [], (fun _ _ _ => none), [4, 7], [], 21⟩
theorem w_R4_PresetOf : Sound Try.prog nmT 50 (A.wrap true [(.s 3)] (.t [(.a [.k, .k, (.s 3)]), .k]) (A.ar2 (r_R4_PresetOf))) :=
 Sound.wrap (Sound.run2 (X := x_R4_PresetOf) (fn := Try.f50) (ann := (.s .n (.s (.s .n (.b (.l [4, 5, 10] [.exit 0, .ret] (.s .n (.s (.j .n .n) (.s (.b (.s .n (.s .n (.j (.s .n .n) .n)))) .n)))))) (.s .n .n)))) false (Snd.of rfl All.nil (fun _ => Sound.none)) Try.func50 Try.call50 (fun a0 a1 σ => by kernel_rfl)) _ _ _ rfl rfl
theorem s_R4_PresetOf : Sound Try.prog nmT 50 m_R4_PresetOf := w_R4_PresetOf
noncomputable def x_R4_Level : Fx := ⟨Try.prog, nmT, A.tab (fun _ _ => none) [(29, m_R1_IsLevel), (50, m_R4_PresetOf)], (fun _ _ _ => none), [4, 5, 8, 11], [], 55⟩
theorem w_R4_Level : Sound Try.prog nmT 32 (A.wrap true [(.s 3)] .k (A.ar3 (r_R4_Level))) :=
 Sound.wrap (Sound.run3 (X := x_R4_Level) (fn := Try.f32) (ann := (.s .n (.s (.b (.s .n (.j (.s .n .n) (.s .n (.j (.s .n .n) (.s .n (.j (.s .n .n) .n))))))) (.s .n (.s (.s .n (.j (.s .n .n) .n)) (.s (.s .n (.b (.l [4, 6, 7, 44] [.exit 1, .ret] (.s .n (.s (.j .n .n) (.s (.b (.s .n (.s .n (.j (.s .n .n) .n)))) .n)))))) (.s .n .n))))))) false (Snd.of rfl (All.cons s_R1_IsLevel (All.cons s_R4_PresetOf All.nil)) (fun _ => Sound.none)) Try.func32 Try.call32 (fun a0 a1 a2 σ => by kernel_rfl)) _ _ _ rfl rfl
theorem s_R4_Level : Sound Try.prog nmT 32 m_R4_Level := w_R4_Level
noncomputable def x_R5_CheckList : Fx := ⟨Try.prog, nmT, A.tab (fun _ _ => none) [(12, m_R4_CheckPresets), (31, m_R5_CheckForm), (28, m_R2_ParamOf), (32, m_R4_Level)], (fun _ _ _ => none), [3, 10, 12, 13], [], 64⟩
theorem w_R5_CheckList : Sound Try.prog nmT 14 (A.wrap true [(.a [(.s 3), (.s 4)]), (.s 3), (.s 11)] .k (A.ar3 (r_R5_CheckList))) :=
 Sound.wrap (Sound.run3 (X := x_R5_CheckList) (fn := Try.f14) (ann := (.s .n (.s (.s .n (.s .n (.j (.s .n .n) .n))) (.s (.s .n (.s .n (.j (.s .n .n) .n))) (.s (.s .n (.b (.l [3, 6, 30] [.exit 0, .ret] (.s .n (.s (.j .n .n) (.s (.b (.s .n (.s .n (.b (.l [3, 6, 37] [.exit 2, .ret] (.s .n (.s (.j .n .n) (.s (.b (.s .n (.s (.s .n (.s .n (.j (.s .n .n) .n))) (.s .n (.s .n (.j (.s .n .n) .n)))))) .n)))))))) .n)))))) (.s .n .n)))))) false (Snd.of rfl (All.cons s_R4_CheckPresets (All.cons s_R5_CheckForm (All.cons s_R2_ParamOf (All.cons s_R4_Level All.nil)))) (fun _ => Sound.none)) Try.func14 Try.call14 (fun a0 a1 a2 σ => by kernel_rfl)) _ _ _ rfl rfl
theorem s_R5_CheckList : Sound Try.prog nmT 14 m_R5_CheckList := w_R5_CheckList
noncomputable def x_R6_ListOf : Fx := ⟨Try.prog, nmT, A.tab (fun _ _ => none) [], (fun _ _ _ => none), [4, 7], [], 21⟩
theorem w_R6_ListOf : Sound Try.prog nmT 15 (A.wrap true [(.s 2)] (.t [(.a [.k, (.e 11 [.k, .k, .k, .k, .k, .k, .k, (.s 2), .k, .k, (.s 8)])]), .k]) (A.ar2 (r_R6_ListOf))) :=
 Sound.wrap (Sound.run2 (X := x_R6_ListOf) (fn := Try.f15) (ann := (.s .n (.s (.s .n (.b (.l [4, 5, 10] [.exit 0, .ret] (.s .n (.s (.j .n .n) (.s (.b (.s .n (.s .n (.j (.s .n .n) .n)))) .n)))))) (.s .n .n)))) false (Snd.of rfl All.nil (fun _ => Sound.none)) Try.func15 Try.call15 (fun a0 a1 σ => by kernel_rfl)) _ _ _ rfl rfl
theorem s_R6_ListOf : Sound Try.prog nmT 15 m_R6_ListOf := w_R6_ListOf
noncomputable def x_R6_CheckSetup : Fx := ⟨Try.prog, nmT, A.tab (fun _ _ => none) [(12, m_R4_CheckPresets), (13, m_R1_Within), (14, m_R5_CheckList), (15, m_R6_ListOf)], (fun _ _ _ => none), [1, 5, 8, 9], [], 111⟩
theorem w_R6_CheckSetup : Sound Try.prog nmT 5 (A.wrap true [(.a [(.s 3), (.s 4), (.s 3), (.s 2), (.s 3)])] .k (A.ar1 (r_R6_CheckSetup))) :=
 Sound.wrap (Sound.run1 (X := x_R6_CheckSetup) (fn := Try.f5) (ann := (.s .n (.s (.s .n (.s .n (.j (.s .n .n) .n))) (.s (.s .n (.j (.s .n .n) .n)) (.s (.s .n (.b (.l [1, 2, 26] [.exit 0, .ret] (.s .n (.s (.j .n .n) (.s (.b (.s .n (.s (.b (.s .n (.j (.s .n .n) (.s .n (.j (.s .n .n) .n))))) (.s .n (.s .n (.j (.s .n .n) .n)))))) .n)))))) (.s (.s .n (.j (.s .n .n) .n)) (.s (.s .n (.b (.l [1, 2, 69] [.exit 3, .ret] (.s .n (.s (.j .n .n) (.s (.b (.s .n (.s .n (.b (.s .n (.j (.s .n .n) (.s .n (.j (.s .n .n) (.s .n (.j (.s .n .n) (.s .n (.j (.s .n .n) .n)))))))))))) .n)))))) (.s .n .n)))))))) false (Snd.of rfl (All.cons s_R4_CheckPresets (All.cons s_R1_Within (All.cons s_R5_CheckList (All.cons s_R6_ListOf All.nil)))) (fun _ => Sound.none)) Try.func5 Try.call5 (fun a0 σ => by kernel_rfl)) _ _ _ rfl rfl
theorem s_R6_CheckSetup : Sound Try.prog nmT 5 m_R6_CheckSetup := w_R6_CheckSetup
noncomputable def x_W6_PlaySetupsMatchSpec : Fx := ⟨Try.prog, nmT, A.tab (fun _ _ => none) [(4, m_play_CheckSetup), (5, m_R6_CheckSetup)], (fun _ _ _ => none), [1, 3], [], 19⟩
theorem w_W6_PlaySetupsMatchSpec : Sound Try.prog nmT 3 (A.wrap true [(.a [(.s 3), (.s 4), (.s 3), (.s 2), (.s 3)])] .k (A.ar1 (r_W6_PlaySetupsMatchSpec))) :=
 Sound.wrap (Sound.run1 (X := x_W6_PlaySetupsMatchSpec) (fn := Try.f3) (ann := (.s .n (.s .n (.s .n .n)))) false (Snd.of rfl (All.cons s_play_CheckSetup (All.cons s_R6_CheckSetup All.nil)) (fun _ => Sound.none)) Try.func3 Try.call3 (fun a0 σ => by kernel_rfl)) _ _ _ rfl rfl
theorem s_W6_PlaySetupsMatchSpec : Sound Try.prog nmT 3 m_W6_PlaySetupsMatchSpec := w_W6_PlaySetupsMatchSpec
end Go.Proofs.Ytooknfkholjpbaa

/- The step from a law's walk to its row: whatever the arguments, if the call returns true and leaves all that was there as it was, the row's postcondition holds. -/
namespace Go.Proofs.Ytooknfkholjpbaa
set_option linter.unusedSectionVars false
set_option linter.unusedSimpArgs false
set_option linter.unusedVariables false
open Go.ChangeShapes Go.WideShapes Go.ChangeAt Go.RowKit

theorem own : ownKnob Try.prog.godebug = none := by kernel_rfl
theorem laidOut : laidOutB Try.prog = true := by kernel_rfl

theorem trodAll_below {H : Type} {enc : TypeId × Value → H} {P : Program} (hl : laidOutB P = true) {W W' : World} (hb : Below W.heap.size W W') :
  ∀ {ts : List TypeId} {vs : List Value} {ds : List (DataW H)} {ps : List MemPlace}, (ts.all fun t => P.readableRec t && decide (t < P.types.size)) = true →
   DataW.TrodAll enc P W 0 (fun _ => true) true ts vs ds ps → (∀ x ∈ ps, x.block < W.heap.size) → DataW.TrodAll enc P W' 0 (fun b => decide (b < W.heap.size)) true ts vs ds ps
 | [], [], [], _, _, h, _ => h
 | t :: ts, v :: vs, d :: ds, ps, hts, h, hlt => by
  obtain ⟨p, q, h1, h2, rfl⟩ := h
  simp only [List.all_cons, Bool.and_eq_true, decide_eq_true_eq] at hts
  exact ⟨p, q, Below.trod hl hts.1.1 hts.1.2 h1 hb (fun x hx => hlt x (List.mem_append_left _ hx)),
   trodAll_below hl hb (by simpa using hts.2) h2 (fun x hx => hlt x (List.mem_append_right _ hx)), rfl⟩
 | [], _ :: _, _, _, _, h, _ => h.elim
 | [], [], _ :: _, _, _, h, _ => h.elim
 | _ :: _, [], _, _, _, h, _ => h.elim
 | _ :: _, _ :: _, [], _, _, h, _ => h.elim

/-- A law's postcondition, out of 'true' and 'Below'. -/
theorem law_post {H : Type} {enc : TypeId × Value → H} {f : Func} {s : ChangeSpec} {W W' : World} {args : Array Value} {ds gs : List (DataW H)} {before : List MemPlace} {t : TypeId}
  (hts : (f.params.toList.all fun t => Try.prog.readableRec t && decide (t < Try.prog.types.size)) = true) (hrt : f.resultTypes = #[t]) (ht : Try.prog.underlying t = some .bool) (hvs : s.vars = [])
  (hW : DataW.Whole enc Try.prog f.params.toList s.vars false W args.toList ds gs before) (hb : Below W.heap.size W W')
  (hspec : s.fn H (ds ++ gs) = { results := [.lit (.bool true)], args := ds }) :
  s.post enc Try.prog f false true false false W args (.bool true) W' := by
 have hW' := hW
 obtain ⟨p, q, hA, hV, rfl, hfz, hnd⟩ := hW
 have hlt : ∀ x ∈ p ++ q, x.block < W.heap.size := fun x hx => hW'.lt x hx
 refine ⟨ds, gs, p ++ q, [], p, [], hW', ?_, ?_, ?_, hb.frame _, fun h => by cases h⟩
 ·rw [hspec, hrt]
  exact trodAll_cons_mk (shut_bool ht _) trodAll_mk0
 ·rw [hspec]
  exact trodAll_below laidOut hb hts hA (fun x hx => hlt x (List.mem_append_left _ hx))
 ·rw [hspec, hvs]
  exact rfl
end Go.Proofs.Ytooknfkholjpbaa

/- The base of this seat's texts: 'Gr' (nothing that was there has changed), boxes, small lemmas. -/
namespace Go.Proofs.Ytooknfkholjpbaa
set_option linter.unusedSectionVars false
open Go.RowKit
set_option linter.unusedVariables false
set_option linter.unusedSimpArgs false

/-- Nothing that was there has changed; there may be more memory. -/
def Gr (w w' : World) : Prop := Below w.heap.size w w'
theorem Gr.refl (w : World) : Gr w w := Below.refl _ _
theorem Gr.below {w w' : World} (h : Gr w w') : Below w.heap.size w w' := h
theorem Gr.of {w w' : World} (h : Below w.heap.size w w') : Gr w w' := h
theorem Gr.trans {a b c : World} (h : Gr a b) (k : Gr b c) : Gr a c := Below.trans h (Below.mono k (Below.size h))
theorem Gr.alloc {a b : World} (h : Gr a b) (o : Obj) : Gr a (b.alloc o) := Below.alloc h (Below.size h) o
theorem Gr.drew {a b : World} (h : Gr a b) : Gr a b.drew := Below.drew h
theorem Gr.set {a b : World} (h : Gr a b) {k o : Nat} (hp : a.heap.size ≤ k) (u : Value) : Gr a (b.setCell ⟨k, o, none⟩ u) := Below.setCell h hp u
theorem Gr.put {a b : World} {k o : Nat} (hp : a.heap.size ≤ k) (h : Gr a b) (u : Value) : Gr a (b.setCell ⟨k, o, none⟩ u) := Below.setCell h hp u
theorem Gr.after {a b c : World} (k : Gr b c) (h : Gr a b) : Gr a c := h.trans k
theorem Gr.size {a b : World} (h : Gr a b) : a.heap.size ≤ b.heap.size := Below.size h
theorem Gr.cell {a b : World} (h : Gr a b) {p : Addr} {v : Value} (hc : a.cell? p = some v) : b.cell? p = some v := by
 by_cases hp : p.block < a.heap.size
 ·rw [Below.cell h hp]; exact hc
 ·have : a.heap[p.block]? = none := Array.getElem?_eq_none (by omega)
  simp [World.cell?, this] at hc
theorem Gr.free {a b : World} (h : Gr a b) {p : Addr} (hp : p.block < a.heap.size) {x : Bool} (hc : a.frozen? p = x) : b.frozen? p = x := by
 rw [Below.frozen h hp]; exact hc
theorem Gr.lt {w w1 : World} {o : Obj} (h : Gr (w.alloc o) w1) : w.heap.size < w1.heap.size := by have := h.size; simp at this; omega
/-- Block b has these cells, and may be written. -/
abbrev Box1 (w : World) (b : Nat) (v0 : Value) : Prop := (w.cell? ⟨b, 0, none⟩ = some v0) ∧ (w.frozen? ⟨b, 0, none⟩ = false) ∧ b < w.heap.size
theorem Box1.mono {w w1 : World} {b : Nat} {v0 : Value} (k : Box1 w b v0) (h : Gr w w1) : Box1 w1 b v0 := by
 obtain ⟨k0, f0, hlt⟩ := k
 exact ⟨h.cell k0, h.free (by exact hlt) f0, Nat.lt_of_lt_of_le hlt h.size⟩
theorem Box1.of {w : World} {b : Nat} {v0 : Value} {t : TypeId} (h : w.heap[b]? = some (.cells #[v0] t (0, 0))) : Box1 w b v0 := by
 have hlt : b < w.heap.size := (Array.getElem?_eq_some_iff.1 h).1
 refine ⟨?_, ?_, hlt⟩ <;> simp [World.cell?, World.frozen?, h]
theorem Box1.at {w w1 : World} {b : Nat} {v0 : Value} {t : TypeId} (g : Gr w w1) (h : w.heap[b]? = some (.cells #[v0] t (0, 0))) : Box1 w1 b v0 := (Box1.of h).mono g
/-- Block b has these cells, and may be written. -/
abbrev Box2 (w : World) (b : Nat) (v0 v1 : Value) : Prop := (w.cell? ⟨b, 0, none⟩ = some v0 ∧ w.cell? ⟨b, 1, none⟩ = some v1) ∧ (w.frozen? ⟨b, 0, none⟩ = false ∧ w.frozen? ⟨b, 1, none⟩ = false) ∧ b < w.heap.size
theorem Box2.mono {w w1 : World} {b : Nat} {v0 v1 : Value} (k : Box2 w b v0 v1) (h : Gr w w1) : Box2 w1 b v0 v1 := by
 obtain ⟨⟨k0, k1⟩, ⟨f0, f1⟩, hlt⟩ := k
 exact ⟨⟨h.cell k0, h.cell k1⟩, ⟨h.free (by exact hlt) f0, h.free (by exact hlt) f1⟩, Nat.lt_of_lt_of_le hlt h.size⟩
theorem Box2.of {w : World} {b : Nat} {v0 v1 : Value} {t : TypeId} (h : w.heap[b]? = some (.cells #[v0, v1] t (0, 0))) : Box2 w b v0 v1 := by
 have hlt : b < w.heap.size := (Array.getElem?_eq_some_iff.1 h).1
 refine ⟨⟨?_, ?_⟩, ⟨?_, ?_⟩, hlt⟩ <;> simp [World.cell?, World.frozen?, h]
theorem Box2.at {w w1 : World} {b : Nat} {v0 v1 : Value} {t : TypeId} (g : Gr w w1) (h : w.heap[b]? = some (.cells #[v0, v1] t (0, 0))) : Box2 w1 b v0 v1 := (Box2.of h).mono g
/-- Block b has these cells, and may be written. -/
abbrev Box3 (w : World) (b : Nat) (v0 v1 v2 : Value) : Prop := (w.cell? ⟨b, 0, none⟩ = some v0 ∧ w.cell? ⟨b, 1, none⟩ = some v1 ∧ w.cell? ⟨b, 2, none⟩ = some v2) ∧ (w.frozen? ⟨b, 0, none⟩ = false ∧ w.frozen? ⟨b, 1, none⟩ = false ∧ w.frozen? ⟨b, 2, none⟩ = false) ∧ b < w.heap.size
theorem Box3.mono {w w1 : World} {b : Nat} {v0 v1 v2 : Value} (k : Box3 w b v0 v1 v2) (h : Gr w w1) : Box3 w1 b v0 v1 v2 := by
 obtain ⟨⟨k0, k1, k2⟩, ⟨f0, f1, f2⟩, hlt⟩ := k
 exact ⟨⟨h.cell k0, h.cell k1, h.cell k2⟩, ⟨h.free (by exact hlt) f0, h.free (by exact hlt) f1, h.free (by exact hlt) f2⟩, Nat.lt_of_lt_of_le hlt h.size⟩
theorem Box3.of {w : World} {b : Nat} {v0 v1 v2 : Value} {t : TypeId} (h : w.heap[b]? = some (.cells #[v0, v1, v2] t (0, 0))) : Box3 w b v0 v1 v2 := by
 have hlt : b < w.heap.size := (Array.getElem?_eq_some_iff.1 h).1
 refine ⟨⟨?_, ?_, ?_⟩, ⟨?_, ?_, ?_⟩, hlt⟩ <;> simp [World.cell?, World.frozen?, h]
theorem Box3.at {w w1 : World} {b : Nat} {v0 v1 v2 : Value} {t : TypeId} (g : Gr w w1) (h : w.heap[b]? = some (.cells #[v0, v1, v2] t (0, 0))) : Box3 w1 b v0 v1 v2 := (Box3.of h).mono g
/-- Block b has these cells, and may be written. -/
abbrev Box4 (w : World) (b : Nat) (v0 v1 v2 v3 : Value) : Prop := (w.cell? ⟨b, 0, none⟩ = some v0 ∧ w.cell? ⟨b, 1, none⟩ = some v1 ∧ w.cell? ⟨b, 2, none⟩ = some v2 ∧ w.cell? ⟨b, 3, none⟩ = some v3) ∧ (w.frozen? ⟨b, 0, none⟩ = false ∧ w.frozen? ⟨b, 1, none⟩ = false ∧ w.frozen? ⟨b, 2, none⟩ = false ∧ w.frozen? ⟨b, 3, none⟩ = false) ∧ b < w.heap.size
theorem Box4.mono {w w1 : World} {b : Nat} {v0 v1 v2 v3 : Value} (k : Box4 w b v0 v1 v2 v3) (h : Gr w w1) : Box4 w1 b v0 v1 v2 v3 := by
 obtain ⟨⟨k0, k1, k2, k3⟩, ⟨f0, f1, f2, f3⟩, hlt⟩ := k
 exact ⟨⟨h.cell k0, h.cell k1, h.cell k2, h.cell k3⟩, ⟨h.free (by exact hlt) f0, h.free (by exact hlt) f1, h.free (by exact hlt) f2, h.free (by exact hlt) f3⟩, Nat.lt_of_lt_of_le hlt h.size⟩
theorem Box4.of {w : World} {b : Nat} {v0 v1 v2 v3 : Value} {t : TypeId} (h : w.heap[b]? = some (.cells #[v0, v1, v2, v3] t (0, 0))) : Box4 w b v0 v1 v2 v3 := by
 have hlt : b < w.heap.size := (Array.getElem?_eq_some_iff.1 h).1
 refine ⟨⟨?_, ?_, ?_, ?_⟩, ⟨?_, ?_, ?_, ?_⟩, hlt⟩ <;> simp [World.cell?, World.frozen?, h]
theorem Box4.at {w w1 : World} {b : Nat} {v0 v1 v2 v3 : Value} {t : TypeId} (g : Gr w w1) (h : w.heap[b]? = some (.cells #[v0, v1, v2, v3] t (0, 0))) : Box4 w1 b v0 v1 v2 v3 := (Box4.of h).mono g
/-- Block b has these cells, and may be written. -/
abbrev Box5 (w : World) (b : Nat) (v0 v1 v2 v3 v4 : Value) : Prop := (w.cell? ⟨b, 0, none⟩ = some v0 ∧ w.cell? ⟨b, 1, none⟩ = some v1 ∧ w.cell? ⟨b, 2, none⟩ = some v2 ∧ w.cell? ⟨b, 3, none⟩ = some v3 ∧ w.cell? ⟨b, 4, none⟩ = some v4) ∧ (w.frozen? ⟨b, 0, none⟩ = false ∧ w.frozen? ⟨b, 1, none⟩ = false ∧ w.frozen? ⟨b, 2, none⟩ = false ∧ w.frozen? ⟨b, 3, none⟩ = false ∧ w.frozen? ⟨b, 4, none⟩ = false) ∧ b < w.heap.size
theorem Box5.mono {w w1 : World} {b : Nat} {v0 v1 v2 v3 v4 : Value} (k : Box5 w b v0 v1 v2 v3 v4) (h : Gr w w1) : Box5 w1 b v0 v1 v2 v3 v4 := by
 obtain ⟨⟨k0, k1, k2, k3, k4⟩, ⟨f0, f1, f2, f3, f4⟩, hlt⟩ := k
 exact ⟨⟨h.cell k0, h.cell k1, h.cell k2, h.cell k3, h.cell k4⟩, ⟨h.free (by exact hlt) f0, h.free (by exact hlt) f1, h.free (by exact hlt) f2, h.free (by exact hlt) f3, h.free (by exact hlt) f4⟩, Nat.lt_of_lt_of_le hlt h.size⟩
theorem Box5.of {w : World} {b : Nat} {v0 v1 v2 v3 v4 : Value} {t : TypeId} (h : w.heap[b]? = some (.cells #[v0, v1, v2, v3, v4] t (0, 0))) : Box5 w b v0 v1 v2 v3 v4 := by
 have hlt : b < w.heap.size := (Array.getElem?_eq_some_iff.1 h).1
 refine ⟨⟨?_, ?_, ?_, ?_, ?_⟩, ⟨?_, ?_, ?_, ?_, ?_⟩, hlt⟩ <;> simp [World.cell?, World.frozen?, h]
theorem Box5.at {w w1 : World} {b : Nat} {v0 v1 v2 v3 v4 : Value} {t : TypeId} (g : Gr w w1) (h : w.heap[b]? = some (.cells #[v0, v1, v2, v3, v4] t (0, 0))) : Box5 w1 b v0 v1 v2 v3 v4 := (Box5.of h).mono g
/-- Block b has these cells, and may be written. -/
abbrev Box6 (w : World) (b : Nat) (v0 v1 v2 v3 v4 v5 : Value) : Prop := (w.cell? ⟨b, 0, none⟩ = some v0 ∧ w.cell? ⟨b, 1, none⟩ = some v1 ∧ w.cell? ⟨b, 2, none⟩ = some v2 ∧ w.cell? ⟨b, 3, none⟩ = some v3 ∧ w.cell? ⟨b, 4, none⟩ = some v4 ∧ w.cell? ⟨b, 5, none⟩ = some v5) ∧ (w.frozen? ⟨b, 0, none⟩ = false ∧ w.frozen? ⟨b, 1, none⟩ = false ∧ w.frozen? ⟨b, 2, none⟩ = false ∧ w.frozen? ⟨b, 3, none⟩ = false ∧ w.frozen? ⟨b, 4, none⟩ = false ∧ w.frozen? ⟨b, 5, none⟩ = false) ∧ b < w.heap.size
theorem Box6.mono {w w1 : World} {b : Nat} {v0 v1 v2 v3 v4 v5 : Value} (k : Box6 w b v0 v1 v2 v3 v4 v5) (h : Gr w w1) : Box6 w1 b v0 v1 v2 v3 v4 v5 := by
 obtain ⟨⟨k0, k1, k2, k3, k4, k5⟩, ⟨f0, f1, f2, f3, f4, f5⟩, hlt⟩ := k
 exact ⟨⟨h.cell k0, h.cell k1, h.cell k2, h.cell k3, h.cell k4, h.cell k5⟩, ⟨h.free (by exact hlt) f0, h.free (by exact hlt) f1, h.free (by exact hlt) f2, h.free (by exact hlt) f3, h.free (by exact hlt) f4, h.free (by exact hlt) f5⟩, Nat.lt_of_lt_of_le hlt h.size⟩
theorem Box6.of {w : World} {b : Nat} {v0 v1 v2 v3 v4 v5 : Value} {t : TypeId} (h : w.heap[b]? = some (.cells #[v0, v1, v2, v3, v4, v5] t (0, 0))) : Box6 w b v0 v1 v2 v3 v4 v5 := by
 have hlt : b < w.heap.size := (Array.getElem?_eq_some_iff.1 h).1
 refine ⟨⟨?_, ?_, ?_, ?_, ?_, ?_⟩, ⟨?_, ?_, ?_, ?_, ?_, ?_⟩, hlt⟩ <;> simp [World.cell?, World.frozen?, h]
theorem Box6.at {w w1 : World} {b : Nat} {v0 v1 v2 v3 v4 v5 : Value} {t : TypeId} (g : Gr w w1) (h : w.heap[b]? = some (.cells #[v0, v1, v2, v3, v4, v5] t (0, 0))) : Box6 w1 b v0 v1 v2 v3 v4 v5 := (Box6.of h).mono g
/-- Block b has these cells, and may be written. -/
abbrev Box7 (w : World) (b : Nat) (v0 v1 v2 v3 v4 v5 v6 : Value) : Prop := (w.cell? ⟨b, 0, none⟩ = some v0 ∧ w.cell? ⟨b, 1, none⟩ = some v1 ∧ w.cell? ⟨b, 2, none⟩ = some v2 ∧ w.cell? ⟨b, 3, none⟩ = some v3 ∧ w.cell? ⟨b, 4, none⟩ = some v4 ∧ w.cell? ⟨b, 5, none⟩ = some v5 ∧ w.cell? ⟨b, 6, none⟩ = some v6) ∧ (w.frozen? ⟨b, 0, none⟩ = false ∧ w.frozen? ⟨b, 1, none⟩ = false ∧ w.frozen? ⟨b, 2, none⟩ = false ∧ w.frozen? ⟨b, 3, none⟩ = false ∧ w.frozen? ⟨b, 4, none⟩ = false ∧ w.frozen? ⟨b, 5, none⟩ = false ∧ w.frozen? ⟨b, 6, none⟩ = false) ∧ b < w.heap.size
theorem Box7.mono {w w1 : World} {b : Nat} {v0 v1 v2 v3 v4 v5 v6 : Value} (k : Box7 w b v0 v1 v2 v3 v4 v5 v6) (h : Gr w w1) : Box7 w1 b v0 v1 v2 v3 v4 v5 v6 := by
 obtain ⟨⟨k0, k1, k2, k3, k4, k5, k6⟩, ⟨f0, f1, f2, f3, f4, f5, f6⟩, hlt⟩ := k
 exact ⟨⟨h.cell k0, h.cell k1, h.cell k2, h.cell k3, h.cell k4, h.cell k5, h.cell k6⟩, ⟨h.free (by exact hlt) f0, h.free (by exact hlt) f1, h.free (by exact hlt) f2, h.free (by exact hlt) f3, h.free (by exact hlt) f4, h.free (by exact hlt) f5, h.free (by exact hlt) f6⟩, Nat.lt_of_lt_of_le hlt h.size⟩
theorem Box7.of {w : World} {b : Nat} {v0 v1 v2 v3 v4 v5 v6 : Value} {t : TypeId} (h : w.heap[b]? = some (.cells #[v0, v1, v2, v3, v4, v5, v6] t (0, 0))) : Box7 w b v0 v1 v2 v3 v4 v5 v6 := by
 have hlt : b < w.heap.size := (Array.getElem?_eq_some_iff.1 h).1
 refine ⟨⟨?_, ?_, ?_, ?_, ?_, ?_, ?_⟩, ⟨?_, ?_, ?_, ?_, ?_, ?_, ?_⟩, hlt⟩ <;> simp [World.cell?, World.frozen?, h]
theorem Box7.at {w w1 : World} {b : Nat} {v0 v1 v2 v3 v4 v5 v6 : Value} {t : TypeId} (g : Gr w w1) (h : w.heap[b]? = some (.cells #[v0, v1, v2, v3, v4, v5, v6] t (0, 0))) : Box7 w1 b v0 v1 v2 v3 v4 v5 v6 := (Box7.of h).mono g
/-- Block b has these cells, and may be written. -/
abbrev Box8 (w : World) (b : Nat) (v0 v1 v2 v3 v4 v5 v6 v7 : Value) : Prop := (w.cell? ⟨b, 0, none⟩ = some v0 ∧ w.cell? ⟨b, 1, none⟩ = some v1 ∧ w.cell? ⟨b, 2, none⟩ = some v2 ∧ w.cell? ⟨b, 3, none⟩ = some v3 ∧ w.cell? ⟨b, 4, none⟩ = some v4 ∧ w.cell? ⟨b, 5, none⟩ = some v5 ∧ w.cell? ⟨b, 6, none⟩ = some v6 ∧ w.cell? ⟨b, 7, none⟩ = some v7) ∧ (w.frozen? ⟨b, 0, none⟩ = false ∧ w.frozen? ⟨b, 1, none⟩ = false ∧ w.frozen? ⟨b, 2, none⟩ = false ∧ w.frozen? ⟨b, 3, none⟩ = false ∧ w.frozen? ⟨b, 4, none⟩ = false ∧ w.frozen? ⟨b, 5, none⟩ = false ∧ w.frozen? ⟨b, 6, none⟩ = false ∧ w.frozen? ⟨b, 7, none⟩ = false) ∧ b < w.heap.size
theorem Box8.mono {w w1 : World} {b : Nat} {v0 v1 v2 v3 v4 v5 v6 v7 : Value} (k : Box8 w b v0 v1 v2 v3 v4 v5 v6 v7) (h : Gr w w1) : Box8 w1 b v0 v1 v2 v3 v4 v5 v6 v7 := by
 obtain ⟨⟨k0, k1, k2, k3, k4, k5, k6, k7⟩, ⟨f0, f1, f2, f3, f4, f5, f6, f7⟩, hlt⟩ := k
 exact ⟨⟨h.cell k0, h.cell k1, h.cell k2, h.cell k3, h.cell k4, h.cell k5, h.cell k6, h.cell k7⟩, ⟨h.free (by exact hlt) f0, h.free (by exact hlt) f1, h.free (by exact hlt) f2, h.free (by exact hlt) f3, h.free (by exact hlt) f4, h.free (by exact hlt) f5, h.free (by exact hlt) f6, h.free (by exact hlt) f7⟩, Nat.lt_of_lt_of_le hlt h.size⟩
theorem Box8.of {w : World} {b : Nat} {v0 v1 v2 v3 v4 v5 v6 v7 : Value} {t : TypeId} (h : w.heap[b]? = some (.cells #[v0, v1, v2, v3, v4, v5, v6, v7] t (0, 0))) : Box8 w b v0 v1 v2 v3 v4 v5 v6 v7 := by
 have hlt : b < w.heap.size := (Array.getElem?_eq_some_iff.1 h).1
 refine ⟨⟨?_, ?_, ?_, ?_, ?_, ?_, ?_, ?_⟩, ⟨?_, ?_, ?_, ?_, ?_, ?_, ?_, ?_⟩, hlt⟩ <;> simp [World.cell?, World.frozen?, h]
theorem Box8.at {w w1 : World} {b : Nat} {v0 v1 v2 v3 v4 v5 v6 v7 : Value} {t : TypeId} (g : Gr w w1) (h : w.heap[b]? = some (.cells #[v0, v1, v2, v3, v4, v5, v6, v7] t (0, 0))) : Box8 w1 b v0 v1 v2 v3 v4 v5 v6 v7 := (Box8.of h).mono g
/-- Block b has these cells, and may be written. -/
abbrev Box9 (w : World) (b : Nat) (v0 v1 v2 v3 v4 v5 v6 v7 v8 : Value) : Prop := (w.cell? ⟨b, 0, none⟩ = some v0 ∧ w.cell? ⟨b, 1, none⟩ = some v1 ∧ w.cell? ⟨b, 2, none⟩ = some v2 ∧ w.cell? ⟨b, 3, none⟩ = some v3 ∧ w.cell? ⟨b, 4, none⟩ = some v4 ∧ w.cell? ⟨b, 5, none⟩ = some v5 ∧ w.cell? ⟨b, 6, none⟩ = some v6 ∧ w.cell? ⟨b, 7, none⟩ = some v7 ∧ w.cell? ⟨b, 8, none⟩ = some v8) ∧ (w.frozen? ⟨b, 0, none⟩ = false ∧ w.frozen? ⟨b, 1, none⟩ = false ∧ w.frozen? ⟨b, 2, none⟩ = false ∧ w.frozen? ⟨b, 3, none⟩ = false ∧ w.frozen? ⟨b, 4, none⟩ = false ∧ w.frozen? ⟨b, 5, none⟩ = false ∧ w.frozen? ⟨b, 6, none⟩ = false ∧ w.frozen? ⟨b, 7, none⟩ = false ∧ w.frozen? ⟨b, 8, none⟩ = false) ∧ b < w.heap.size
theorem Box9.mono {w w1 : World} {b : Nat} {v0 v1 v2 v3 v4 v5 v6 v7 v8 : Value} (k : Box9 w b v0 v1 v2 v3 v4 v5 v6 v7 v8) (h : Gr w w1) : Box9 w1 b v0 v1 v2 v3 v4 v5 v6 v7 v8 := by
 obtain ⟨⟨k0, k1, k2, k3, k4, k5, k6, k7, k8⟩, ⟨f0, f1, f2, f3, f4, f5, f6, f7, f8⟩, hlt⟩ := k
 exact ⟨⟨h.cell k0, h.cell k1, h.cell k2, h.cell k3, h.cell k4, h.cell k5, h.cell k6, h.cell k7, h.cell k8⟩, ⟨h.free (by exact hlt) f0, h.free (by exact hlt) f1, h.free (by exact hlt) f2, h.free (by exact hlt) f3, h.free (by exact hlt) f4, h.free (by exact hlt) f5, h.free (by exact hlt) f6, h.free (by exact hlt) f7, h.free (by exact hlt) f8⟩, Nat.lt_of_lt_of_le hlt h.size⟩
theorem Box9.of {w : World} {b : Nat} {v0 v1 v2 v3 v4 v5 v6 v7 v8 : Value} {t : TypeId} (h : w.heap[b]? = some (.cells #[v0, v1, v2, v3, v4, v5, v6, v7, v8] t (0, 0))) : Box9 w b v0 v1 v2 v3 v4 v5 v6 v7 v8 := by
 have hlt : b < w.heap.size := (Array.getElem?_eq_some_iff.1 h).1
 refine ⟨⟨?_, ?_, ?_, ?_, ?_, ?_, ?_, ?_, ?_⟩, ⟨?_, ?_, ?_, ?_, ?_, ?_, ?_, ?_, ?_⟩, hlt⟩ <;> simp [World.cell?, World.frozen?, h]
theorem Box9.at {w w1 : World} {b : Nat} {v0 v1 v2 v3 v4 v5 v6 v7 v8 : Value} {t : TypeId} (g : Gr w w1) (h : w.heap[b]? = some (.cells #[v0, v1, v2, v3, v4, v5, v6, v7, v8] t (0, 0))) : Box9 w1 b v0 v1 v2 v3 v4 v5 v6 v7 v8 := (Box9.of h).mono g
/-- Block b has these cells, and may be written. -/
abbrev Box10 (w : World) (b : Nat) (v0 v1 v2 v3 v4 v5 v6 v7 v8 v9 : Value) : Prop := (w.cell? ⟨b, 0, none⟩ = some v0 ∧ w.cell? ⟨b, 1, none⟩ = some v1 ∧ w.cell? ⟨b, 2, none⟩ = some v2 ∧ w.cell? ⟨b, 3, none⟩ = some v3 ∧ w.cell? ⟨b, 4, none⟩ = some v4 ∧ w.cell? ⟨b, 5, none⟩ = some v5 ∧ w.cell? ⟨b, 6, none⟩ = some v6 ∧ w.cell? ⟨b, 7, none⟩ = some v7 ∧ w.cell? ⟨b, 8, none⟩ = some v8 ∧ w.cell? ⟨b, 9, none⟩ = some v9) ∧ (w.frozen? ⟨b, 0, none⟩ = false ∧ w.frozen? ⟨b, 1, none⟩ = false ∧ w.frozen? ⟨b, 2, none⟩ = false ∧ w.frozen? ⟨b, 3, none⟩ = false ∧ w.frozen? ⟨b, 4, none⟩ = false ∧ w.frozen? ⟨b, 5, none⟩ = false ∧ w.frozen? ⟨b, 6, none⟩ = false ∧ w.frozen? ⟨b, 7, none⟩ = false ∧ w.frozen? ⟨b, 8, none⟩ = false ∧ w.frozen? ⟨b, 9, none⟩ = false) ∧ b < w.heap.size
theorem Box10.mono {w w1 : World} {b : Nat} {v0 v1 v2 v3 v4 v5 v6 v7 v8 v9 : Value} (k : Box10 w b v0 v1 v2 v3 v4 v5 v6 v7 v8 v9) (h : Gr w w1) : Box10 w1 b v0 v1 v2 v3 v4 v5 v6 v7 v8 v9 := by
 obtain ⟨⟨k0, k1, k2, k3, k4, k5, k6, k7, k8, k9⟩, ⟨f0, f1, f2, f3, f4, f5, f6, f7, f8, f9⟩, hlt⟩ := k
 exact ⟨⟨h.cell k0, h.cell k1, h.cell k2, h.cell k3, h.cell k4, h.cell k5, h.cell k6, h.cell k7, h.cell k8, h.cell k9⟩, ⟨h.free (by exact hlt) f0, h.free (by exact hlt) f1, h.free (by exact hlt) f2, h.free (by exact hlt) f3, h.free (by exact hlt) f4, h.free (by exact hlt) f5, h.free (by exact hlt) f6, h.free (by exact hlt) f7, h.free (by exact hlt) f8, h.free (by exact hlt) f9⟩, Nat.lt_of_lt_of_le hlt h.size⟩
theorem Box10.of {w : World} {b : Nat} {v0 v1 v2 v3 v4 v5 v6 v7 v8 v9 : Value} {t : TypeId} (h : w.heap[b]? = some (.cells #[v0, v1, v2, v3, v4, v5, v6, v7, v8, v9] t (0, 0))) : Box10 w b v0 v1 v2 v3 v4 v5 v6 v7 v8 v9 := by
 have hlt : b < w.heap.size := (Array.getElem?_eq_some_iff.1 h).1
 refine ⟨⟨?_, ?_, ?_, ?_, ?_, ?_, ?_, ?_, ?_, ?_⟩, ⟨?_, ?_, ?_, ?_, ?_, ?_, ?_, ?_, ?_, ?_⟩, hlt⟩ <;> simp [World.cell?, World.frozen?, h]
theorem Box10.at {w w1 : World} {b : Nat} {v0 v1 v2 v3 v4 v5 v6 v7 v8 v9 : Value} {t : TypeId} (g : Gr w w1) (h : w.heap[b]? = some (.cells #[v0, v1, v2, v3, v4, v5, v6, v7, v8, v9] t (0, 0))) : Box10 w1 b v0 v1 v2 v3 v4 v5 v6 v7 v8 v9 := (Box10.of h).mono g
/-- Block b has these cells, and may be written. -/
abbrev Box11 (w : World) (b : Nat) (v0 v1 v2 v3 v4 v5 v6 v7 v8 v9 v10 : Value) : Prop := (w.cell? ⟨b, 0, none⟩ = some v0 ∧ w.cell? ⟨b, 1, none⟩ = some v1 ∧ w.cell? ⟨b, 2, none⟩ = some v2 ∧ w.cell? ⟨b, 3, none⟩ = some v3 ∧ w.cell? ⟨b, 4, none⟩ = some v4 ∧ w.cell? ⟨b, 5, none⟩ = some v5 ∧ w.cell? ⟨b, 6, none⟩ = some v6 ∧ w.cell? ⟨b, 7, none⟩ = some v7 ∧ w.cell? ⟨b, 8, none⟩ = some v8 ∧ w.cell? ⟨b, 9, none⟩ = some v9 ∧ w.cell? ⟨b, 10, none⟩ = some v10) ∧ (w.frozen? ⟨b, 0, none⟩ = false ∧ w.frozen? ⟨b, 1, none⟩ = false ∧ w.frozen? ⟨b, 2, none⟩ = false ∧ w.frozen? ⟨b, 3, none⟩ = false ∧ w.frozen? ⟨b, 4, none⟩ = false ∧ w.frozen? ⟨b, 5, none⟩ = false ∧ w.frozen? ⟨b, 6, none⟩ = false ∧ w.frozen? ⟨b, 7, none⟩ = false ∧ w.frozen? ⟨b, 8, none⟩ = false ∧ w.frozen? ⟨b, 9, none⟩ = false ∧ w.frozen? ⟨b, 10, none⟩ = false) ∧ b < w.heap.size
theorem Box11.mono {w w1 : World} {b : Nat} {v0 v1 v2 v3 v4 v5 v6 v7 v8 v9 v10 : Value} (k : Box11 w b v0 v1 v2 v3 v4 v5 v6 v7 v8 v9 v10) (h : Gr w w1) : Box11 w1 b v0 v1 v2 v3 v4 v5 v6 v7 v8 v9 v10 := by
 obtain ⟨⟨k0, k1, k2, k3, k4, k5, k6, k7, k8, k9, k10⟩, ⟨f0, f1, f2, f3, f4, f5, f6, f7, f8, f9, f10⟩, hlt⟩ := k
 exact ⟨⟨h.cell k0, h.cell k1, h.cell k2, h.cell k3, h.cell k4, h.cell k5, h.cell k6, h.cell k7, h.cell k8, h.cell k9, h.cell k10⟩, ⟨h.free (by exact hlt) f0, h.free (by exact hlt) f1, h.free (by exact hlt) f2, h.free (by exact hlt) f3, h.free (by exact hlt) f4, h.free (by exact hlt) f5, h.free (by exact hlt) f6, h.free (by exact hlt) f7, h.free (by exact hlt) f8, h.free (by exact hlt) f9, h.free (by exact hlt) f10⟩, Nat.lt_of_lt_of_le hlt h.size⟩
theorem Box11.of {w : World} {b : Nat} {v0 v1 v2 v3 v4 v5 v6 v7 v8 v9 v10 : Value} {t : TypeId} (h : w.heap[b]? = some (.cells #[v0, v1, v2, v3, v4, v5, v6, v7, v8, v9, v10] t (0, 0))) : Box11 w b v0 v1 v2 v3 v4 v5 v6 v7 v8 v9 v10 := by
 have hlt : b < w.heap.size := (Array.getElem?_eq_some_iff.1 h).1
 refine ⟨⟨?_, ?_, ?_, ?_, ?_, ?_, ?_, ?_, ?_, ?_, ?_⟩, ⟨?_, ?_, ?_, ?_, ?_, ?_, ?_, ?_, ?_, ?_, ?_⟩, hlt⟩ <;> simp [World.cell?, World.frozen?, h]
theorem Box11.at {w w1 : World} {b : Nat} {v0 v1 v2 v3 v4 v5 v6 v7 v8 v9 v10 : Value} {t : TypeId} (g : Gr w w1) (h : w.heap[b]? = some (.cells #[v0, v1, v2, v3, v4, v5, v6, v7, v8, v9, v10] t (0, 0))) : Box11 w1 b v0 v1 v2 v3 v4 v5 v6 v7 v8 v9 v10 := (Box11.of h).mono g
/-- Block b has these cells, and may be written. -/
abbrev Box12 (w : World) (b : Nat) (v0 v1 v2 v3 v4 v5 v6 v7 v8 v9 v10 v11 : Value) : Prop := (w.cell? ⟨b, 0, none⟩ = some v0 ∧ w.cell? ⟨b, 1, none⟩ = some v1 ∧ w.cell? ⟨b, 2, none⟩ = some v2 ∧ w.cell? ⟨b, 3, none⟩ = some v3 ∧ w.cell? ⟨b, 4, none⟩ = some v4 ∧ w.cell? ⟨b, 5, none⟩ = some v5 ∧ w.cell? ⟨b, 6, none⟩ = some v6 ∧ w.cell? ⟨b, 7, none⟩ = some v7 ∧ w.cell? ⟨b, 8, none⟩ = some v8 ∧ w.cell? ⟨b, 9, none⟩ = some v9 ∧ w.cell? ⟨b, 10, none⟩ = some v10 ∧ w.cell? ⟨b, 11, none⟩ = some v11) ∧ (w.frozen? ⟨b, 0, none⟩ = false ∧ w.frozen? ⟨b, 1, none⟩ = false ∧ w.frozen? ⟨b, 2, none⟩ = false ∧ w.frozen? ⟨b, 3, none⟩ = false ∧ w.frozen? ⟨b, 4, none⟩ = false ∧ w.frozen? ⟨b, 5, none⟩ = false ∧ w.frozen? ⟨b, 6, none⟩ = false ∧ w.frozen? ⟨b, 7, none⟩ = false ∧ w.frozen? ⟨b, 8, none⟩ = false ∧ w.frozen? ⟨b, 9, none⟩ = false ∧ w.frozen? ⟨b, 10, none⟩ = false ∧ w.frozen? ⟨b, 11, none⟩ = false) ∧ b < w.heap.size
theorem Box12.mono {w w1 : World} {b : Nat} {v0 v1 v2 v3 v4 v5 v6 v7 v8 v9 v10 v11 : Value} (k : Box12 w b v0 v1 v2 v3 v4 v5 v6 v7 v8 v9 v10 v11) (h : Gr w w1) : Box12 w1 b v0 v1 v2 v3 v4 v5 v6 v7 v8 v9 v10 v11 := by
 obtain ⟨⟨k0, k1, k2, k3, k4, k5, k6, k7, k8, k9, k10, k11⟩, ⟨f0, f1, f2, f3, f4, f5, f6, f7, f8, f9, f10, f11⟩, hlt⟩ := k
 exact ⟨⟨h.cell k0, h.cell k1, h.cell k2, h.cell k3, h.cell k4, h.cell k5, h.cell k6, h.cell k7, h.cell k8, h.cell k9, h.cell k10, h.cell k11⟩, ⟨h.free (by exact hlt) f0, h.free (by exact hlt) f1, h.free (by exact hlt) f2, h.free (by exact hlt) f3, h.free (by exact hlt) f4, h.free (by exact hlt) f5, h.free (by exact hlt) f6, h.free (by exact hlt) f7, h.free (by exact hlt) f8, h.free (by exact hlt) f9, h.free (by exact hlt) f10, h.free (by exact hlt) f11⟩, Nat.lt_of_lt_of_le hlt h.size⟩
theorem Box12.of {w : World} {b : Nat} {v0 v1 v2 v3 v4 v5 v6 v7 v8 v9 v10 v11 : Value} {t : TypeId} (h : w.heap[b]? = some (.cells #[v0, v1, v2, v3, v4, v5, v6, v7, v8, v9, v10, v11] t (0, 0))) : Box12 w b v0 v1 v2 v3 v4 v5 v6 v7 v8 v9 v10 v11 := by
 have hlt : b < w.heap.size := (Array.getElem?_eq_some_iff.1 h).1
 refine ⟨⟨?_, ?_, ?_, ?_, ?_, ?_, ?_, ?_, ?_, ?_, ?_, ?_⟩, ⟨?_, ?_, ?_, ?_, ?_, ?_, ?_, ?_, ?_, ?_, ?_, ?_⟩, hlt⟩ <;> simp [World.cell?, World.frozen?, h]
theorem Box12.at {w w1 : World} {b : Nat} {v0 v1 v2 v3 v4 v5 v6 v7 v8 v9 v10 v11 : Value} {t : TypeId} (g : Gr w w1) (h : w.heap[b]? = some (.cells #[v0, v1, v2, v3, v4, v5, v6, v7, v8, v9, v10, v11] t (0, 0))) : Box12 w1 b v0 v1 v2 v3 v4 v5 v6 v7 v8 v9 v10 v11 := (Box12.of h).mono g
/-- Block b has these cells, and may be written. -/
abbrev Box13 (w : World) (b : Nat) (v0 v1 v2 v3 v4 v5 v6 v7 v8 v9 v10 v11 v12 : Value) : Prop := (w.cell? ⟨b, 0, none⟩ = some v0 ∧ w.cell? ⟨b, 1, none⟩ = some v1 ∧ w.cell? ⟨b, 2, none⟩ = some v2 ∧ w.cell? ⟨b, 3, none⟩ = some v3 ∧ w.cell? ⟨b, 4, none⟩ = some v4 ∧ w.cell? ⟨b, 5, none⟩ = some v5 ∧ w.cell? ⟨b, 6, none⟩ = some v6 ∧ w.cell? ⟨b, 7, none⟩ = some v7 ∧ w.cell? ⟨b, 8, none⟩ = some v8 ∧ w.cell? ⟨b, 9, none⟩ = some v9 ∧ w.cell? ⟨b, 10, none⟩ = some v10 ∧ w.cell? ⟨b, 11, none⟩ = some v11 ∧ w.cell? ⟨b, 12, none⟩ = some v12) ∧ (w.frozen? ⟨b, 0, none⟩ = false ∧ w.frozen? ⟨b, 1, none⟩ = false ∧ w.frozen? ⟨b, 2, none⟩ = false ∧ w.frozen? ⟨b, 3, none⟩ = false ∧ w.frozen? ⟨b, 4, none⟩ = false ∧ w.frozen? ⟨b, 5, none⟩ = false ∧ w.frozen? ⟨b, 6, none⟩ = false ∧ w.frozen? ⟨b, 7, none⟩ = false ∧ w.frozen? ⟨b, 8, none⟩ = false ∧ w.frozen? ⟨b, 9, none⟩ = false ∧ w.frozen? ⟨b, 10, none⟩ = false ∧ w.frozen? ⟨b, 11, none⟩ = false ∧ w.frozen? ⟨b, 12, none⟩ = false) ∧ b < w.heap.size
theorem Box13.mono {w w1 : World} {b : Nat} {v0 v1 v2 v3 v4 v5 v6 v7 v8 v9 v10 v11 v12 : Value} (k : Box13 w b v0 v1 v2 v3 v4 v5 v6 v7 v8 v9 v10 v11 v12) (h : Gr w w1) : Box13 w1 b v0 v1 v2 v3 v4 v5 v6 v7 v8 v9 v10 v11 v12 := by
 obtain ⟨⟨k0, k1, k2, k3, k4, k5, k6, k7, k8, k9, k10, k11, k12⟩, ⟨f0, f1, f2, f3, f4, f5, f6, f7, f8, f9, f10, f11, f12⟩, hlt⟩ := k
 exact ⟨⟨h.cell k0, h.cell k1, h.cell k2, h.cell k3, h.cell k4, h.cell k5, h.cell k6, h.cell k7, h.cell k8, h.cell k9, h.cell k10, h.cell k11, h.cell k12⟩, ⟨h.free (by exact hlt) f0, h.free (by exact hlt) f1, h.free (by exact hlt) f2, h.free (by exact hlt) f3, h.free (by exact hlt) f4, h.free (by exact hlt) f5, h.free (by exact hlt) f6, h.free (by exact hlt) f7, h.free (by exact hlt) f8, h.free (by exact hlt) f9, h.free (by exact hlt) f10, h.free (by exact hlt) f11, h.free (by exact hlt) f12⟩, Nat.lt_of_lt_of_le hlt h.size⟩
theorem Box13.of {w : World} {b : Nat} {v0 v1 v2 v3 v4 v5 v6 v7 v8 v9 v10 v11 v12 : Value} {t : TypeId} (h : w.heap[b]? = some (.cells #[v0, v1, v2, v3, v4, v5, v6, v7, v8, v9, v10, v11, v12] t (0, 0))) : Box13 w b v0 v1 v2 v3 v4 v5 v6 v7 v8 v9 v10 v11 v12 := by
 have hlt : b < w.heap.size := (Array.getElem?_eq_some_iff.1 h).1
 refine ⟨⟨?_, ?_, ?_, ?_, ?_, ?_, ?_, ?_, ?_, ?_, ?_, ?_, ?_⟩, ⟨?_, ?_, ?_, ?_, ?_, ?_, ?_, ?_, ?_, ?_, ?_, ?_, ?_⟩, hlt⟩ <;> simp [World.cell?, World.frozen?, h]
theorem Box13.at {w w1 : World} {b : Nat} {v0 v1 v2 v3 v4 v5 v6 v7 v8 v9 v10 v11 v12 : Value} {t : TypeId} (g : Gr w w1) (h : w.heap[b]? = some (.cells #[v0, v1, v2, v3, v4, v5, v6, v7, v8, v9, v10, v11, v12] t (0, 0))) : Box13 w1 b v0 v1 v2 v3 v4 v5 v6 v7 v8 v9 v10 v11 v12 := (Box13.of h).mono g
/-- Block b has these cells, and may be written. -/
abbrev Box14 (w : World) (b : Nat) (v0 v1 v2 v3 v4 v5 v6 v7 v8 v9 v10 v11 v12 v13 : Value) : Prop := (w.cell? ⟨b, 0, none⟩ = some v0 ∧ w.cell? ⟨b, 1, none⟩ = some v1 ∧ w.cell? ⟨b, 2, none⟩ = some v2 ∧ w.cell? ⟨b, 3, none⟩ = some v3 ∧ w.cell? ⟨b, 4, none⟩ = some v4 ∧ w.cell? ⟨b, 5, none⟩ = some v5 ∧ w.cell? ⟨b, 6, none⟩ = some v6 ∧ w.cell? ⟨b, 7, none⟩ = some v7 ∧ w.cell? ⟨b, 8, none⟩ = some v8 ∧ w.cell? ⟨b, 9, none⟩ = some v9 ∧ w.cell? ⟨b, 10, none⟩ = some v10 ∧ w.cell? ⟨b, 11, none⟩ = some v11 ∧ w.cell? ⟨b, 12, none⟩ = some v12 ∧ w.cell? ⟨b, 13, none⟩ = some v13) ∧ (w.frozen? ⟨b, 0, none⟩ = false ∧ w.frozen? ⟨b, 1, none⟩ = false ∧ w.frozen? ⟨b, 2, none⟩ = false ∧ w.frozen? ⟨b, 3, none⟩ = false ∧ w.frozen? ⟨b, 4, none⟩ = false ∧ w.frozen? ⟨b, 5, none⟩ = false ∧ w.frozen? ⟨b, 6, none⟩ = false ∧ w.frozen? ⟨b, 7, none⟩ = false ∧ w.frozen? ⟨b, 8, none⟩ = false ∧ w.frozen? ⟨b, 9, none⟩ = false ∧ w.frozen? ⟨b, 10, none⟩ = false ∧ w.frozen? ⟨b, 11, none⟩ = false ∧ w.frozen? ⟨b, 12, none⟩ = false ∧ w.frozen? ⟨b, 13, none⟩ = false) ∧ b < w.heap.size
theorem Box14.mono {w w1 : World} {b : Nat} {v0 v1 v2 v3 v4 v5 v6 v7 v8 v9 v10 v11 v12 v13 : Value} (k : Box14 w b v0 v1 v2 v3 v4 v5 v6 v7 v8 v9 v10 v11 v12 v13) (h : Gr w w1) : Box14 w1 b v0 v1 v2 v3 v4 v5 v6 v7 v8 v9 v10 v11 v12 v13 := by
 obtain ⟨⟨k0, k1, k2, k3, k4, k5, k6, k7, k8, k9, k10, k11, k12, k13⟩, ⟨f0, f1, f2, f3, f4, f5, f6, f7, f8, f9, f10, f11, f12, f13⟩, hlt⟩ := k
 exact ⟨⟨h.cell k0, h.cell k1, h.cell k2, h.cell k3, h.cell k4, h.cell k5, h.cell k6, h.cell k7, h.cell k8, h.cell k9, h.cell k10, h.cell k11, h.cell k12, h.cell k13⟩, ⟨h.free (by exact hlt) f0, h.free (by exact hlt) f1, h.free (by exact hlt) f2, h.free (by exact hlt) f3, h.free (by exact hlt) f4, h.free (by exact hlt) f5, h.free (by exact hlt) f6, h.free (by exact hlt) f7, h.free (by exact hlt) f8, h.free (by exact hlt) f9, h.free (by exact hlt) f10, h.free (by exact hlt) f11, h.free (by exact hlt) f12, h.free (by exact hlt) f13⟩, Nat.lt_of_lt_of_le hlt h.size⟩
theorem Box14.of {w : World} {b : Nat} {v0 v1 v2 v3 v4 v5 v6 v7 v8 v9 v10 v11 v12 v13 : Value} {t : TypeId} (h : w.heap[b]? = some (.cells #[v0, v1, v2, v3, v4, v5, v6, v7, v8, v9, v10, v11, v12, v13] t (0, 0))) : Box14 w b v0 v1 v2 v3 v4 v5 v6 v7 v8 v9 v10 v11 v12 v13 := by
 have hlt : b < w.heap.size := (Array.getElem?_eq_some_iff.1 h).1
 refine ⟨⟨?_, ?_, ?_, ?_, ?_, ?_, ?_, ?_, ?_, ?_, ?_, ?_, ?_, ?_⟩, ⟨?_, ?_, ?_, ?_, ?_, ?_, ?_, ?_, ?_, ?_, ?_, ?_, ?_, ?_⟩, hlt⟩ <;> simp [World.cell?, World.frozen?, h]
theorem Box14.at {w w1 : World} {b : Nat} {v0 v1 v2 v3 v4 v5 v6 v7 v8 v9 v10 v11 v12 v13 : Value} {t : TypeId} (g : Gr w w1) (h : w.heap[b]? = some (.cells #[v0, v1, v2, v3, v4, v5, v6, v7, v8, v9, v10, v11, v12, v13] t (0, 0))) : Box14 w1 b v0 v1 v2 v3 v4 v5 v6 v7 v8 v9 v10 v11 v12 v13 := (Box14.of h).mono g
end Go.Proofs.Ytooknfkholjpbaa

/- Codecs: what it means that cells hold a number, a string, a struct, a slice; and that an argument that can be read has such cells. -/
namespace Go.Proofs.Ytooknfkholjpbaa
set_option linter.unusedSectionVars false
open Go.RowKit Go.Deep
set_option linter.unusedVariables false
set_option linter.unusedSimpArgs false

theorem Gr.cells {w w' : World} (g : Gr w w') {a : Addr} {n : Nat} {cs : List Value} (h : ∀ i, i < n → w.cell? (a.add i) = cs[i]?) (hl : cs.length = n) : ∀ i, i < n → w'.cell? (a.add i) = cs[i]? := by
 intro i hi
 have h1 := h i hi
 rw [List.getElem?_eq_getElem (by omega)] at h1 ⊢
 exact g.cell h1

/-- How values of a Lean type lie in cells. -/
structure Cod (α : Type) where
 size : Nat
 is : World → List Value → α → Prop
 len : ∀ {w cs a}, is w cs a → cs.length = size
 mono : ∀ {w w' cs a}, is w cs a → Gr w w' → is w' cs a
 bulk : α → Nat

def intC : Cod Int where
 size := 1
 is := fun _ cs n => cs = [.int .i64 n] ∧ -9223372036854775808 ≤ n ∧ n ≤ 9223372036854775807
 len := fun h => by rw [h.1]; rfl
 mono := fun h _ => h
 bulk := fun _ => 1
def boolC : Cod Bool where
 size := 1
 is := fun _ cs b => cs = [.bool b]
 len := fun h => by rw [h]; rfl
 mono := fun h _ => h
 bulk := fun _ => 1
def strC : Cod ByteArray where
 size := 1
 is := fun _ cs s => cs = [.string s] ∧ s.size ≤ maxLen
 len := fun h => by rw [h.1]; rfl
 mono := fun h _ => h
 bulk := fun s => s.size + 1
def Cod.pair {α β : Type} (c : Cod α) (d : Cod β) : Cod (α × β) where
 size := c.size + d.size
 is := fun w cs x => c.is w (cs.take c.size) x.1 ∧ d.is w (cs.drop c.size) x.2
 len := fun {w cs a} h => by
  have h1 := c.len h.1
  have h2 := d.len h.2
  simp at h1 h2
  omega
 mono := fun h g => ⟨c.mono h.1 g, d.mono h.2 g⟩
 bulk := fun x => c.bulk x.1 + d.bulk x.2
/-- A slice's elements, one behind the other. -/
def sliceC {α : Type} (c : Cod α) : Cod (List α) where
 size := 1
 is := fun w cs l => (cs = [.slice none 0 0] ∧ l = []) ∨ ∃ (b off : Nat) (sp : Option Nat) (cap : Nat), cs = [.slice (some ⟨b, off, sp⟩) l.length cap] ∧ l.length ≤ cap ∧ cap ≤ maxLen ∧
  ∀ i (h : i < l.length), sp = none ∧ ∃ cs', (∀ j, j < c.size → w.cell? ⟨b, off + (i * c.size + j), none⟩ = cs'[j]?) ∧ c.is w cs' l[i]
 len := fun h => by
  rcases h with ⟨rfl, _⟩ | ⟨b, off, sp, cap, rfl, _⟩ <;> rfl
 mono := fun {w w' cs l} h g => by
  rcases h with h | ⟨b, off, sp, cap, h1, h2, h3, h4⟩
  ·exact .inl h
  ·refine .inr ⟨b, off, sp, cap, h1, h2, h3, fun i hi => ?_⟩
   obtain ⟨e, cs', h5, h6⟩ := h4 i hi
   refine ⟨e, cs', fun j hj => ?_, c.mono h6 g⟩
   have h7 := h5 j hj
   have hl := c.len h6
   rw [List.getElem?_eq_getElem (by omega)] at h7 ⊢
   exact g.cell h7
 bulk := fun l => (l.map c.bulk).sum + 1

/-- Whatever can be read as a value of type t has cells of this codec. -/
def ReadsF {α : Type} (F : Nat → Prop) (P : Program) (c : Cod α) (t : TypeId) : Prop :=
 ∀ ⦃H : Type⦄ ⦃enc : TypeId × Value → H⦄ ⦃w : World⦄ ⦃base : Nat⦄ ⦃spare : Nat → Bool⦄ ⦃held : Bool⦄ ⦃fuel : Nat⦄ ⦃cs : List Value⦄ ⦃x : DataW H × List MemPlace⦄, F fuel →
  DataW.trod enc P w base spare held fuel t cs = some x → ∃ a, c.is w cs a ∧ c.bulk a ≤ Rows.uptoBulk x.1
abbrev Reads {α : Type} (P : Program) (c : Cod α) (t : TypeId) : Prop := ReadsF (fun _ => True) P c t
theorem bulkAll_sum {H : Type} (l : List (DataW H)) : Rows.uptoBulkAll l = (l.map Rows.uptoBulk).sum := by
 induction l with
 | nil => rfl
 | cons x r ih => simp only [Rows.uptoBulkAll, List.map_cons, List.sum_cons, ih]
theorem sum_le_range {α : Type} (f : α → Nat) (D : Nat → Nat) : ∀ (l : List α) (o : Nat), (∀ i (h : i < l.length), f l[i] ≤ D (o + i)) → (l.map f).sum ≤ ((List.range' o l.length).map D).sum
 | [], _, _ => by simp
 | x :: r, o, h => by
  simp only [List.length_cons, List.range'_succ, List.map_cons, List.sum_cons]
  have h0 := h 0 (by simp)
  have := sum_le_range f D r (o + 1) (fun i hi => by have := h (i + 1) (by simp; omega); simp only [List.getElem_cons_succ] at this; rw [show o + 1 + i = o + (i + 1) by omega]; exact this)
  simp at h0
  omega

theorem wf_i64 {n : Int} (h : (Lit.int .i64 n).wf = true) : -9223372036854775808 ≤ n ∧ n ≤ 9223372036854775807 := by
 simpa [Lit.wf, IntKind.min, IntKind.max, IntKind.signed, IntKind.bits] using h
theorem bulk_pos {H : Type} (d : DataW H) : 1 ≤ Rows.uptoBulk d := by
 cases d with
 | lit l => cases l <;> simp [Rows.uptoBulk]
 | _ => simp [Rows.uptoBulk]
theorem reads_int {F : Nat → Prop} {P : Program} {t : TypeId} (ht : P.underlying t = some (.int .i64)) : ReadsF F P intC t := by
 intro H enc w base spare held fuel cs x _ h
 obtain ⟨n, rfl, _, hw⟩ := DataW.trod_int ht h
 exact ⟨n, ⟨rfl, wf_i64 hw⟩, bulk_pos _⟩
theorem reads_bool {F : Nat → Prop} {P : Program} {t : TypeId} (ht : P.underlying t = some .bool) : ReadsF F P boolC t := by
 intro H enc w base spare held fuel cs x _ h
 obtain ⟨n, rfl, _⟩ := DataW.trod_bool ht h
 exact ⟨n, rfl, bulk_pos _⟩
theorem reads_str {F : Nat → Prop} {P : Program} {t : TypeId} (ht : P.underlying t = some .string) : ReadsF F P strC t := by
 intro H enc w base spare held fuel cs x _ h
 obtain ⟨n, rfl, hx, hw⟩ := DataW.trod_string ht h
 refine ⟨n, ⟨rfl, hw⟩, ?_⟩
 subst hx
 simp only [Rows.uptoBulk, strC]
 first | (simp; done) | omega
theorem reads_slice {F : Nat → Prop} {P : Program} {α : Type} {c : Cod α} {t e : TypeId} (ht : P.underlying t = some (.slice e)) (hz : P.cellsOf e = c.size) (hp : 0 < c.size) (hr : ReadsF (fun m => F (m + 1)) P c e) : ReadsF F P (sliceC c) t := by
 intro H enc w base spare held fuel cs x hF h
 rcases DataW.trod_slice ht h with ⟨rfl, rfl⟩ | ⟨a, len, cap, elems, rest, n, hfu, rfl, hxe, hb, hl, hm, hlen, hel, h8, h9⟩
 ·exact ⟨[], .inl ⟨rfl, rfl⟩, by simp [sliceC, Rows.uptoBulk]⟩
 ·obtain ⟨D, hD⟩ : ∃ D : Nat → DataW H, D = fun i => (elems.getD i (.nil, [])).1 := ⟨_, rfl⟩
  have key : ∀ i, i < len → ∃ (y : α) (cs' : List Value), (∀ j, j < c.size → w.cell? (a.add (i * c.size + j)) = cs'[j]?) ∧ c.is w cs' y ∧ c.bulk y ≤ Rows.uptoBulk (D i) := by
   intro i hi
   have hk := hel i hi
   rw [List.getElem?_eq_getElem (by omega)] at hk
   obtain ⟨cs', h1, h2⟩ := Option.bind_eq_some_iff.1 hk
   obtain ⟨y, hy, hyb⟩ := hr (by subst hfu; exact hF) h2
   have hyb : c.bulk y ≤ Rows.uptoBulk (D i) := by
    rw [hD]
    simpa [List.getD, List.getElem?_eq_getElem (show i < elems.length by omega)] using hyb
   obtain ⟨_, h3, h4⟩ := World.cells?_some h1
   refine ⟨y, cs', fun j hj => ?_, hy, hyb⟩
   have := h4 j (by rw [hz]; exact hj)
   rw [hz] at this
   rw [← this, add_add]
  obtain ⟨ys, hys⟩ : ∃ ys : List α, ys.length = len ∧ ∀ i (h : i < ys.length), c.bulk ys[i] ≤ Rows.uptoBulk (D i) ∧ ∃ cs', (∀ j, j < c.size → w.cell? (a.add (i * c.size + j)) = cs'[j]?) ∧ c.is w cs' ys[i] := by
   clear hel hlen h hl hxe h8 h9
   induction len with
   | zero => exact ⟨[], rfl, fun i h => by simp at h⟩
   | succ k ih =>
    obtain ⟨ys, h1, h2⟩ := ih (fun i hi => key i (by omega))
    obtain ⟨y, cs', h3, h4, h4b⟩ := key k (by omega)
    refine ⟨ys ++ [y], by simp [h1], fun i hi => ?_⟩
    by_cases hk : i < ys.length
    ·rw [List.getElem_append_left hk]; exact h2 i hk
    ·have : i = k := by simp at hi; omega
     subst this
     rw [List.getElem_append_right (by omega)]
     simp only [h1, Nat.sub_self, List.getElem_cons_zero]
     exact ⟨h4b, cs', h3, h4⟩
  obtain ⟨h1, h2⟩ := hys
  obtain ⟨b, off, sp⟩ := a
  refine ⟨ys, .inr ⟨b, off, sp, cap, by rw [h1], by omega, hm, fun i hi => ?_⟩, ?_⟩
  ·have hs : sp = none := by
    cases sp with
    | none => rfl
    | some q =>
     exfalso
     obtain ⟨_, cs', h3, h4⟩ := h2 0 (by omega)
     have h5 := h3 0 hp
     have hl := c.len h4
     rw [List.getElem?_eq_getElem (by omega)] at h5
     simp only [Nat.zero_mul, Nat.zero_add, World.cell?, Addr.add] at h5
     split at h5 <;> simp at h5
   obtain ⟨_, cs', h3, h4⟩ := h2 i hi
   subst hs
   refine ⟨rfl, cs', fun j hj => ?_, h4⟩
   have h6 := h3 j hj
   rw [← h6]
   congr 1
   simp only [Addr.add]
   split
   ·rename_i h7; simp only [h7, Nat.add_zero]
   ·rfl
  ·subst hxe
   simp only [sliceC, Rows.uptoBulk, bulkAll_sum, List.map_map]
   have := sum_le_range c.bulk (fun i => Rows.uptoBulk (D i)) ys 0 (fun i hi => by simpa using (h2 i hi).1)
   rw [h1, ← List.range_eq_range'] at this
   have e : List.map (Rows.uptoBulk ∘ fun x => x.1) elems = List.map (fun i => Rows.uptoBulk (D i)) (List.range len) := by
    rw [← hlen, hD]
    apply List.ext_getElem (by simp)
    intro i h3 h4
    simp at h3
    simp [List.getD, List.getElem?_eq_getElem h3]
   rw [e]
   omega
theorem take_drop_all {α : Type} (l : List α) (o n : Nat) (h : l.length = o + n) : (l.drop o).take n = l.drop o := List.take_of_length_le (by simp; omega)

theorem list_of_len2 {α : Type} (l : List α) (h : l.length = 2) : ∃ x0 x1, l = [x0, x1] := by
 match l, h with
 | [x0, x1], _ => exact ⟨x0, x1, rfl⟩
theorem reads_struct2 {F : Nat → Prop} {P : Program} {α0 α1 : Type} {t : TypeId} {f0 f1 : Field} {c0 : Cod α0} {c1 : Cod α1} (ht : P.underlying t = some (.struct #[f0, f1])) (hz : P.cellsOf t = c0.size + c1.size) (o0 : f0.offset = 0) (o1 : f1.offset = c0.size) (z0 : P.cellsOf f0.type = c0.size) (z1 : P.cellsOf f1.type = c1.size) (r0 : ReadsF (fun m => F (m + 1)) P c0 f0.type) (r1 : ReadsF (fun m => F (m + 1)) P c1 f1.type) : ReadsF F P (c0.pair c1) t := by
 intro H enc w base spare held fuel cs x hF h
 obtain ⟨xs, m, hfu, hxx, hlen, hxl, hf⟩ := DataW.trod_struct ht h
 rw [hz] at hlen
 have hxl : xs.length = 2 := hxl
 have h0 := hf 0 f0 rfl
 rw [o0, z0, List.getElem?_eq_getElem (show 0 < xs.length by omega)] at h0
 obtain ⟨a0, k0, b0⟩ := r0 (by subst hfu; exact hF) h0
 have h1 := hf 1 f1 rfl
 rw [o1, z1, List.getElem?_eq_getElem (show 1 < xs.length by omega)] at h1
 obtain ⟨a1, k1, b1⟩ := r1 (by subst hfu; exact hF) h1
 rw [take_drop_all cs (c0.size) c1.size (by omega)] at k1
 refine ⟨(a0, a1), ?_, ?_⟩
 ·exact ⟨by simpa using k0, (by simpa [List.drop_drop, Nat.add_assoc] using k1)⟩
 ·subst hxx
  simp only [Rows.uptoBulk, bulkAll_sum, Cod.pair]
  have hs : (List.map Rows.uptoBulk (xs.map (·.1))).sum = Rows.uptoBulk xs[0].1 + (Rows.uptoBulk xs[1].1) := by
   obtain ⟨x0, x1, rfl⟩ := list_of_len2 xs hxl
   simp
  rw [hs]
  exact Nat.le_succ_of_le (Nat.add_le_add b0 b1)
theorem list_of_len3 {α : Type} (l : List α) (h : l.length = 3) : ∃ x0 x1 x2, l = [x0, x1, x2] := by
 match l, h with
 | [x0, x1, x2], _ => exact ⟨x0, x1, x2, rfl⟩
theorem reads_struct3 {F : Nat → Prop} {P : Program} {α0 α1 α2 : Type} {t : TypeId} {f0 f1 f2 : Field} {c0 : Cod α0} {c1 : Cod α1} {c2 : Cod α2} (ht : P.underlying t = some (.struct #[f0, f1, f2])) (hz : P.cellsOf t = c0.size + c1.size + c2.size) (o0 : f0.offset = 0) (o1 : f1.offset = c0.size) (o2 : f2.offset = c0.size + c1.size) (z0 : P.cellsOf f0.type = c0.size) (z1 : P.cellsOf f1.type = c1.size) (z2 : P.cellsOf f2.type = c2.size) (r0 : ReadsF (fun m => F (m + 1)) P c0 f0.type) (r1 : ReadsF (fun m => F (m + 1)) P c1 f1.type) (r2 : ReadsF (fun m => F (m + 1)) P c2 f2.type) : ReadsF F P (c0.pair (c1.pair c2)) t := by
 intro H enc w base spare held fuel cs x hF h
 obtain ⟨xs, m, hfu, hxx, hlen, hxl, hf⟩ := DataW.trod_struct ht h
 rw [hz] at hlen
 have hxl : xs.length = 3 := hxl
 have h0 := hf 0 f0 rfl
 rw [o0, z0, List.getElem?_eq_getElem (show 0 < xs.length by omega)] at h0
 obtain ⟨a0, k0, b0⟩ := r0 (by subst hfu; exact hF) h0
 have h1 := hf 1 f1 rfl
 rw [o1, z1, List.getElem?_eq_getElem (show 1 < xs.length by omega)] at h1
 obtain ⟨a1, k1, b1⟩ := r1 (by subst hfu; exact hF) h1
 have h2 := hf 2 f2 rfl
 rw [o2, z2, List.getElem?_eq_getElem (show 2 < xs.length by omega)] at h2
 obtain ⟨a2, k2, b2⟩ := r2 (by subst hfu; exact hF) h2
 rw [take_drop_all cs (c0.size + c1.size) c2.size (by omega)] at k2
 refine ⟨(a0, (a1, a2)), ?_, ?_⟩
 ·exact ⟨by simpa using k0, ⟨by simpa [List.drop_drop, Nat.add_assoc] using k1, (by simpa [List.drop_drop, Nat.add_assoc] using k2)⟩⟩
 ·subst hxx
  simp only [Rows.uptoBulk, bulkAll_sum, Cod.pair]
  have hs : (List.map Rows.uptoBulk (xs.map (·.1))).sum = Rows.uptoBulk xs[0].1 + (Rows.uptoBulk xs[1].1 + (Rows.uptoBulk xs[2].1)) := by
   obtain ⟨x0, x1, x2, rfl⟩ := list_of_len3 xs hxl
   simp
  rw [hs]
  exact Nat.le_succ_of_le (Nat.add_le_add b0 (Nat.add_le_add b1 b2))
theorem list_of_len4 {α : Type} (l : List α) (h : l.length = 4) : ∃ x0 x1 x2 x3, l = [x0, x1, x2, x3] := by
 match l, h with
 | [x0, x1, x2, x3], _ => exact ⟨x0, x1, x2, x3, rfl⟩
theorem reads_struct4 {F : Nat → Prop} {P : Program} {α0 α1 α2 α3 : Type} {t : TypeId} {f0 f1 f2 f3 : Field} {c0 : Cod α0} {c1 : Cod α1} {c2 : Cod α2} {c3 : Cod α3} (ht : P.underlying t = some (.struct #[f0, f1, f2, f3])) (hz : P.cellsOf t = c0.size + c1.size + c2.size + c3.size) (o0 : f0.offset = 0) (o1 : f1.offset = c0.size) (o2 : f2.offset = c0.size + c1.size) (o3 : f3.offset = c0.size + c1.size + c2.size) (z0 : P.cellsOf f0.type = c0.size) (z1 : P.cellsOf f1.type = c1.size) (z2 : P.cellsOf f2.type = c2.size) (z3 : P.cellsOf f3.type = c3.size) (r0 : ReadsF (fun m => F (m + 1)) P c0 f0.type) (r1 : ReadsF (fun m => F (m + 1)) P c1 f1.type) (r2 : ReadsF (fun m => F (m + 1)) P c2 f2.type) (r3 : ReadsF (fun m => F (m + 1)) P c3 f3.type) : ReadsF F P (c0.pair (c1.pair (c2.pair c3))) t := by
 intro H enc w base spare held fuel cs x hF h
 obtain ⟨xs, m, hfu, hxx, hlen, hxl, hf⟩ := DataW.trod_struct ht h
 rw [hz] at hlen
 have hxl : xs.length = 4 := hxl
 have h0 := hf 0 f0 rfl
 rw [o0, z0, List.getElem?_eq_getElem (show 0 < xs.length by omega)] at h0
 obtain ⟨a0, k0, b0⟩ := r0 (by subst hfu; exact hF) h0
 have h1 := hf 1 f1 rfl
 rw [o1, z1, List.getElem?_eq_getElem (show 1 < xs.length by omega)] at h1
 obtain ⟨a1, k1, b1⟩ := r1 (by subst hfu; exact hF) h1
 have h2 := hf 2 f2 rfl
 rw [o2, z2, List.getElem?_eq_getElem (show 2 < xs.length by omega)] at h2
 obtain ⟨a2, k2, b2⟩ := r2 (by subst hfu; exact hF) h2
 have h3 := hf 3 f3 rfl
 rw [o3, z3, List.getElem?_eq_getElem (show 3 < xs.length by omega)] at h3
 obtain ⟨a3, k3, b3⟩ := r3 (by subst hfu; exact hF) h3
 rw [take_drop_all cs (c0.size + c1.size + c2.size) c3.size (by omega)] at k3
 refine ⟨(a0, (a1, (a2, a3))), ?_, ?_⟩
 ·exact ⟨by simpa using k0, ⟨by simpa [List.drop_drop, Nat.add_assoc] using k1, ⟨by simpa [List.drop_drop, Nat.add_assoc] using k2, (by simpa [List.drop_drop, Nat.add_assoc] using k3)⟩⟩⟩
 ·subst hxx
  simp only [Rows.uptoBulk, bulkAll_sum, Cod.pair]
  have hs : (List.map Rows.uptoBulk (xs.map (·.1))).sum = Rows.uptoBulk xs[0].1 + (Rows.uptoBulk xs[1].1 + (Rows.uptoBulk xs[2].1 + (Rows.uptoBulk xs[3].1))) := by
   obtain ⟨x0, x1, x2, x3, rfl⟩ := list_of_len4 xs hxl
   simp
  rw [hs]
  exact Nat.le_succ_of_le (Nat.add_le_add b0 (Nat.add_le_add b1 (Nat.add_le_add b2 b3)))
theorem list_of_len6 {α : Type} (l : List α) (h : l.length = 6) : ∃ x0 x1 x2 x3 x4 x5, l = [x0, x1, x2, x3, x4, x5] := by
 match l, h with
 | [x0, x1, x2, x3, x4, x5], _ => exact ⟨x0, x1, x2, x3, x4, x5, rfl⟩
theorem reads_struct6 {F : Nat → Prop} {P : Program} {α0 α1 α2 α3 α4 α5 : Type} {t : TypeId} {f0 f1 f2 f3 f4 f5 : Field} {c0 : Cod α0} {c1 : Cod α1} {c2 : Cod α2} {c3 : Cod α3} {c4 : Cod α4} {c5 : Cod α5} (ht : P.underlying t = some (.struct #[f0, f1, f2, f3, f4, f5])) (hz : P.cellsOf t = c0.size + c1.size + c2.size + c3.size + c4.size + c5.size) (o0 : f0.offset = 0) (o1 : f1.offset = c0.size) (o2 : f2.offset = c0.size + c1.size) (o3 : f3.offset = c0.size + c1.size + c2.size) (o4 : f4.offset = c0.size + c1.size + c2.size + c3.size) (o5 : f5.offset = c0.size + c1.size + c2.size + c3.size + c4.size) (z0 : P.cellsOf f0.type = c0.size) (z1 : P.cellsOf f1.type = c1.size) (z2 : P.cellsOf f2.type = c2.size) (z3 : P.cellsOf f3.type = c3.size) (z4 : P.cellsOf f4.type = c4.size) (z5 : P.cellsOf f5.type = c5.size) (r0 : ReadsF (fun m => F (m + 1)) P c0 f0.type) (r1 : ReadsF (fun m => F (m + 1)) P c1 f1.type) (r2 : ReadsF (fun m => F (m + 1)) P c2 f2.type) (r3 : ReadsF (fun m => F (m + 1)) P c3 f3.type) (r4 : ReadsF (fun m => F (m + 1)) P c4 f4.type) (r5 : ReadsF (fun m => F (m + 1)) P c5 f5.type) : ReadsF F P (c0.pair (c1.pair (c2.pair (c3.pair (c4.pair c5))))) t := by
 intro H enc w base spare held fuel cs x hF h
 obtain ⟨xs, m, hfu, hxx, hlen, hxl, hf⟩ := DataW.trod_struct ht h
 rw [hz] at hlen
 have hxl : xs.length = 6 := hxl
 have h0 := hf 0 f0 rfl
 rw [o0, z0, List.getElem?_eq_getElem (show 0 < xs.length by omega)] at h0
 obtain ⟨a0, k0, b0⟩ := r0 (by subst hfu; exact hF) h0
 have h1 := hf 1 f1 rfl
 rw [o1, z1, List.getElem?_eq_getElem (show 1 < xs.length by omega)] at h1
 obtain ⟨a1, k1, b1⟩ := r1 (by subst hfu; exact hF) h1
 have h2 := hf 2 f2 rfl
 rw [o2, z2, List.getElem?_eq_getElem (show 2 < xs.length by omega)] at h2
 obtain ⟨a2, k2, b2⟩ := r2 (by subst hfu; exact hF) h2
 have h3 := hf 3 f3 rfl
 rw [o3, z3, List.getElem?_eq_getElem (show 3 < xs.length by omega)] at h3
 obtain ⟨a3, k3, b3⟩ := r3 (by subst hfu; exact hF) h3
 have h4 := hf 4 f4 rfl
 rw [o4, z4, List.getElem?_eq_getElem (show 4 < xs.length by omega)] at h4
 obtain ⟨a4, k4, b4⟩ := r4 (by subst hfu; exact hF) h4
 have h5 := hf 5 f5 rfl
 rw [o5, z5, List.getElem?_eq_getElem (show 5 < xs.length by omega)] at h5
 obtain ⟨a5, k5, b5⟩ := r5 (by subst hfu; exact hF) h5
 rw [take_drop_all cs (c0.size + c1.size + c2.size + c3.size + c4.size) c5.size (by omega)] at k5
 refine ⟨(a0, (a1, (a2, (a3, (a4, a5))))), ?_, ?_⟩
 ·exact ⟨by simpa using k0, ⟨by simpa [List.drop_drop, Nat.add_assoc] using k1, ⟨by simpa [List.drop_drop, Nat.add_assoc] using k2, ⟨by simpa [List.drop_drop, Nat.add_assoc] using k3, ⟨by simpa [List.drop_drop, Nat.add_assoc] using k4, (by simpa [List.drop_drop, Nat.add_assoc] using k5)⟩⟩⟩⟩⟩
 ·subst hxx
  simp only [Rows.uptoBulk, bulkAll_sum, Cod.pair]
  have hs : (List.map Rows.uptoBulk (xs.map (·.1))).sum = Rows.uptoBulk xs[0].1 + (Rows.uptoBulk xs[1].1 + (Rows.uptoBulk xs[2].1 + (Rows.uptoBulk xs[3].1 + (Rows.uptoBulk xs[4].1 + (Rows.uptoBulk xs[5].1))))) := by
   obtain ⟨x0, x1, x2, x3, x4, x5, rfl⟩ := list_of_len6 xs hxl
   simp
  rw [hs]
  exact Nat.le_succ_of_le (Nat.add_le_add b0 (Nat.add_le_add b1 (Nat.add_le_add b2 (Nat.add_le_add b3 (Nat.add_le_add b4 b5)))))
theorem list_of_len7 {α : Type} (l : List α) (h : l.length = 7) : ∃ x0 x1 x2 x3 x4 x5 x6, l = [x0, x1, x2, x3, x4, x5, x6] := by
 match l, h with
 | [x0, x1, x2, x3, x4, x5, x6], _ => exact ⟨x0, x1, x2, x3, x4, x5, x6, rfl⟩
theorem reads_struct7 {F : Nat → Prop} {P : Program} {α0 α1 α2 α3 α4 α5 α6 : Type} {t : TypeId} {f0 f1 f2 f3 f4 f5 f6 : Field} {c0 : Cod α0} {c1 : Cod α1} {c2 : Cod α2} {c3 : Cod α3} {c4 : Cod α4} {c5 : Cod α5} {c6 : Cod α6} (ht : P.underlying t = some (.struct #[f0, f1, f2, f3, f4, f5, f6])) (hz : P.cellsOf t = c0.size + c1.size + c2.size + c3.size + c4.size + c5.size + c6.size) (o0 : f0.offset = 0) (o1 : f1.offset = c0.size) (o2 : f2.offset = c0.size + c1.size) (o3 : f3.offset = c0.size + c1.size + c2.size) (o4 : f4.offset = c0.size + c1.size + c2.size + c3.size) (o5 : f5.offset = c0.size + c1.size + c2.size + c3.size + c4.size) (o6 : f6.offset = c0.size + c1.size + c2.size + c3.size + c4.size + c5.size) (z0 : P.cellsOf f0.type = c0.size) (z1 : P.cellsOf f1.type = c1.size) (z2 : P.cellsOf f2.type = c2.size) (z3 : P.cellsOf f3.type = c3.size) (z4 : P.cellsOf f4.type = c4.size) (z5 : P.cellsOf f5.type = c5.size) (z6 : P.cellsOf f6.type = c6.size) (r0 : ReadsF (fun m => F (m + 1)) P c0 f0.type) (r1 : ReadsF (fun m => F (m + 1)) P c1 f1.type) (r2 : ReadsF (fun m => F (m + 1)) P c2 f2.type) (r3 : ReadsF (fun m => F (m + 1)) P c3 f3.type) (r4 : ReadsF (fun m => F (m + 1)) P c4 f4.type) (r5 : ReadsF (fun m => F (m + 1)) P c5 f5.type) (r6 : ReadsF (fun m => F (m + 1)) P c6 f6.type) : ReadsF F P (c0.pair (c1.pair (c2.pair (c3.pair (c4.pair (c5.pair c6)))))) t := by
 intro H enc w base spare held fuel cs x hF h
 obtain ⟨xs, m, hfu, hxx, hlen, hxl, hf⟩ := DataW.trod_struct ht h
 rw [hz] at hlen
 have hxl : xs.length = 7 := hxl
 have h0 := hf 0 f0 rfl
 rw [o0, z0, List.getElem?_eq_getElem (show 0 < xs.length by omega)] at h0
 obtain ⟨a0, k0, b0⟩ := r0 (by subst hfu; exact hF) h0
 have h1 := hf 1 f1 rfl
 rw [o1, z1, List.getElem?_eq_getElem (show 1 < xs.length by omega)] at h1
 obtain ⟨a1, k1, b1⟩ := r1 (by subst hfu; exact hF) h1
 have h2 := hf 2 f2 rfl
 rw [o2, z2, List.getElem?_eq_getElem (show 2 < xs.length by omega)] at h2
 obtain ⟨a2, k2, b2⟩ := r2 (by subst hfu; exact hF) h2
 have h3 := hf 3 f3 rfl
 rw [o3, z3, List.getElem?_eq_getElem (show 3 < xs.length by omega)] at h3
 obtain ⟨a3, k3, b3⟩ := r3 (by subst hfu; exact hF) h3
 have h4 := hf 4 f4 rfl
 rw [o4, z4, List.getElem?_eq_getElem (show 4 < xs.length by omega)] at h4
 obtain ⟨a4, k4, b4⟩ := r4 (by subst hfu; exact hF) h4
 have h5 := hf 5 f5 rfl
 rw [o5, z5, List.getElem?_eq_getElem (show 5 < xs.length by omega)] at h5
 obtain ⟨a5, k5, b5⟩ := r5 (by subst hfu; exact hF) h5
 have h6 := hf 6 f6 rfl
 rw [o6, z6, List.getElem?_eq_getElem (show 6 < xs.length by omega)] at h6
 obtain ⟨a6, k6, b6⟩ := r6 (by subst hfu; exact hF) h6
 rw [take_drop_all cs (c0.size + c1.size + c2.size + c3.size + c4.size + c5.size) c6.size (by omega)] at k6
 refine ⟨(a0, (a1, (a2, (a3, (a4, (a5, a6)))))), ?_, ?_⟩
 ·exact ⟨by simpa using k0, ⟨by simpa [List.drop_drop, Nat.add_assoc] using k1, ⟨by simpa [List.drop_drop, Nat.add_assoc] using k2, ⟨by simpa [List.drop_drop, Nat.add_assoc] using k3, ⟨by simpa [List.drop_drop, Nat.add_assoc] using k4, ⟨by simpa [List.drop_drop, Nat.add_assoc] using k5, (by simpa [List.drop_drop, Nat.add_assoc] using k6)⟩⟩⟩⟩⟩⟩
 ·subst hxx
  simp only [Rows.uptoBulk, bulkAll_sum, Cod.pair]
  have hs : (List.map Rows.uptoBulk (xs.map (·.1))).sum = Rows.uptoBulk xs[0].1 + (Rows.uptoBulk xs[1].1 + (Rows.uptoBulk xs[2].1 + (Rows.uptoBulk xs[3].1 + (Rows.uptoBulk xs[4].1 + (Rows.uptoBulk xs[5].1 + (Rows.uptoBulk xs[6].1)))))) := by
   obtain ⟨x0, x1, x2, x3, x4, x5, x6, rfl⟩ := list_of_len7 xs hxl
   simp
  rw [hs]
  exact Nat.le_succ_of_le (Nat.add_le_add b0 (Nat.add_le_add b1 (Nat.add_le_add b2 (Nat.add_le_add b3 (Nat.add_le_add b4 (Nat.add_le_add b5 b6))))))
theorem list_of_len10 {α : Type} (l : List α) (h : l.length = 10) : ∃ x0 x1 x2 x3 x4 x5 x6 x7 x8 x9, l = [x0, x1, x2, x3, x4, x5, x6, x7, x8, x9] := by
 match l, h with
 | [x0, x1, x2, x3, x4, x5, x6, x7, x8, x9], _ => exact ⟨x0, x1, x2, x3, x4, x5, x6, x7, x8, x9, rfl⟩
theorem reads_struct10 {F : Nat → Prop} {P : Program} {α0 α1 α2 α3 α4 α5 α6 α7 α8 α9 : Type} {t : TypeId} {f0 f1 f2 f3 f4 f5 f6 f7 f8 f9 : Field} {c0 : Cod α0} {c1 : Cod α1} {c2 : Cod α2} {c3 : Cod α3} {c4 : Cod α4} {c5 : Cod α5} {c6 : Cod α6} {c7 : Cod α7} {c8 : Cod α8} {c9 : Cod α9} (ht : P.underlying t = some (.struct #[f0, f1, f2, f3, f4, f5, f6, f7, f8, f9])) (hz : P.cellsOf t = c0.size + c1.size + c2.size + c3.size + c4.size + c5.size + c6.size + c7.size + c8.size + c9.size) (o0 : f0.offset = 0) (o1 : f1.offset = c0.size) (o2 : f2.offset = c0.size + c1.size) (o3 : f3.offset = c0.size + c1.size + c2.size) (o4 : f4.offset = c0.size + c1.size + c2.size + c3.size) (o5 : f5.offset = c0.size + c1.size + c2.size + c3.size + c4.size) (o6 : f6.offset = c0.size + c1.size + c2.size + c3.size + c4.size + c5.size) (o7 : f7.offset = c0.size + c1.size + c2.size + c3.size + c4.size + c5.size + c6.size) (o8 : f8.offset = c0.size + c1.size + c2.size + c3.size + c4.size + c5.size + c6.size + c7.size) (o9 : f9.offset = c0.size + c1.size + c2.size + c3.size + c4.size + c5.size + c6.size + c7.size + c8.size) (z0 : P.cellsOf f0.type = c0.size) (z1 : P.cellsOf f1.type = c1.size) (z2 : P.cellsOf f2.type = c2.size) (z3 : P.cellsOf f3.type = c3.size) (z4 : P.cellsOf f4.type = c4.size) (z5 : P.cellsOf f5.type = c5.size) (z6 : P.cellsOf f6.type = c6.size) (z7 : P.cellsOf f7.type = c7.size) (z8 : P.cellsOf f8.type = c8.size) (z9 : P.cellsOf f9.type = c9.size) (r0 : ReadsF (fun m => F (m + 1)) P c0 f0.type) (r1 : ReadsF (fun m => F (m + 1)) P c1 f1.type) (r2 : ReadsF (fun m => F (m + 1)) P c2 f2.type) (r3 : ReadsF (fun m => F (m + 1)) P c3 f3.type) (r4 : ReadsF (fun m => F (m + 1)) P c4 f4.type) (r5 : ReadsF (fun m => F (m + 1)) P c5 f5.type) (r6 : ReadsF (fun m => F (m + 1)) P c6 f6.type) (r7 : ReadsF (fun m => F (m + 1)) P c7 f7.type) (r8 : ReadsF (fun m => F (m + 1)) P c8 f8.type) (r9 : ReadsF (fun m => F (m + 1)) P c9 f9.type) : ReadsF F P (c0.pair (c1.pair (c2.pair (c3.pair (c4.pair (c5.pair (c6.pair (c7.pair (c8.pair c9))))))))) t := by
 intro H enc w base spare held fuel cs x hF h
 obtain ⟨xs, m, hfu, hxx, hlen, hxl, hf⟩ := DataW.trod_struct ht h
 rw [hz] at hlen
 have hxl : xs.length = 10 := hxl
 have h0 := hf 0 f0 rfl
 rw [o0, z0, List.getElem?_eq_getElem (show 0 < xs.length by omega)] at h0
 obtain ⟨a0, k0, b0⟩ := r0 (by subst hfu; exact hF) h0
 have h1 := hf 1 f1 rfl
 rw [o1, z1, List.getElem?_eq_getElem (show 1 < xs.length by omega)] at h1
 obtain ⟨a1, k1, b1⟩ := r1 (by subst hfu; exact hF) h1
 have h2 := hf 2 f2 rfl
 rw [o2, z2, List.getElem?_eq_getElem (show 2 < xs.length by omega)] at h2
 obtain ⟨a2, k2, b2⟩ := r2 (by subst hfu; exact hF) h2
 have h3 := hf 3 f3 rfl
 rw [o3, z3, List.getElem?_eq_getElem (show 3 < xs.length by omega)] at h3
 obtain ⟨a3, k3, b3⟩ := r3 (by subst hfu; exact hF) h3
 have h4 := hf 4 f4 rfl
 rw [o4, z4, List.getElem?_eq_getElem (show 4 < xs.length by omega)] at h4
 obtain ⟨a4, k4, b4⟩ := r4 (by subst hfu; exact hF) h4
 have h5 := hf 5 f5 rfl
 rw [o5, z5, List.getElem?_eq_getElem (show 5 < xs.length by omega)] at h5
 obtain ⟨a5, k5, b5⟩ := r5 (by subst hfu; exact hF) h5
 have h6 := hf 6 f6 rfl
 rw [o6, z6, List.getElem?_eq_getElem (show 6 < xs.length by omega)] at h6
 obtain ⟨a6, k6, b6⟩ := r6 (by subst hfu; exact hF) h6
 have h7 := hf 7 f7 rfl
 rw [o7, z7, List.getElem?_eq_getElem (show 7 < xs.length by omega)] at h7
 obtain ⟨a7, k7, b7⟩ := r7 (by subst hfu; exact hF) h7
 have h8 := hf 8 f8 rfl
 rw [o8, z8, List.getElem?_eq_getElem (show 8 < xs.length by omega)] at h8
 obtain ⟨a8, k8, b8⟩ := r8 (by subst hfu; exact hF) h8
 have h9 := hf 9 f9 rfl
 rw [o9, z9, List.getElem?_eq_getElem (show 9 < xs.length by omega)] at h9
 obtain ⟨a9, k9, b9⟩ := r9 (by subst hfu; exact hF) h9
 rw [take_drop_all cs (c0.size + c1.size + c2.size + c3.size + c4.size + c5.size + c6.size + c7.size + c8.size) c9.size (by omega)] at k9
 refine ⟨(a0, (a1, (a2, (a3, (a4, (a5, (a6, (a7, (a8, a9))))))))), ?_, ?_⟩
 ·exact ⟨by simpa using k0, ⟨by simpa [List.drop_drop, Nat.add_assoc] using k1, ⟨by simpa [List.drop_drop, Nat.add_assoc] using k2, ⟨by simpa [List.drop_drop, Nat.add_assoc] using k3, ⟨by simpa [List.drop_drop, Nat.add_assoc] using k4, ⟨by simpa [List.drop_drop, Nat.add_assoc] using k5, ⟨by simpa [List.drop_drop, Nat.add_assoc] using k6, ⟨by simpa [List.drop_drop, Nat.add_assoc] using k7, ⟨by simpa [List.drop_drop, Nat.add_assoc] using k8, (by simpa [List.drop_drop, Nat.add_assoc] using k9)⟩⟩⟩⟩⟩⟩⟩⟩⟩
 ·subst hxx
  simp only [Rows.uptoBulk, bulkAll_sum, Cod.pair]
  have hs : (List.map Rows.uptoBulk (xs.map (·.1))).sum = Rows.uptoBulk xs[0].1 + (Rows.uptoBulk xs[1].1 + (Rows.uptoBulk xs[2].1 + (Rows.uptoBulk xs[3].1 + (Rows.uptoBulk xs[4].1 + (Rows.uptoBulk xs[5].1 + (Rows.uptoBulk xs[6].1 + (Rows.uptoBulk xs[7].1 + (Rows.uptoBulk xs[8].1 + (Rows.uptoBulk xs[9].1))))))))) := by
   obtain ⟨x0, x1, x2, x3, x4, x5, x6, x7, x8, x9, rfl⟩ := list_of_len10 xs hxl
   simp
  rw [hs]
  exact Nat.le_succ_of_le (Nat.add_le_add b0 (Nat.add_le_add b1 (Nat.add_le_add b2 (Nat.add_le_add b3 (Nat.add_le_add b4 (Nat.add_le_add b5 (Nat.add_le_add b6 (Nat.add_le_add b7 (Nat.add_le_add b8 b9)))))))))
end Go.Proofs.Ytooknfkholjpbaa

/- The codecs of api's types: Lean structures, and what cells hold them. -/
namespace Go.Proofs.Ytooknfkholjpbaa
set_option linter.unusedSectionVars false
open Go.RowKit Go.Deep
set_option linter.unusedVariables false
set_option linter.unusedSimpArgs false


theorem ReadsF.imp {F : Nat → Prop} {P : Program} {α β : Type} {c : Cod α} {d : Cod β} {t : TypeId} (h : ReadsF F P c t) (k : ∀ w cs a, c.is w cs a → ∃ b, d.is w cs b ∧ d.bulk b ≤ c.bulk a) : ReadsF F P d t := by
 intro H enc w base spare held fuel cs x hF h1
 obtain ⟨a, ha, hb⟩ := h hF h1
 obtain ⟨b, h2, h3⟩ := k _ _ _ ha
 exact ⟨b, h2, Nat.le_trans h3 hb⟩
theorem cells_split {α : Type} {cs a b : List α} {n : Nat} (h1 : cs.take n = a) (h2 : cs.drop n = b) : cs = a ++ b := by rw [← h1, ← h2, List.take_append_drop]
def pointC : Cod PointD where
 size := 2
 is := fun w cs x => cs = [.int .i64 x.time, .int .i64 x.way] ∧ inI x.time ∧ inI x.way
 len := fun h => by obtain ⟨rfl, _⟩ := h; rfl
 mono := fun h _ => h
 bulk := fun x => intC.bulk x.time + (intC.bulk x.way)
theorem reads_point : Reads Try.prog pointC 111 :=
 (reads_struct2 (F := fun _ => True) Try.underlying111 (c0 := intC) (c1 := intC) (by kernel_rfl) rfl rfl (by kernel_rfl) (by kernel_rfl) (reads_int Try.underlying3) (reads_int Try.underlying3)).imp fun w cs a h => by
  obtain ⟨a0, a1⟩ := a
  obtain ⟨h0, h1⟩ := h
  obtain ⟨e0, b0⟩ := h0
  obtain ⟨e1, b1⟩ := h1
  have e100 := cells_split e0 e1
  exact ⟨⟨a0, a1⟩, ⟨by rw [e100]; rfl, b0, b1⟩, Nat.le_refl _⟩
theorem reads_points : Reads Try.prog (sliceC pointC) 65 := reads_slice Try.underlying65 (c := pointC) (by kernel_rfl) (by decide) reads_point
def curveC : Cod CurveD where
 size := 2
 is := fun w cs x => ∃ v0 : Value, cs = [.int .i64 x.kind, v0] ∧ inI x.kind ∧ (sliceC pointC).is w [v0] x.points
 len := fun h => by obtain ⟨v0, rfl, _⟩ := h; rfl
 mono := fun {w w' cs x} h g => by obtain ⟨v0, e, h0, h1⟩ := h; exact ⟨v0, e, h0, ((sliceC pointC)).mono h1 g⟩
 bulk := fun x => intC.bulk x.kind + ((sliceC pointC).bulk x.points)
theorem reads_curve : Reads Try.prog curveC 67 :=
 (reads_struct2 (F := fun _ => True) Try.underlying67 (c0 := intC) (c1 := (sliceC pointC)) (by kernel_rfl) rfl rfl (by kernel_rfl) (by kernel_rfl) (reads_int Try.underlying3) reads_points).imp fun w cs a h => by
  obtain ⟨a0, a1⟩ := a
  obtain ⟨h0, h1⟩ := h
  obtain ⟨e0, b0⟩ := h0
  obtain ⟨s1, e1⟩ := List.length_eq_one_iff.1 (((sliceC pointC)).len h1); rw [e1] at h1
  have e100 := cells_split e0 e1
  exact ⟨⟨a0, a1⟩, ⟨s1, by rw [e100]; rfl, b0, h1⟩, Nat.le_refl _⟩
def rangeC : Cod RangeD where
 size := 3
 is := fun w cs x => cs = [.int .i64 x.low, .int .i64 x.high, .string x.name] ∧ inI x.low ∧ inI x.high ∧ x.name.size ≤ maxLen
 len := fun h => by obtain ⟨rfl, _⟩ := h; rfl
 mono := fun h _ => h
 bulk := fun x => intC.bulk x.low + (intC.bulk x.high + (strC.bulk x.name))
theorem reads_range : Reads Try.prog rangeC 118 :=
 (reads_struct3 (F := fun _ => True) Try.underlying118 (c0 := intC) (c1 := intC) (c2 := strC) (by kernel_rfl) rfl rfl rfl (by kernel_rfl) (by kernel_rfl) (by kernel_rfl) (reads_int Try.underlying3) (reads_int Try.underlying3) (reads_str Try.underlying9)).imp fun w cs a h => by
  obtain ⟨a0, a1, a2⟩ := a
  obtain ⟨h0, h1, h2⟩ := h
  obtain ⟨e0, b0⟩ := h0
  obtain ⟨e1, b1⟩ := h1
  obtain ⟨e2, b2⟩ := h2
  have e101 := cells_split e1 e2
  have e100 := cells_split e0 e101
  exact ⟨⟨a0, a1, a2⟩, ⟨by rw [e100]; rfl, b0, b1, b2⟩, Nat.le_refl _⟩
theorem reads_ranges : Reads Try.prog (sliceC rangeC) 79 := reads_slice Try.underlying79 (c := rangeC) (by kernel_rfl) (by decide) reads_range
def paramC : Cod ParamD where
 size := 7
 is := fun w cs x => ∃ v0 : Value, cs = [.string x.name, .int .i64 x.group, .int .i64 x.att, .int .i64 x.fine, .int .i64 x.default, .bool x.snap, v0] ∧ x.name.size ≤ maxLen ∧ inI x.group ∧ inI x.att ∧ inI x.fine ∧ inI x.default ∧ (sliceC rangeC).is w [v0] x.ranges
 len := fun h => by obtain ⟨v0, rfl, _⟩ := h; rfl
 mono := fun {w w' cs x} h g => by obtain ⟨v0, e, h0, h1, h2, h3, h4, h5⟩ := h; exact ⟨v0, e, h0, h1, h2, h3, h4, ((sliceC rangeC)).mono h5 g⟩
 bulk := fun x => strC.bulk x.name + (intC.bulk x.group + (intC.bulk x.att + (intC.bulk x.fine + (intC.bulk x.default + (boolC.bulk x.snap + ((sliceC rangeC).bulk x.ranges))))))
theorem reads_param : Reads Try.prog paramC 81 :=
 (reads_struct7 (F := fun _ => True) Try.underlying81 (c0 := strC) (c1 := intC) (c2 := intC) (c3 := intC) (c4 := intC) (c5 := boolC) (c6 := (sliceC rangeC)) (by kernel_rfl) rfl rfl rfl rfl rfl rfl rfl (by kernel_rfl) (by kernel_rfl) (by kernel_rfl) (by kernel_rfl) (by kernel_rfl) (by kernel_rfl) (by kernel_rfl) (reads_str Try.underlying9) (reads_int Try.underlying3) (reads_int Try.underlying3) (reads_int Try.underlying3) (reads_int Try.underlying3) (reads_bool Try.underlying4) reads_ranges).imp fun w cs a h => by
  obtain ⟨a0, a1, a2, a3, a4, a5, a6⟩ := a
  obtain ⟨h0, h1, h2, h3, h4, h5, h6⟩ := h
  obtain ⟨e0, b0⟩ := h0
  obtain ⟨e1, b1⟩ := h1
  obtain ⟨e2, b2⟩ := h2
  obtain ⟨e3, b3⟩ := h3
  obtain ⟨e4, b4⟩ := h4
  have e5 := h5; simp only [boolC] at e5
  obtain ⟨s6, e6⟩ := List.length_eq_one_iff.1 (((sliceC rangeC)).len h6); rw [e6] at h6
  have e105 := cells_split e5 e6
  have e104 := cells_split e4 e105
  have e103 := cells_split e3 e104
  have e102 := cells_split e2 e103
  have e101 := cells_split e1 e102
  have e100 := cells_split e0 e101
  exact ⟨⟨a0, a1, a2, a3, a4, a5, a6⟩, ⟨s6, by rw [e100]; rfl, b0, b1, b2, b3, b4, h6⟩, Nat.le_refl _⟩
theorem reads_params : Reads Try.prog (sliceC paramC) 88 := reads_slice Try.underlying88 (c := paramC) (by kernel_rfl) (by decide) reads_param
def profileC : Cod ProfileD where
 size := 3
 is := fun w cs x => ∃ v0 : Value, cs = [.string x.name, .int .i64 x.size, v0] ∧ x.name.size ≤ maxLen ∧ inI x.size ∧ (sliceC paramC).is w [v0] x.params
 len := fun h => by obtain ⟨v0, rfl, _⟩ := h; rfl
 mono := fun {w w' cs x} h g => by obtain ⟨v0, e, h0, h1, h2⟩ := h; exact ⟨v0, e, h0, h1, ((sliceC paramC)).mono h2 g⟩
 bulk := fun x => strC.bulk x.name + (intC.bulk x.size + ((sliceC paramC).bulk x.params))
theorem reads_profile : Reads Try.prog profileC 90 :=
 (reads_struct3 (F := fun _ => True) Try.underlying90 (c0 := strC) (c1 := intC) (c2 := (sliceC paramC)) (by kernel_rfl) rfl rfl rfl (by kernel_rfl) (by kernel_rfl) (by kernel_rfl) (reads_str Try.underlying9) (reads_int Try.underlying3) reads_params).imp fun w cs a h => by
  obtain ⟨a0, a1, a2⟩ := a
  obtain ⟨h0, h1, h2⟩ := h
  obtain ⟨e0, b0⟩ := h0
  obtain ⟨e1, b1⟩ := h1
  obtain ⟨s2, e2⟩ := List.length_eq_one_iff.1 (((sliceC paramC)).len h2); rw [e2] at h2
  have e101 := cells_split e1 e2
  have e100 := cells_split e0 e101
  exact ⟨⟨a0, a1, a2⟩, ⟨s2, by rw [e100]; rfl, b0, b1, h2⟩, Nat.le_refl _⟩
theorem reads_profiles : Reads Try.prog (sliceC profileC) 22 := reads_slice Try.underlying22 (c := profileC) (by kernel_rfl) (by decide) reads_profile
def unitC : Cod UnitD where
 size := 4
 is := fun w cs x => cs = [.int .i64 x.number, .string x.profile, .int .i64 x.univ, .int .i64 x.address] ∧ inI x.number ∧ x.profile.size ≤ maxLen ∧ inI x.univ ∧ inI x.address
 len := fun h => by obtain ⟨rfl, _⟩ := h; rfl
 mono := fun h _ => h
 bulk := fun x => intC.bulk x.number + (strC.bulk x.profile + (intC.bulk x.univ + (intC.bulk x.address)))
theorem reads_unit : Reads Try.prog unitC 87 :=
 (reads_struct4 (F := fun _ => True) Try.underlying87 (c0 := intC) (c1 := strC) (c2 := intC) (c3 := intC) (by kernel_rfl) rfl rfl rfl rfl (by kernel_rfl) (by kernel_rfl) (by kernel_rfl) (by kernel_rfl) (reads_int Try.underlying3) (reads_str Try.underlying9) (reads_int Try.underlying3) (reads_int Try.underlying3)).imp fun w cs a h => by
  obtain ⟨a0, a1, a2, a3⟩ := a
  obtain ⟨h0, h1, h2, h3⟩ := h
  obtain ⟨e0, b0⟩ := h0
  obtain ⟨e1, b1⟩ := h1
  obtain ⟨e2, b2⟩ := h2
  obtain ⟨e3, b3⟩ := h3
  have e102 := cells_split e2 e3
  have e101 := cells_split e1 e102
  have e100 := cells_split e0 e101
  exact ⟨⟨a0, a1, a2, a3⟩, ⟨by rw [e100]; rfl, b0, b1, b2, b3⟩, Nat.le_refl _⟩
theorem reads_units : Reads Try.prog (sliceC unitC) 23 := reads_slice Try.underlying23 (c := unitC) (by kernel_rfl) (by decide) reads_unit
def rigC : Cod RigD where
 size := 2
 is := fun w cs x => ∃ v0 v1 : Value, cs = [v0, v1] ∧ (sliceC profileC).is w [v0] x.library ∧ (sliceC unitC).is w [v1] x.units
 len := fun h => by obtain ⟨v0, v1, rfl, _⟩ := h; rfl
 mono := fun {w w' cs x} h g => by obtain ⟨v0, v1, e, h0, h1⟩ := h; exact ⟨v0, v1, e, ((sliceC profileC)).mono h0 g, ((sliceC unitC)).mono h1 g⟩
 bulk := fun x => (sliceC profileC).bulk x.library + ((sliceC unitC).bulk x.units)
theorem reads_rig : Reads Try.prog rigC 25 :=
 (reads_struct2 (F := fun _ => True) Try.underlying25 (c0 := (sliceC profileC)) (c1 := (sliceC unitC)) (by kernel_rfl) rfl rfl (by kernel_rfl) (by kernel_rfl) reads_profiles reads_units).imp fun w cs a h => by
  obtain ⟨a0, a1⟩ := a
  obtain ⟨h0, h1⟩ := h
  obtain ⟨s0, e0⟩ := List.length_eq_one_iff.1 (((sliceC profileC)).len h0); rw [e0] at h0
  obtain ⟨s1, e1⟩ := List.length_eq_one_iff.1 (((sliceC unitC)).len h1); rw [e1] at h1
  have e100 := cells_split e0 e1
  exact ⟨⟨a0, a1⟩, ⟨s0, s1, by rw [e100]; rfl, h0, h1⟩, Nat.le_refl _⟩
def keyC : Cod KeyD where
 size := 2
 is := fun w cs x => cs = [.int .i64 x.unit, .string x.param] ∧ inI x.unit ∧ x.param.size ≤ maxLen
 len := fun h => by obtain ⟨rfl, _⟩ := h; rfl
 mono := fun h _ => h
 bulk := fun x => intC.bulk x.unit + (strC.bulk x.param)
theorem reads_key : Reads Try.prog keyC 56 :=
 (reads_struct2 (F := fun _ => True) Try.underlying56 (c0 := intC) (c1 := strC) (by kernel_rfl) rfl rfl (by kernel_rfl) (by kernel_rfl) (reads_int Try.underlying3) (reads_str Try.underlying9)).imp fun w cs a h => by
  obtain ⟨a0, a1⟩ := a
  obtain ⟨h0, h1⟩ := h
  obtain ⟨e0, b0⟩ := h0
  obtain ⟨e1, b1⟩ := h1
  have e100 := cells_split e0 e1
  exact ⟨⟨a0, a1⟩, ⟨by rw [e100]; rfl, b0, b1⟩, Nat.le_refl _⟩
def settingC : Cod SettingD where
 size := 3
 is := fun w cs x => cs = [.int .i64 x.key.unit, .string x.key.param, .int .i64 x.level] ∧ inI x.key.unit ∧ x.key.param.size ≤ maxLen ∧ inI x.level
 len := fun h => by obtain ⟨rfl, _⟩ := h; rfl
 mono := fun h _ => h
 bulk := fun x => keyC.bulk x.key + (intC.bulk x.level)
theorem reads_setting : Reads Try.prog settingC 58 :=
 (reads_struct2 (F := fun _ => True) Try.underlying58 (c0 := keyC) (c1 := intC) (by kernel_rfl) rfl rfl (by kernel_rfl) (by kernel_rfl) reads_key (reads_int Try.underlying3)).imp fun w cs a h => by
  obtain ⟨a0, a1⟩ := a
  obtain ⟨h0, h1⟩ := h
  obtain ⟨e0, b0⟩ := h0
  obtain ⟨b0_0, b0_1⟩ := b0
  obtain ⟨e1, b1⟩ := h1
  have e100 := cells_split e0 e1
  exact ⟨⟨a0, a1⟩, ⟨by rw [e100]; rfl, b0_0, b0_1, b1⟩, Nat.le_refl _⟩
theorem reads_settings : Reads Try.prog (sliceC settingC) 51 := reads_slice Try.underlying51 (c := settingC) (by kernel_rfl) (by decide) reads_setting
def presetC : Cod PresetD where
 size := 3
 is := fun w cs x => ∃ v0 : Value, cs = [.int .i64 x.number, .string x.title, v0] ∧ inI x.number ∧ x.title.size ≤ maxLen ∧ (sliceC settingC).is w [v0] x.settings
 len := fun h => by obtain ⟨v0, rfl, _⟩ := h; rfl
 mono := fun {w w' cs x} h g => by obtain ⟨v0, e, h0, h1, h2⟩ := h; exact ⟨v0, e, h0, h1, ((sliceC settingC)).mono h2 g⟩
 bulk := fun x => intC.bulk x.number + (strC.bulk x.title + ((sliceC settingC).bulk x.settings))
theorem reads_preset : Reads Try.prog presetC 53 :=
 (reads_struct3 (F := fun _ => True) Try.underlying53 (c0 := intC) (c1 := strC) (c2 := (sliceC settingC)) (by kernel_rfl) rfl rfl rfl (by kernel_rfl) (by kernel_rfl) (by kernel_rfl) (reads_int Try.underlying3) (reads_str Try.underlying9) reads_settings).imp fun w cs a h => by
  obtain ⟨a0, a1, a2⟩ := a
  obtain ⟨h0, h1, h2⟩ := h
  obtain ⟨e0, b0⟩ := h0
  obtain ⟨e1, b1⟩ := h1
  obtain ⟨s2, e2⟩ := List.length_eq_one_iff.1 (((sliceC settingC)).len h2); rw [e2] at h2
  have e101 := cells_split e1 e2
  have e100 := cells_split e0 e101
  exact ⟨⟨a0, a1, a2⟩, ⟨s2, by rw [e100]; rfl, b0, b1, h2⟩, Nat.le_refl _⟩
theorem reads_presets : Reads Try.prog (sliceC presetC) 26 := reads_slice Try.underlying26 (c := presetC) (by kernel_rfl) (by decide) reads_preset
def valueC : Cod ValueD where
 size := 2
 is := fun w cs x => cs = [.int .i64 x.level, .int .i64 x.preset] ∧ inI x.level ∧ inI x.preset
 len := fun h => by obtain ⟨rfl, _⟩ := h; rfl
 mono := fun h _ => h
 bulk := fun x => intC.bulk x.level + (intC.bulk x.preset)
theorem reads_value : Reads Try.prog valueC 72 :=
 (reads_struct2 (F := fun _ => True) Try.underlying72 (c0 := intC) (c1 := intC) (by kernel_rfl) rfl rfl (by kernel_rfl) (by kernel_rfl) (reads_int Try.underlying3) (reads_int Try.underlying3)).imp fun w cs a h => by
  obtain ⟨a0, a1⟩ := a
  obtain ⟨h0, h1⟩ := h
  obtain ⟨e0, b0⟩ := h0
  obtain ⟨e1, b1⟩ := h1
  have e100 := cells_split e0 e1
  exact ⟨⟨a0, a1⟩, ⟨by rw [e100]; rfl, b0, b1⟩, Nat.le_refl _⟩
def moveC : Cod MoveD where
 size := 8
 is := fun w cs x => cs = [.int .i64 x.key.unit, .string x.key.param, .int .i64 x.value.level, .int .i64 x.value.preset, .bool x.release, .bool x.timed, .int .i64 x.delay, .int .i64 x.time] ∧ inI x.key.unit ∧ x.key.param.size ≤ maxLen ∧ inI x.value.level ∧ inI x.value.preset ∧ inI x.delay ∧ inI x.time
 len := fun h => by obtain ⟨rfl, _⟩ := h; rfl
 mono := fun h _ => h
 bulk := fun x => keyC.bulk x.key + (valueC.bulk x.value + (boolC.bulk x.release + (boolC.bulk x.timed + (intC.bulk x.delay + (intC.bulk x.time)))))
theorem reads_move : Reads Try.prog moveC 74 :=
 (reads_struct6 (F := fun _ => True) Try.underlying74 (c0 := keyC) (c1 := valueC) (c2 := boolC) (c3 := boolC) (c4 := intC) (c5 := intC) (by kernel_rfl) rfl rfl rfl rfl rfl rfl (by kernel_rfl) (by kernel_rfl) (by kernel_rfl) (by kernel_rfl) (by kernel_rfl) (by kernel_rfl) reads_key reads_value (reads_bool Try.underlying4) (reads_bool Try.underlying4) (reads_int Try.underlying3) (reads_int Try.underlying3)).imp fun w cs a h => by
  obtain ⟨a0, a1, a2, a3, a4, a5⟩ := a
  obtain ⟨h0, h1, h2, h3, h4, h5⟩ := h
  obtain ⟨e0, b0⟩ := h0
  obtain ⟨b0_0, b0_1⟩ := b0
  obtain ⟨e1, b1⟩ := h1
  obtain ⟨b1_0, b1_1⟩ := b1
  have e2 := h2; simp only [boolC] at e2
  have e3 := h3; simp only [boolC] at e3
  obtain ⟨e4, b4⟩ := h4
  obtain ⟨e5, b5⟩ := h5
  have e104 := cells_split e4 e5
  have e103 := cells_split e3 e104
  have e102 := cells_split e2 e103
  have e101 := cells_split e1 e102
  have e100 := cells_split e0 e101
  exact ⟨⟨a0, a1, a2, a3, a4, a5⟩, ⟨by rw [e100]; rfl, b0_0, b0_1, b1_0, b1_1, b4, b5⟩, Nat.le_refl _⟩
theorem reads_moves : Reads Try.prog (sliceC moveC) 68 := reads_slice Try.underlying68 (c := moveC) (by kernel_rfl) (by decide) reads_move
def cueC : Cod CueD where
 size := 11
 is := fun w cs x => ∃ v0 v1 : Value, cs = [.int .i64 x.number, .string x.title, .int .i64 x.delay, .int .i64 x.up, .int .i64 x.down, .int .i64 x.other, .int .i64 x.curve.kind, v0, .bool x.block, .int .i64 x.follow, v1] ∧ inI x.number ∧ x.title.size ≤ maxLen ∧ inI x.delay ∧ inI x.up ∧ inI x.down ∧ inI x.other ∧ inI x.curve.kind ∧ (sliceC pointC).is w [v0] x.curve.points ∧ inI x.follow ∧ (sliceC moveC).is w [v1] x.moves
 len := fun h => by obtain ⟨v0, v1, rfl, _⟩ := h; rfl
 mono := fun {w w' cs x} h g => by obtain ⟨v0, v1, e, h0, h1, h2, h3, h4, h5, h6, h7, h8, h9⟩ := h; exact ⟨v0, v1, e, h0, h1, h2, h3, h4, h5, h6, ((sliceC pointC)).mono h7 g, h8, ((sliceC moveC)).mono h9 g⟩
 bulk := fun x => intC.bulk x.number + (strC.bulk x.title + (intC.bulk x.delay + (intC.bulk x.up + (intC.bulk x.down + (intC.bulk x.other + (curveC.bulk x.curve + (boolC.bulk x.block + (intC.bulk x.follow + ((sliceC moveC).bulk x.moves)))))))))
theorem reads_cue : Reads Try.prog cueC 70 :=
 (reads_struct10 (F := fun _ => True) Try.underlying70 (c0 := intC) (c1 := strC) (c2 := intC) (c3 := intC) (c4 := intC) (c5 := intC) (c6 := curveC) (c7 := boolC) (c8 := intC) (c9 := (sliceC moveC)) (by kernel_rfl) rfl rfl rfl rfl rfl rfl rfl rfl rfl rfl (by kernel_rfl) (by kernel_rfl) (by kernel_rfl) (by kernel_rfl) (by kernel_rfl) (by kernel_rfl) (by kernel_rfl) (by kernel_rfl) (by kernel_rfl) (by kernel_rfl) (reads_int Try.underlying3) (reads_str Try.underlying9) (reads_int Try.underlying3) (reads_int Try.underlying3) (reads_int Try.underlying3) (reads_int Try.underlying3) reads_curve (reads_bool Try.underlying4) (reads_int Try.underlying3) reads_moves).imp fun w cs a h => by
  obtain ⟨a0, a1, a2, a3, a4, a5, a6, a7, a8, a9⟩ := a
  obtain ⟨h0, h1, h2, h3, h4, h5, h6, h7, h8, h9⟩ := h
  obtain ⟨e0, b0⟩ := h0
  obtain ⟨e1, b1⟩ := h1
  obtain ⟨e2, b2⟩ := h2
  obtain ⟨e3, b3⟩ := h3
  obtain ⟨e4, b4⟩ := h4
  obtain ⟨e5, b5⟩ := h5
  obtain ⟨s6_0, e6, b6⟩ := h6
  obtain ⟨b6_0, b6_1⟩ := b6
  have e7 := h7; simp only [boolC] at e7
  obtain ⟨e8, b8⟩ := h8
  obtain ⟨s9, e9⟩ := List.length_eq_one_iff.1 (((sliceC moveC)).len h9); rw [e9] at h9
  have e108 := cells_split e8 e9
  have e107 := cells_split e7 e108
  have e106 := cells_split e6 e107
  have e105 := cells_split e5 e106
  have e104 := cells_split e4 e105
  have e103 := cells_split e3 e104
  have e102 := cells_split e2 e103
  have e101 := cells_split e1 e102
  have e100 := cells_split e0 e101
  exact ⟨⟨a0, a1, a2, a3, a4, a5, a6, a7, a8, a9⟩, ⟨s6_0, s9, by rw [e100]; rfl, b0, b1, b2, b3, b4, b5, b6_0, b6_1, b8, h9⟩, Nat.le_refl _⟩
theorem reads_cues : Reads Try.prog (sliceC cueC) 39 := reads_slice Try.underlying39 (c := cueC) (by kernel_rfl) (by decide) reads_cue
def listC : Cod ListD where
 size := 2
 is := fun w cs x => ∃ v0 : Value, cs = [.int .i64 x.number, v0] ∧ inI x.number ∧ (sliceC cueC).is w [v0] x.cues
 len := fun h => by obtain ⟨v0, rfl, _⟩ := h; rfl
 mono := fun {w w' cs x} h g => by obtain ⟨v0, e, h0, h1⟩ := h; exact ⟨v0, e, h0, ((sliceC cueC)).mono h1 g⟩
 bulk := fun x => intC.bulk x.number + ((sliceC cueC).bulk x.cues)
theorem reads_list : Reads Try.prog listC 41 :=
 (reads_struct2 (F := fun _ => True) Try.underlying41 (c0 := intC) (c1 := (sliceC cueC)) (by kernel_rfl) rfl rfl (by kernel_rfl) (by kernel_rfl) (reads_int Try.underlying3) reads_cues).imp fun w cs a h => by
  obtain ⟨a0, a1⟩ := a
  obtain ⟨h0, h1⟩ := h
  obtain ⟨e0, b0⟩ := h0
  obtain ⟨s1, e1⟩ := List.length_eq_one_iff.1 (((sliceC cueC)).len h1); rw [e1] at h1
  have e100 := cells_split e0 e1
  exact ⟨⟨a0, a1⟩, ⟨s1, by rw [e100]; rfl, b0, h1⟩, Nat.le_refl _⟩
theorem reads_lists : Reads Try.prog (sliceC listC) 27 := reads_slice Try.underlying27 (c := listC) (by kernel_rfl) (by decide) reads_list
def playbackC : Cod PlaybackD where
 size := 3
 is := fun w cs x => cs = [.int .i64 x.number, .int .i64 x.list, .int .i64 x.priority] ∧ inI x.number ∧ inI x.list ∧ inI x.priority
 len := fun h => by obtain ⟨rfl, _⟩ := h; rfl
 mono := fun h _ => h
 bulk := fun x => intC.bulk x.number + (intC.bulk x.list + (intC.bulk x.priority))
theorem reads_playback : Reads Try.prog playbackC 32 :=
 (reads_struct3 (F := fun _ => True) Try.underlying32 (c0 := intC) (c1 := intC) (c2 := intC) (by kernel_rfl) rfl rfl rfl (by kernel_rfl) (by kernel_rfl) (by kernel_rfl) (reads_int Try.underlying3) (reads_int Try.underlying3) (reads_int Try.underlying3)).imp fun w cs a h => by
  obtain ⟨a0, a1, a2⟩ := a
  obtain ⟨h0, h1, h2⟩ := h
  obtain ⟨e0, b0⟩ := h0
  obtain ⟨e1, b1⟩ := h1
  obtain ⟨e2, b2⟩ := h2
  have e101 := cells_split e1 e2
  have e100 := cells_split e0 e101
  exact ⟨⟨a0, a1, a2⟩, ⟨by rw [e100]; rfl, b0, b1, b2⟩, Nat.le_refl _⟩
theorem reads_playbacks : Reads Try.prog (sliceC playbackC) 28 := reads_slice Try.underlying28 (c := playbackC) (by kernel_rfl) (by decide) reads_playback
def setupC : Cod SetupD where
 size := 5
 is := fun w cs x => ∃ v0 v1 v2 v3 v4 : Value, cs = [v0, v1, v2, v3, v4] ∧ (sliceC profileC).is w [v0] x.rig.library ∧ (sliceC unitC).is w [v1] x.rig.units ∧ (sliceC presetC).is w [v2] x.presets ∧ (sliceC listC).is w [v3] x.lists ∧ (sliceC playbackC).is w [v4] x.playbacks
 len := fun h => by obtain ⟨v0, v1, v2, v3, v4, rfl, _⟩ := h; rfl
 mono := fun {w w' cs x} h g => by obtain ⟨v0, v1, v2, v3, v4, e, h0, h1, h2, h3, h4⟩ := h; exact ⟨v0, v1, v2, v3, v4, e, ((sliceC profileC)).mono h0 g, ((sliceC unitC)).mono h1 g, ((sliceC presetC)).mono h2 g, ((sliceC listC)).mono h3 g, ((sliceC playbackC)).mono h4 g⟩
 bulk := fun x => rigC.bulk x.rig + ((sliceC presetC).bulk x.presets + ((sliceC listC).bulk x.lists + ((sliceC playbackC).bulk x.playbacks)))
theorem reads_setup : Reads Try.prog setupC 30 :=
 (reads_struct4 (F := fun _ => True) Try.underlying30 (c0 := rigC) (c1 := (sliceC presetC)) (c2 := (sliceC listC)) (c3 := (sliceC playbackC)) (by kernel_rfl) rfl rfl rfl rfl (by kernel_rfl) (by kernel_rfl) (by kernel_rfl) (by kernel_rfl) reads_rig reads_presets reads_lists reads_playbacks).imp fun w cs a h => by
  obtain ⟨a0, a1, a2, a3⟩ := a
  obtain ⟨h0, h1, h2, h3⟩ := h
  obtain ⟨s0_0, s0_1, e0, b0⟩ := h0
  obtain ⟨b0_0, b0_1⟩ := b0
  obtain ⟨s1, e1⟩ := List.length_eq_one_iff.1 (((sliceC presetC)).len h1); rw [e1] at h1
  obtain ⟨s2, e2⟩ := List.length_eq_one_iff.1 (((sliceC listC)).len h2); rw [e2] at h2
  obtain ⟨s3, e3⟩ := List.length_eq_one_iff.1 (((sliceC playbackC)).len h3); rw [e3] at h3
  have e102 := cells_split e2 e3
  have e101 := cells_split e1 e102
  have e100 := cells_split e0 e101
  exact ⟨⟨a0, a1, a2, a3⟩, ⟨s0_0, s0_1, s1, s2, s3, by rw [e100]; rfl, b0_0, b0_1, h1, h2, h3⟩, Nat.le_refl _⟩
end Go.Proofs.Ytooknfkholjpbaa

/- What the codecs of api's types hold, as abstract values. Written by a program. -/
namespace Go.Proofs.Ytooknfkholjpbaa
set_option linter.unusedSectionVars false
open Go.RowKit Go.Deep
set_option linter.unusedVariables false
set_option linter.unusedSimpArgs false
section
variable {c : RC}
theorem repL_nil : RepL c [] [] := by simp [RepL]
theorem repL_cons {a : AV} {v : Value} {l : List AV} {vs : List Value} (h : Rep c a v) (k : RepL c l vs) : RepL c (a :: l) (v :: vs) := by
 simp only [RepL]; exact ⟨v, vs, rfl, h, k⟩
theorem rep_int (k : IntKind) (n : Int) : Rep c (.int k n) (.int k n) := by simp [Rep]
theorem rep_bool (b : Bool) : Rep c (.bool b) (.bool b) := by simp [Rep]
theorem rep_str (s : ByteArray) : Rep c (.str s) (.string s) := by simp [Rep]
/-- What a codec's cells are as abstract values. -/
def RP {α : Type} (c : RC) (d : Cod α) (e : α → List AV) (ok : α → Prop) : Prop := ∀ cs x, d.is c.w cs x → RepL c (e x) cs ∧ ok x ∧ (∀ v ∈ cs, one1 v = true)
theorem repL_len : ∀ {l : List AV} {vs : List Value}, RepL c l vs → l.length = vs.length
 | [], vs, h => by simp only [RepL] at h; subst h; rfl
 | a :: l, vs, h => by
  simp only [RepL] at h
  obtain ⟨v, vs', rfl, _, h⟩ := h
  simp [repL_len h]
theorem repCs_of {b : Nat} : ∀ {l : List AV} {vs : List Value} {off : Nat}, RepL c l vs → (∀ v ∈ vs, one1 v = true) → (∀ j, j < vs.length → c.w.cell? ⟨b, off + j, none⟩ = vs[j]?) → RepCs c b off l
 | [], vs, off, h, _, _ => by simp [RepCs]
 | a :: l, vs, off, h, ho, hc => by
  simp only [RepL] at h
  obtain ⟨v, vs', rfl, h1, h2⟩ := h
  simp only [RepCs]
  refine ⟨⟨v, by simpa using hc 0 (by simp), ho v (by simp), h1⟩, repCs_of h2 (fun v hv => ho v (by simp [hv])) fun j hj => ?_⟩
  have := hc (j + 1) (by simpa using hj)
  rw [show off + 1 + j = off + (j + 1) by omega]
  simpa using this
theorem repEs_of {α : Type} {d : Cod α} {e : α → List AV} {ok : α → Prop} (H : RP c d e ok) {b sz : Nat} (hsz : d.size = sz) : ∀ {l : List α} {off : Nat}, (∀ (i : Nat) (x : α), l[i]? = some x → ∃ cs', (∀ j, j < d.size → c.w.cell? ⟨b, off + (i * d.size + j), none⟩ = cs'[j]?) ∧ d.is c.w cs' x) → RepEs c sz b off (l.map e) ∧ ∀ x ∈ l, ok x
 | [], off, h => by simp [RepEs]
 | x :: l, off, h => by
  obtain ⟨cs, h1, h2⟩ := h 0 x rfl
  obtain ⟨k1, k2, k3⟩ := H cs x h2
  have hl : cs.length = d.size := d.len h2
  obtain ⟨r1, r2⟩ := repEs_of H hsz (l := l) (off := off + sz) (fun i y hy => by
   obtain ⟨cs', q1, q2⟩ := h (i + 1) y (by simpa using hy)
   refine ⟨cs', fun j hj => ?_, q2⟩
   have := q1 j hj
   rw [← hsz]
   rwa [show off + d.size + (i * d.size + j) = off + ((i + 1) * d.size + j) by rw [Nat.succ_mul]; omega])
  refine ⟨?_, fun y hy => ?_⟩
  ·simp only [List.map_cons, RepEs]
   refine ⟨by rw [repL_len k1, hl, hsz], repCs_of k1 k3 fun j hj => ?_, r1⟩
   have := h1 j (by rw [← hl]; exact hj)
   simpa using this
  ·rcases List.mem_cons.1 hy with rfl | hy
   ·exact k2
   ·exact r2 y hy
theorem cell_in {w : World} {b off : Nat} {v : Value} (h : w.cell? ⟨b, off, none⟩ = some v) : b < w.heap.size := by
 rcases Nat.lt_or_ge b w.heap.size with k | k
 ·exact k
 ·simp [World.cell?, Array.getElem?_eq_none k] at h
theorem rp_slice {α : Type} {d : Cod α} {e : α → List AV} {ok : α → Prop} (hX : ∀ b, ¬ c.X b) (H : RP c d e ok) {sz : Nat} (hsz : d.size = sz) (h0 : 0 < sz) {v : Value} {l : List α} (h : (sliceC d).is c.w [v] l) : Rep c (sl sz e l) v ∧ okL ok l ∧ one1 v = true := by
 rcases h with ⟨h1, rfl⟩ | ⟨b, off, sp, cap, h1, h2, h3, h4⟩
 ·simp only [List.cons.injEq, and_true] at h1
  subst h1
  exact ⟨by simp [sl, Rep, h0], ⟨by simp, by simp⟩, rfl⟩
 ·simp only [List.cons.injEq, and_true] at h1
  subst h1
  have hes : sp = none ∨ l = [] := by
   cases l with
   | nil => exact .inr rfl
   | cons x l => exact .inl (h4 0 (by simp)).1
  have hh : ∀ (i : Nat) (x : α), l[i]? = some x → ∃ cs', (∀ j, j < d.size → c.w.cell? ⟨b, off + (i * d.size + j), none⟩ = cs'[j]?) ∧ d.is c.w cs' x := by
   intro i x hx
   obtain ⟨hi, hx⟩ := List.getElem?_eq_some_iff.1 hx
   subst hx
   exact (h4 i hi).2
  obtain ⟨r1, r2⟩ := repEs_of H hsz hh
  refine ⟨?_, ⟨by unfold maxLen at h3; unfold mxl; omega, r2⟩, rfl⟩
  simp only [sl, Rep]
  refine ⟨some ⟨b, off, sp⟩, cap, by simp, by simpa using h2, h0, ?_⟩
  rcases hes with rfl | rfl
  ·cases l with
   | nil => exact .inl rfl
   | cons x l =>
    refine .inr ⟨b, off, rfl, ?_, hX b, r1⟩
    obtain ⟨cs, q1, q2⟩ := hh 0 x rfl
    have hl : cs.length = d.size := d.len q2
    have := q1 0 (by omega)
    obtain ⟨y, hy⟩ : ∃ y, cs[0]? = some y := ⟨cs[0], List.getElem?_eq_getElem (by omega)⟩
    rw [hy] at this
    exact cell_in this
  ·exact .inl rfl
theorem one_nil : ∀ v ∈ ([] : List Value), one1 v = true := by simp
theorem one_cons {v : Value} {vs : List Value} (h : one1 v = true) (k : ∀ x ∈ vs, one1 x = true) : ∀ x ∈ v :: vs, one1 x = true := by
 intro x hx
 rcases List.mem_cons.1 hx with rfl | hx
 ·exact h
 ·exact k x hx
theorem rp_Point : RP c pointC cPoint okPoint := by
 rintro cs x ⟨rfl, h0, h1⟩
 exact ⟨(repL_cons (rep_int _ _) (repL_cons (rep_int _ _) repL_nil)), ⟨h0, h1⟩, (one_cons rfl (one_cons rfl one_nil))⟩
theorem rp_Range : RP c rangeC cRange okRange := by
 rintro cs x ⟨rfl, h0, h1, h2⟩
 exact ⟨(repL_cons (rep_int _ _) (repL_cons (rep_int _ _) (repL_cons (rep_str _) repL_nil))), ⟨h0, h1, (show okS _ by unfold okS mxl; have := h2; unfold maxLen at this; omega)⟩, (one_cons rfl (one_cons rfl (one_cons rfl one_nil)))⟩
theorem rp_Param (hX : ∀ b, ¬ c.X b) : RP c paramC cParam okParam := by
 rintro cs x ⟨v0, rfl, h0, h1, h2, h3, h4, h6⟩
 obtain ⟨r6, o6, n6⟩ := rp_slice hX rp_Range (sz := 3) rfl (by decide) h6
 exact ⟨(repL_cons (rep_str _) (repL_cons (rep_int _ _) (repL_cons (rep_int _ _) (repL_cons (rep_int _ _) (repL_cons (rep_int _ _) (repL_cons (rep_bool _) (repL_cons r6 repL_nil))))))), ⟨(show okS _ by unfold okS mxl; have := h0; unfold maxLen at this; omega), h1, h2, h3, h4, o6⟩, (one_cons rfl (one_cons rfl (one_cons rfl (one_cons rfl (one_cons rfl (one_cons rfl (one_cons n6 one_nil)))))))⟩
theorem rp_Profile (hX : ∀ b, ¬ c.X b) : RP c profileC cProfile okProfile := by
 rintro cs x ⟨v0, rfl, h0, h1, h2⟩
 obtain ⟨r2, o2, n2⟩ := rp_slice hX (rp_Param hX) (sz := 7) rfl (by decide) h2
 exact ⟨(repL_cons (rep_str _) (repL_cons (rep_int _ _) (repL_cons r2 repL_nil))), ⟨(show okS _ by unfold okS mxl; have := h0; unfold maxLen at this; omega), h1, o2⟩, (one_cons rfl (one_cons rfl (one_cons n2 one_nil)))⟩
theorem rp_Unit : RP c unitC cUnit okUnit := by
 rintro cs x ⟨rfl, h0, h1, h2, h3⟩
 exact ⟨(repL_cons (rep_int _ _) (repL_cons (rep_str _) (repL_cons (rep_int _ _) (repL_cons (rep_int _ _) repL_nil)))), ⟨h0, (show okS _ by unfold okS mxl; have := h1; unfold maxLen at this; omega), h2, h3⟩, (one_cons rfl (one_cons rfl (one_cons rfl (one_cons rfl one_nil))))⟩
theorem rp_Setting : RP c settingC cSetting okSetting := by
 rintro cs x ⟨rfl, h0, h1, h2⟩
 exact ⟨(repL_cons (rep_int _ _) (repL_cons (rep_str _) (repL_cons (rep_int _ _) repL_nil))), ⟨⟨h0, (show okS _ by unfold okS mxl; have := h1; unfold maxLen at this; omega)⟩, h2⟩, (one_cons rfl (one_cons rfl (one_cons rfl one_nil)))⟩
theorem rp_Preset (hX : ∀ b, ¬ c.X b) : RP c presetC cPreset okPreset := by
 rintro cs x ⟨v0, rfl, h0, h1, h2⟩
 obtain ⟨r2, o2, n2⟩ := rp_slice hX rp_Setting (sz := 3) rfl (by decide) h2
 exact ⟨(repL_cons (rep_int _ _) (repL_cons (rep_str _) (repL_cons r2 repL_nil))), ⟨h0, (show okS _ by unfold okS mxl; have := h1; unfold maxLen at this; omega), o2⟩, (one_cons rfl (one_cons rfl (one_cons n2 one_nil)))⟩
theorem rp_Move : RP c moveC cMove okMove := by
 rintro cs x ⟨rfl, h0, h1, h2, h3, h6, h7⟩
 exact ⟨(repL_cons (rep_int _ _) (repL_cons (rep_str _) (repL_cons (rep_int _ _) (repL_cons (rep_int _ _) (repL_cons (rep_bool _) (repL_cons (rep_bool _) (repL_cons (rep_int _ _) (repL_cons (rep_int _ _) repL_nil)))))))), ⟨⟨h0, (show okS _ by unfold okS mxl; have := h1; unfold maxLen at this; omega)⟩, ⟨h2, h3⟩, h6, h7⟩, (one_cons rfl (one_cons rfl (one_cons rfl (one_cons rfl (one_cons rfl (one_cons rfl (one_cons rfl (one_cons rfl one_nil))))))))⟩
theorem rp_Cue (hX : ∀ b, ¬ c.X b) : RP c cueC cCue okCue := by
 rintro cs x ⟨v0, v1, rfl, h0, h1, h2, h3, h4, h5, h6, h7, h9, h10⟩
 obtain ⟨r7, o7, n7⟩ := rp_slice hX rp_Point (sz := 2) rfl (by decide) h7
 obtain ⟨r10, o10, n10⟩ := rp_slice hX rp_Move (sz := 8) rfl (by decide) h10
 exact ⟨(repL_cons (rep_int _ _) (repL_cons (rep_str _) (repL_cons (rep_int _ _) (repL_cons (rep_int _ _) (repL_cons (rep_int _ _) (repL_cons (rep_int _ _) (repL_cons (rep_int _ _) (repL_cons r7 (repL_cons (rep_bool _) (repL_cons (rep_int _ _) (repL_cons r10 repL_nil))))))))))), ⟨h0, (show okS _ by unfold okS mxl; have := h1; unfold maxLen at this; omega), h2, h3, h4, h5, ⟨h6, o7⟩, h9, o10⟩, (one_cons rfl (one_cons rfl (one_cons rfl (one_cons rfl (one_cons rfl (one_cons rfl (one_cons rfl (one_cons n7 (one_cons rfl (one_cons rfl (one_cons n10 one_nil)))))))))))⟩
theorem rp_List (hX : ∀ b, ¬ c.X b) : RP c listC cList okList := by
 rintro cs x ⟨v0, rfl, h0, h1⟩
 obtain ⟨r1, o1, n1⟩ := rp_slice hX (rp_Cue hX) (sz := 11) rfl (by decide) h1
 exact ⟨(repL_cons (rep_int _ _) (repL_cons r1 repL_nil)), ⟨h0, o1⟩, (one_cons rfl (one_cons n1 one_nil))⟩
theorem rp_Playback : RP c playbackC cPlayback okPlayback := by
 rintro cs x ⟨rfl, h0, h1, h2⟩
 exact ⟨(repL_cons (rep_int _ _) (repL_cons (rep_int _ _) (repL_cons (rep_int _ _) repL_nil))), ⟨h0, h1, h2⟩, (one_cons rfl (one_cons rfl (one_cons rfl one_nil)))⟩
theorem rp_Setup (hX : ∀ b, ¬ c.X b) : RP c setupC cSetup okSetup := by
 rintro cs x ⟨v0, v1, v2, v3, v4, rfl, h0, h1, h2, h3, h4⟩
 obtain ⟨r0, o0, n0⟩ := rp_slice hX (rp_Profile hX) (sz := 3) rfl (by decide) h0
 obtain ⟨r1, o1, n1⟩ := rp_slice hX rp_Unit (sz := 4) rfl (by decide) h1
 obtain ⟨r2, o2, n2⟩ := rp_slice hX (rp_Preset hX) (sz := 3) rfl (by decide) h2
 obtain ⟨r3, o3, n3⟩ := rp_slice hX (rp_List hX) (sz := 2) rfl (by decide) h3
 obtain ⟨r4, o4, n4⟩ := rp_slice hX rp_Playback (sz := 3) rfl (by decide) h4
 exact ⟨(repL_cons r0 (repL_cons r1 (repL_cons r2 (repL_cons r3 (repL_cons r4 repL_nil))))), ⟨⟨o0, o1⟩, o2, o3, o4⟩, (one_cons n0 (one_cons n1 (one_cons n2 (one_cons n3 (one_cons n4 one_nil)))))⟩
/-- The whole of a struct that is handed over by value. -/
theorem rp_agg {α : Type} {d : Cod α} {e : α → List AV} {ok : α → Prop} (H : RP c d e ok) {cs : Array Value} {x : α} (h : d.is c.w cs.toList x) : Rep c (.agg (e x)) (.agg cs) ∧ ok x := by
 obtain ⟨h1, h2, h3⟩ := H _ _ h
 simp only [Rep]
 exact ⟨⟨cs, rfl, h1, h3⟩, h2⟩
end
end Go.Proofs.Ytooknfkholjpbaa

/- From the abstract run of a law to a call of it. -/
namespace Go.Proofs.Ytooknfkholjpbaa
set_option linter.unusedSectionVars false
set_option linter.unusedSimpArgs false
set_option linter.unusedVariables false
open Go.RowKit
noncomputable def base (W : World) : RC := ctx ⟨W, [], fun _ => False, nmT⟩ W [] nopb
theorem base_X (W : World) : ∀ b, ¬ (base W).X b := by
 rintro b (k | ⟨p, hp, _⟩ | ⟨i, k⟩)
 ·exact k
 ·cases hp
 ·cases k
theorem law_run {n : FuncId} {m : List AV → Heap → Option (AV × Heap)} {avs : List AV} (hs : Sound Try.prog nmT n m) (hc : ∀ us w, (callFunc n us).run Try.prog w = .ok (.enter n us) w) (W : World) (vs : Array Value) (hr : RepL (base W) avs vs.toList) (hm : m avs [] = some (.bool true, [])) :
  Calls Try.prog n vs W fun e W' => e = .returned (.bool true) ∧ Below W.heap.size W W' := by
 obtain ⟨g, h1, h2⟩ := hs _ _ _ _ hm
 have hg : g = n := by
  have e1 := h1 #[] W
  rw [hc #[] W] at e1
  injection e1 with e1
  injection e1 with e1
  exact e1.symm
 subst hg
 have hh : HeapRel (ctx ⟨W, [], fun _ => False, nmT⟩ W [] nopb) [] := by
  refine ⟨rfl, fun i j p q hp => ?_, fun i p x hp => ?_⟩
  ·simp [ctx] at hp
  ·simp [ctx] at hp
 refine (h2 ⟨W, [], fun _ => False, nmT⟩ vs rfl (fun b k => k.elim) hh hr).mono ?_
 rintro e w' ⟨v, E', rfl, ho, _, hv⟩
 simp only [Rep] at hv
 subst hv
 exact ⟨rfl, ho.os, ho.tape, ho.output, ho.size, fun k hk => ho.stay k hk (fun p hp => by cases hp)⟩
end Go.Proofs.Ytooknfkholjpbaa

