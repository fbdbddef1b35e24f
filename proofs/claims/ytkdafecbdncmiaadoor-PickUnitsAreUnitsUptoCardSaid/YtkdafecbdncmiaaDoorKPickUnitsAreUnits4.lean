/- Parts of the proof of PickUnitsAreUnits, in order. -/
import Derived.Orders
import Derived.Below
import Derived.WalkKit
import Derived.Test.YtkdafecbdncmiaaDoorRows
import Derived.Lib.LaidTab
import Derived.Lib.ItoaNum
import Derived.KernelRfl
import Derived.Laws.StructEq
import Derived.Laws.Append
import Derived.Laws.AppendOwn
import Derived.Lib.Bytealg
import Derived.Sort.Defs
import Derived.Lib.BitFns
import Derived.Lib.Strings
import Derived.Test.YtkdafecbdncmiaaDoorShelf
import Derived.IntWalk
import Derived.Sort.Statements
import Derived.Test.YtkdafecbdncmiaaDoorKPickUnitsAreUnits3
namespace Go.Proofs.YtkdafecbdncmiaaDoor
set_option linter.unusedSectionVars false
set_option maxRecDepth 100000
set_option linter.unusedVariables false
set_option linter.unusedSimpArgs false
theorem s_word_Row : Sound Tryd.prog nmT 111 m_word_Row := q1 [] 35 (.s .n (.s (.s .n (.b (.l [2, 7] [.exit 0, .ret] (.s .n (.s (.j .n .n) (.s (.b (.s .n (.s .n (.s .n (.j (.s .n .n) .n))))) .n)))))) (.s .n .n))) All.nil Tryd.func111 Tryd.call111 (fun a0 σ => by kernel_rfl) rfl rfl
theorem s_word_Name : Sound Tryd.prog nmT 100 m_word_Name := q1 [] 20 (.s .n (.s .n .n)) (All.cons s_word_Row All.nil) Tryd.func100 Tryd.call100 (fun a0 σ => by kernel_rfl) rfl rfl
theorem s_word_Within : Sound Tryd.prog nmT 48 m_word_Within := q3 [] 15 (.s .n (.s .n .n)) All.nil Tryd.func48 Tryd.call48 (fun a0 a1 a2 σ => by kernel_rfl) rfl rfl
theorem s_fixture_isLevel : Sound Tryd.prog nmT 101 m_fixture_isLevel := q1 [] 5 (.s .n (.s .n .n)) (All.cons s_word_Within All.nil) Tryd.func101 Tryd.call101 (fun a0 σ => by kernel_rfl) rfl rfl
theorem s_fixture_checkRanges : Sound Tryd.prog nmT 102 m_fixture_checkRanges := q1 [5] 63 (.s .n (.s (.s .n (.j (.s .n .n) .n)) (.s .n (.s (.s .n (.b (.l [2, 12] [.exit 0, .ret] (.s .n (.s (.j .n .n) (.s (.b (.s .n (.s (.b (.s .n (.j (.s .n .n) (.s .n (.j (.s .n .n) (.s .n (.j (.s .n .n) (.s .n (.j (.s .n .n) .n))))))))) .n))) .n)))))) (.s .n .n))))) (All.cons s_fixture_isLevel (All.cons s_word_Name All.nil)) Tryd.func102 Tryd.call102 (fun a0 σ => by kernel_rfl) rfl rfl
theorem s_fixture_CheckProfile : Sound Tryd.prog nmT 90 m_fixture_CheckProfile := q1 [1, 6] 115 (.s .n (.s (.b (.s .n (.j (.s .n .n) (.s .n (.j (.s .n .n) (.s .n (.j (.s .n .n) (.s .n (.j (.s .n .n) .n))))))))) (.s .n (.s (.s .n (.b (.l [1, 2, 33] [.exit 1, .ret] (.s .n (.s (.j .n .n) (.s (.b (.s .n (.s (.b (.s .n (.j (.s .n .n) (.s .n (.j (.s .n .n) (.s .n (.j (.s .n .n) (.s .n (.j (.s .n .n) (.s .n (.j (.s .n .n) .n))))))))))) (.s (.s .n (.s .n (.j (.s .n .n) .n))) (.s .n (.s .n (.c [1] .n .n))))))) .n)))))) (.s .n .n))))) (All.cons s_word_Name (All.cons s_word_Within (All.cons s_fixture_isLevel (All.cons s_fixture_checkRanges All.nil)))) Tryd.func90 Tryd.call90 (fun a0 σ => by kernel_rfl) rfl rfl
theorem s_fixture_CheckLibrary : Sound Tryd.prog nmT 74 m_fixture_CheckLibrary := q1 [5] 30 (.s .n (.s (.s .n (.j (.s .n .n) .n)) (.s .n (.s (.s .n (.b (.l [2, 13] [.exit 0, .ret] (.s .n (.s (.j .n .n) (.s (.b (.s .n (.s (.s .n (.s .n (.j (.s .n .n) .n))) (.s (.s .n (.j (.s .n .n) .n)) .n)))) .n)))))) (.s .n .n))))) (All.cons s_fixture_CheckProfile All.nil) Tryd.func74 Tryd.call74 (fun a0 σ => by kernel_rfl) rfl rfl
noncomputable def x_slices_IndexFunc_api_Profile (dyn : Nat → List AV → Heap → Option (AV × Heap)) : Fx := ⟨Tryd.prog, nmT, A.tab (fun _ _ => none) [], dyn, [], [], 19, []⟩
theorem w_slices_IndexFunc_api_Profile (dyn : Nat → List AV → Heap → Option (AV × Heap)) (hd : ∀ f, Sound Tryd.prog nmT f (dyn (nmT.getD f 0))) : Sound Tryd.prog nmT 91 (A.wrap true [(.s 3)] .k (A.ar2 (r_slices_IndexFunc_api_Profile dyn))) :=
 Sound.wrap (Sound.run2 (X := x_slices_IndexFunc_api_Profile dyn) (fn := Tryd.f91) (ann := (.s .n (.s (.s .n (.b (.l [4, 8] [.exit 0, .ret] (.s .n (.s (.j .n .n) (.s (.b (.s .n (.s .n (.j (.s .n .n) .n)))) .n)))))) (.s .n .n)))) .F trivial (Snd.of rfl All.nil (hd)) Tryd.func91 Tryd.call91 (fun a0 a1 σ => by kernel_rfl)) _ _ _ rfl rfl
theorem s_slices_IndexFunc_api_Profile (dyn : Nat → List AV → Heap → Option (AV × Heap)) (hd : ∀ f, Sound Tryd.prog nmT f (dyn (nmT.getD f 0))) : Sound Tryd.prog nmT 91 (m_slices_IndexFunc_api_Profile dyn) := w_slices_IndexFunc_api_Profile dyn hd
theorem s_fixture_profile_fn1 : Sound Tryd.prog nmT 92 m_fixture_profile_fn1 := q2 [2] 8 (.s .n (.s .n .n)) All.nil Tryd.func92 Tryd.call92 (fun a0 a1 σ => by kernel_rfl) rfl rfl
noncomputable def x_fixture_profile : Fx := ⟨Tryd.prog, nmT, A.tab (fun _ _ => none) [(91, m_slices_IndexFunc_api_Profile (A.tab (fun _ _ => none) [(64, m_fixture_profile_fn1)]))], (A.tab (fun _ _ => none) [(64, m_fixture_profile_fn1)]), [4], [], 17, []⟩
theorem w_fixture_profile : Sound Tryd.prog nmT 75 (A.wrap true [(.s 3)] (.t [(.a [.k, .k, (.e 7 [.k, .k, .k, .k, .k, .k, (.s 3)])]), .k]) (A.ar2 (r_fixture_profile))) :=
 Sound.wrap (Sound.run2 (X := x_fixture_profile) (fn := Tryd.f75) (ann := (.s .n (.s .n (.s (.s .n (.j (.s .n .n) .n)) (.s .n .n))))) .F trivial (Snd.of rfl (All.cons (s_slices_IndexFunc_api_Profile _ (dyn_of (DAll.cons (nm_sound s_fixture_profile_fn1 (by kernel_rfl) rfl) DAll.nil))) All.nil) (dyn_of (DAll.cons (nm_sound s_fixture_profile_fn1 (by kernel_rfl) rfl) DAll.nil))) Tryd.func75 Tryd.call75 (fun a0 a1 σ => by kernel_rfl)) _ _ _ rfl rfl
theorem s_fixture_profile : Sound Tryd.prog nmT 75 m_fixture_profile := w_fixture_profile
theorem s_fixture_slots_free : Sound Tryd.prog nmT 76 m_fixture_slots_free := q3 [] 32 (.s .n (.s (.s .n (.j (.s .n .n) .n)) (.s (.s .n (.b (.l [6, 7] [.exit 0, .ret] (.s (.s .n (.j .n .n)) (.s (.b (.s .n (.j (.s .n .n) .n))) .n))))) (.s .n .n)))) All.nil Tryd.func76 Tryd.call76 (fun a0 a1 a2 σ => by kernel_rfl) rfl rfl
noncomputable def x_fixture_take : Fx := ⟨Tryd.prog, nmT, A.tab (fun _ _ => none) [], (fun _ _ _ => none), [4], [15], 33, []⟩
theorem w_fixture_take : Sound Tryd.prog nmT 77 (A.wrap false [] .k (A.ar3 (r_fixture_take))) :=
 Sound.wrap (Sound.run3 (X := x_fixture_take) (fn := Tryd.f77) (ann := (.s .n (.s (.s .n (.c [4] .n .n)) (.s .n (.b (.l [4, 6] [.exit 0] (.s (.s .n (.j .n .n)) (.s (.b .n) .n)))))))) .K trivial (Snd.of rfl All.nil (fun _ => Sound.none)) Tryd.func77 Tryd.call77 (fun a0 a1 a2 σ => by kernel_rfl)) _ _ _ rfl rfl
theorem s_fixture_take : Sound Tryd.prog nmT 77 m_fixture_take := w_fixture_take
theorem s_fixture_CheckRig : Sound Tryd.prog nmT 51 m_fixture_CheckRig := q1 [1, 6, 7] 91 (.s .n (.s (.s .n (.s .n (.j (.s .n .n) .n))) (.s (.s .n (.j (.s .n .n) .n)) (.s .n (.s (.s .n (.b (.l [1, 2, 23] [.exit 0, .ret] (.s .n (.s (.j .n .n) (.s (.b (.s .n (.s (.s .n (.j (.s .n .n) .n)) (.s (.s .n (.j (.s .n .n) .n)) (.s .n (.s (.s .n (.j (.s .n .n) .n)) (.s (.s .n (.j (.s .n .n) .n)) (.s (.s .n (.j (.s .n .n) .n)) .n)))))))) .n)))))) (.s .n .n)))))) (All.cons s_fixture_CheckLibrary (All.cons s_word_Within (All.cons s_fixture_profile (All.cons s_fixture_slots_free (All.cons s_fixture_take All.nil))))) Tryd.func51 Tryd.call51 (fun a0 σ => by kernel_rfl) rfl rfl
theorem s_word_When : Sound Tryd.prog nmT 52 m_word_When := q2 [] 7 (.s .n (.s (.s .n (.j (.s .n .n) .n)) (.s .n .n))) All.nil Tryd.func52 Tryd.call52 (fun a0 a1 σ => by kernel_rfl) rfl rfl
theorem s_word_First : Sound Tryd.prog nmT 27 m_word_First := q1 [] 15 (.s .n (.s (.s .n (.b (.l [2, 7] [.exit 0, .ret] (.s .n (.s (.j .n .n) (.s (.b (.s .n (.s .n (.j (.s .n .n) .n)))) .n)))))) (.s .n .n))) All.nil Tryd.func27 Tryd.call27 (fun a0 σ => by kernel_rfl) rfl rfl
theorem s_fixture_Keys : Sound Tryd.prog nmT 78 m_fixture_Keys := q1 [1, 7, 8, 11] 50 (.s .n (.s (.s .n (.s .n (.j (.s .n .n) .n))) (.s .n (.s (.s .n (.b (.l [1, 5, 20] [.exit 0] (.s .n (.s (.j .n .n) (.s (.b (.s .n (.s .n (.s .n (.b (.l [1, 5, 7, 35] [.exit 2] (.s .n (.s (.j .n .n) (.s (.b (.s .n .n)) .n))))))))) .n)))))) (.s .n .n))))) (All.cons s_fixture_CheckRig (All.cons s_fixture_profile All.nil)) Tryd.func78 Tryd.call78 (fun a0 σ => by kernel_rfl) rfl rfl
theorem s_pick_keys : Sound Tryd.prog nmT 53 m_pick_keys := q1 [1, 7] 24 (.s .n (.s .n (.s .n (.s (.s .n (.b (.l [16] [.exit 0] (.s .n (.s (.j .n .n) (.s (.b (.s .n .n)) .n)))))) (.s .n .n))))) (All.cons s_fixture_Keys All.nil) Tryd.func53 Tryd.call53 (fun a0 σ => by kernel_rfl) rfl rfl
theorem s_word_Title : Sound Tryd.prog nmT 79 m_word_Title := q1 [] 40 (.s .n (.s (.s .n (.b (.l [2, 6] [.exit 0, .ret] (.s .n (.s (.j .n .n) (.s (.b (.s .n (.s .n (.j (.s .n .n) .n)))) .n)))))) (.s .n .n))) All.nil Tryd.func79 Tryd.call79 (fun a0 σ => by kernel_rfl) rfl rfl
theorem s_pick_blank : Sound Tryd.prog nmT 54 m_pick_blank := q1 [] 9 (.s .n (.s .n .n)) (All.cons s_word_Title All.nil) Tryd.func54 Tryd.call54 (fun a0 σ => by kernel_rfl) rfl rfl
theorem s_pick_isLevel : Sound Tryd.prog nmT 55 m_pick_isLevel := q1 [] 5 (.s .n (.s .n .n)) (All.cons s_word_Within All.nil) Tryd.func55 Tryd.call55 (fun a0 σ => by kernel_rfl) rfl rfl
theorem s_pick_before : Sound Tryd.prog nmT 56 m_pick_before := q2 [2, 3] 21 (.s .n (.s (.s .n (.j (.s .n .n) .n)) (.s .n .n))) (All.cons s_strings_Compare All.nil) Tryd.func56 Tryd.call56 (fun a0 a1 σ => by kernel_rfl) rfl rfl
theorem s_pick_CheckPresets : Sound Tryd.prog nmT 28 m_pick_CheckPresets := q2 [2, 8, 10] 97 (.s .n (.s (.s .n (.s .n (.j (.s .n .n) .n))) (.s .n (.s (.s .n (.b (.l [4, 26] [.exit 0, .ret] (.s .n (.s (.j .n .n) (.s (.b (.s .n (.s (.b (.s .n (.j (.s .n .n) (.s .n (.j (.s .n .n) (.s .n (.j (.s .n .n) (.s .n (.j (.s .n .n) .n))))))))) (.s .n (.b (.l [4, 8, 63] [.exit 3, .ret] (.s .n (.s (.j .n .n) (.s (.b (.s .n (.b (.s .n (.j (.s .n .n) (.s .n (.j (.s .n .n) (.s .n (.j (.s .n .n) .n))))))))) .n))))))))) .n)))))) (.s .n .n))))) (All.cons s_fixture_CheckRig (All.cons s_word_When (All.cons s_word_First (All.cons s_pick_keys (All.cons s_word_Within (All.cons s_pick_blank (All.cons s_pick_isLevel (All.cons s_pick_before All.nil)))))))) Tryd.func28 Tryd.call28 (fun a0 a1 σ => by kernel_rfl) rfl rfl
noncomputable def x_pick_size (rec : Nat → List AV → Heap → Option (AV × Heap)) : Fx := ⟨Tryd.prog, nmT, A.tab (fun _ _ => none) [(23, rec 37)], (fun _ _ _ => none), [1, 5], [], 30, []⟩
theorem w_pick_size (rec : Nat → List AV → Heap → Option (AV × Heap)) (hrec : ∀ f, Sound Tryd.prog nmT f (rec (nmT.getD f 0))) : Sound Tryd.prog nmT 23 (A.wrap true [(.a [.k, .k, .k, (.s 4)])] .k (A.ar1 (r_pick_size rec))) :=
 Sound.wrap (Sound.run1 (X := x_pick_size rec) (fn := Tryd.f23) (ann := (.s .n (.s .n (.s (.s .n (.b (.l [2, 3, 11] [.exit 0] (.s .n (.s (.j .n .n) (.s (.b (.s .n (.s .n .n))) .n)))))) (.s .n .n))))) .F trivial (Snd.of rfl (All.cons (hrec 23) All.nil) (fun _ => Sound.none)) Tryd.func23 Tryd.call23 (fun a0 σ => by kernel_rfl)) _ _ _ rfl rfl
theorem g_pick_size : ∀ n f, Sound Tryd.prog nmT f (fuel (R_pick_size) n (nmT.getD f 0)) :=
 fuel_sound (fun rec hrec => (DAll.cons (nm_sound (w_pick_size rec hrec) (by kernel_rfl) rfl) DAll.nil))
theorem s_pick_size : Sound Tryd.prog nmT 23 m_pick_size := g_pick_size 2000000 23
noncomputable def x_pick_check (rec : Nat → List AV → Heap → Option (AV × Heap)) : Fx := ⟨Tryd.prog, nmT, A.tab (fun _ _ => none) [(48, m_word_Within), (24, rec 38)], (fun _ _ _ => none), [1, 9], [], 95, []⟩
theorem w_pick_check (rec : Nat → List AV → Heap → Option (AV × Heap)) (hrec : ∀ f, Sound Tryd.prog nmT f (rec (nmT.getD f 0))) : Sound Tryd.prog nmT 24 (A.wrap true [(.a [.k, .k, .k, (.s 4)])] .k (A.ar1 (r_pick_check rec))) :=
 Sound.wrap (Sound.run1 (X := x_pick_check rec) (fn := Tryd.f24) (ann := (.s .n (.s .n (.s (.s .n (.b (.s .n (.j .n (.s (.s .n (.c [1, 15] .n .n)) (.j .n (.s (.s .n (.c [1, 18] .n .n)) (.j .n (.s (.s .n (.c [1, 21] .n (.s .n (.c [1, 21] .n .n)))) (.j .n (.s .n (.j .n (.s .n .n))))))))))))) (.s .n (.s (.s .n (.c [1, 6] .n .n)) (.s (.s .n (.j (.s .n .n) .n)) (.s .n (.s (.s .n (.b (.s .n (.c [1, 7] .n (.s .n (.c [1, 7] .n .n)))))) (.s (.s .n (.j (.s .n .n) .n)) (.s (.s .n (.b (.l [2, 85] [.exit 2, .ret] (.s .n (.s (.j .n .n) (.s (.b (.s .n (.s .n (.s .n (.j (.s .n .n) .n))))) .n)))))) (.s .n .n)))))))))))) .F trivial (Snd.of rfl (All.cons s_word_Within (All.cons (hrec 24) All.nil)) (fun _ => Sound.none)) Tryd.func24 Tryd.call24 (fun a0 σ => by kernel_rfl)) _ _ _ rfl rfl
theorem g_pick_check : ∀ n f, Sound Tryd.prog nmT f (fuel (R_pick_check) n (nmT.getD f 0)) :=
 fuel_sound (fun rec hrec => (DAll.cons (nm_sound (w_pick_check rec hrec) (by kernel_rfl) rfl) DAll.nil))
theorem s_pick_check : Sound Tryd.prog nmT 24 m_pick_check := g_pick_check 2000000 24
theorem s_pick_Check : Sound Tryd.prog nmT 9 m_pick_Check := q1 [1] 18 (.s .n (.s (.s .n (.s .n (.j (.s .n .n) .n))) (.s .n .n))) (All.cons s_pick_size (All.cons s_pick_check All.nil)) Tryd.func9 Tryd.call9 (fun a0 σ => by kernel_rfl) rfl rfl
noncomputable def x_pick_names (rec : Nat → List AV → Heap → Option (AV × Heap)) (dyn : Nat → List AV → Heap → Option (AV × Heap)) : Fx := ⟨Tryd.prog, nmT, A.tab (fun _ _ => none) [(59, rec 41)], dyn, [2, 5], [], 31, []⟩
theorem w_pick_names (rec : Nat → List AV → Heap → Option (AV × Heap)) (dyn : Nat → List AV → Heap → Option (AV × Heap)) (hrec : ∀ f, Sound Tryd.prog nmT f (rec (nmT.getD f 0))) (hd : ∀ f, Sound Tryd.prog nmT f (dyn (nmT.getD f 0))) : Sound Tryd.prog nmT 59 (A.wrap false [] .k (A.ar2 (r_pick_names rec dyn))) :=
 Sound.wrap (Sound.run2 (X := x_pick_names rec dyn) (fn := Tryd.f59) (ann := (.s .n (.s (.s .n (.c [2] .n .n)) (.s .n (.b (.l [23] [.exit 0] (.s .n (.s (.j .n .n) (.s (.b (.s .n .n)) .n))))))))) .K trivial (Snd.of rfl (All.cons (hrec 59) All.nil) (hd)) Tryd.func59 Tryd.call59 (fun a0 a1 σ => by kernel_rfl)) _ _ _ rfl rfl
theorem g_pick_names (dyn : Nat → List AV → Heap → Option (AV × Heap)) (hd : ∀ f, Sound Tryd.prog nmT f (dyn (nmT.getD f 0))) : ∀ n f, Sound Tryd.prog nmT f (fuel (R_pick_names dyn) n (nmT.getD f 0)) :=
 fuel_sound (fun rec hrec => (DAll.cons (nm_sound (w_pick_names rec dyn hrec hd) (by kernel_rfl) rfl) DAll.nil))
theorem s_pick_names (dyn : Nat → List AV → Heap → Option (AV × Heap)) (hd : ∀ f, Sound Tryd.prog nmT f (dyn (nmT.getD f 0))) : Sound Tryd.prog nmT 59 (m_pick_names dyn) := g_pick_names dyn hd 2000000 59
noncomputable def x_pick_uses_fn1 : Fx := ⟨Tryd.prog, nmT, A.tab (fun _ _ => none) [], (fun _ _ _ => none), [], [], 18, []⟩
theorem e_pick_uses_fn1 (a0 : AV) (i1 : IntKind) (o1 : Int) (i2 o2 : Nat) (i3 o3 : Nat) (σ : Heap) : runA (x_pick_uses_fn1) .K (.s .n (.c [] .n .n)) Tryd.f81 [a0, .int i1 o1, .op i2 o2, .op i3 o3] σ = r_pick_uses_fn1 a0 (.int i1 o1) (.op i2 o2) (.op i3 o3) σ := by kernel_rfl
theorem w_pick_uses_fn1 : Sound Tryd.prog nmT 81 (A.wrap false [] .k (A.ar4 (b_pick_uses_fn1))) :=
 Sound.wrap (Sound.runL (X := x_pick_uses_fn1) (fn := Tryd.f81) (ann := (.s .n (.c [] .n .n))) .K trivial (Snd.of rfl All.nil (fun _ => Sound.none)) Tryd.func81 Tryd.call81 (fun args σ r h => by
  unfold A.ar4 b_pick_uses_fn1 at h
  split at h
  ·split at h
   ·exact (e_pick_uses_fn1 ..).trans h
   ·cases h
  ·cases h)) _ _ _ rfl rfl
theorem s_pick_uses_fn1 : Sound Tryd.prog nmT 81 m_pick_uses_fn1 := w_pick_uses_fn1
noncomputable def x_pick_uses : Fx := ⟨Tryd.prog, nmT, A.tab (fun _ _ => none) [(59, m_pick_names (A.tab (fun _ _ => none) [(40, m_pick_uses_fn1)]))], (A.tab (fun _ _ => none) [(40, m_pick_uses_fn1)]), [], [3, 5], 22, []⟩
theorem w_pick_uses : Sound Tryd.prog nmT 57 (A.wrap true [(.s 5)] .k (A.ar1 (r_pick_uses))) :=
 Sound.wrap (Sound.run1 (X := x_pick_uses) (fn := Tryd.f57) (ann := (.s .n (.s .n (.s (.s .n (.b (.l [9] [.exit 0] (.s .n (.s (.j .n .n) (.s (.b (.s .n (.s .n .n))) .n)))))) (.s .n .n))))) .F trivial (Snd.of rfl (All.cons (s_pick_names _ (dyn_of (DAll.cons (nm_sound s_pick_uses_fn1 (by kernel_rfl) rfl) DAll.nil))) All.nil) (dyn_of (DAll.cons (nm_sound s_pick_uses_fn1 (by kernel_rfl) rfl) DAll.nil))) Tryd.func57 Tryd.call57 (fun a0 σ => by kernel_rfl)) _ _ _ rfl rfl
theorem s_pick_uses : Sound Tryd.prog nmT 57 m_pick_uses := w_pick_uses
noncomputable def x_pick_reach : Fx := ⟨Tryd.prog, nmT, A.tab (fun _ _ => none) [], (fun _ _ _ => none), [], [12], 47, []⟩
theorem w_pick_reach : Sound Tryd.prog nmT 58 (A.wrap true [] .k (A.ar2 (r_pick_reach))) :=
 Sound.wrap (Sound.run2 (X := x_pick_reach) (fn := Tryd.f58) (ann := (.s .n (.s .n (.s .n (.s (.b (.l [6] [.exit 0] (.s (.s .n (.j .n .n)) (.b (.s .n (.s .n (.s .n (.b (.l [6, 31] [.exit 2] (.s .n (.s (.j .n .n) (.s (.b (.s .n (.s .n (.c [6] (.s .n .n) .n)))) .n)))))))))))) (.s .n .n)))))) .F trivial (Snd.of rfl All.nil (fun _ => Sound.none)) Tryd.func58 Tryd.call58 (fun a0 a1 σ => by kernel_rfl)) _ _ _ rfl rfl
theorem s_pick_reach : Sound Tryd.prog nmT 58 m_pick_reach := w_pick_reach
theorem s_pick_CheckGroups : Sound Tryd.prog nmT 29 m_pick_CheckGroups := q1 [4, 8, 14] 90 (.s .n (.s (.s .n (.j (.s .n .n) .n)) (.s (.s .n (.b (.l [2, 20] [.exit 0, .ret] (.s .n (.s (.j .n .n) (.s (.b (.s .n (.s (.s .n (.j (.s .n .n) .n)) (.s (.s .n (.j (.s .n .n) .n)) (.s .n (.s .n (.j (.s .n .n) .n))))))) .n)))))) (.s .n (.s (.s .n (.b (.l [2, 53] [.exit 2, .ret] (.s .n (.s (.j .n .n) (.s (.b (.s .n (.s .n (.b (.l [2, 62] [.exit 4, .ret] (.s .n (.s (.j .n .n) (.s (.b (.s .n (.s .n (.s .n (.j (.s .n .n) .n))))) .n)))))))) .n)))))) (.s (.s .n (.b (.l [2, 78] [.exit 6, .ret] (.s .n (.s (.j .n .n) (.s (.b (.s .n (.s .n (.j (.s .n .n) .n)))) .n)))))) (.s .n .n))))))) (All.cons s_word_Within (All.cons s_pick_Check (All.cons s_pick_uses (All.cons s_pick_reach All.nil)))) Tryd.func29 Tryd.call29 (fun a0 σ => by kernel_rfl) rfl rfl
noncomputable def x_pick_once : Fx := ⟨Tryd.prog, nmT, A.tab (fun _ _ => none) [], (fun _ _ _ => none), [], [], 26, []⟩
theorem w_pick_once : Sound Tryd.prog nmT 30 (A.wrap true [(.s 1)] .k (A.ar1 (r_pick_once))) :=
 Sound.wrap (Sound.run1 (X := x_pick_once) (fn := Tryd.f30) (ann := (.s .n (.s .n (.s .n (.s (.s .n (.b (.l [4, 10] [.exit 0] (.s .n (.s (.j .n .n) (.s (.b (.s .n (.s .n (.c [4] (.s .n .n) .n)))) .n)))))) (.s .n .n)))))) .K trivial (Snd.of rfl All.nil (fun _ => Sound.none)) Tryd.func30 Tryd.call30 (fun a0 σ => by kernel_rfl)) _ _ _ rfl rfl
theorem s_pick_once : Sound Tryd.prog nmT 30 m_pick_once := w_pick_once
noncomputable def x_pick_finder_missing (rec : Nat → List AV → Heap → Option (AV × Heap)) : Fx := ⟨Tryd.prog, nmT, A.tab (fun _ _ => none) [(59, m_pick_names (A.tab (fun _ _ => none) [(75, rec 75)]))], (A.tab (fun _ _ => none) [(75, rec 75)]), [4], [7], 12, []⟩
theorem w_pick_finder_missing (rec : Nat → List AV → Heap → Option (AV × Heap)) (hrec : ∀ f, Sound Tryd.prog nmT f (rec (nmT.getD f 0))) : Sound Tryd.prog nmT 31 (A.wrap false [] .k (A.ar3 (r_pick_finder_missing rec))) :=
 Sound.wrap (Sound.run3 (X := x_pick_finder_missing rec) (fn := Tryd.f31) (ann := (.s .n (.s .n (.s .n (.s .n .n))))) .K trivial (Snd.of rfl (All.cons (s_pick_names _ (dyn_of (DAll.cons (fun f hf => hf ▸ hrec f) DAll.nil))) All.nil) (dyn_of (DAll.cons (fun f hf => hf ▸ hrec f) DAll.nil))) Tryd.func31 Tryd.call31 (fun a0 a1 a2 σ => by kernel_rfl)) _ _ _ rfl rfl
noncomputable def x_pick_finder_missing_fn1 (rec : Nat → List AV → Heap → Option (AV × Heap)) : Fx := ⟨Tryd.prog, nmT, A.tab (fun _ _ => none) [(31, rec 76)], (fun _ _ _ => none), [9], [], 46, []⟩
theorem w_pick_finder_missing_fn1 (rec : Nat → List AV → Heap → Option (AV × Heap)) (hrec : ∀ f, Sound Tryd.prog nmT f (rec (nmT.getD f 0))) : Sound Tryd.prog nmT 60 (A.wrap false [] .k (A.ar5 (r_pick_finder_missing_fn1 rec))) :=
 Sound.wrap (Sound.run5 (X := x_pick_finder_missing_fn1 rec) (fn := Tryd.f60) (ann := (.s (.s .n (.j .n .n)) (.s (.s .n (.j (.s .n (.s .n .n)) .n)) (.s .n (.s .n (.c [] .n (.s .n (.c [] (.s .n .n) .n)))))))) .K trivial (Snd.of rfl (All.cons (hrec 31) All.nil) (fun _ => Sound.none)) Tryd.func60 Tryd.call60 (fun a0 a1 a2 a3 a4 σ => by kernel_rfl)) _ _ _ rfl rfl
theorem g_pick_finder_missing : ∀ n f, Sound Tryd.prog nmT f (fuel (R_pick_finder_missing) n (nmT.getD f 0)) :=
 fuel_sound (fun rec hrec => (DAll.cons (nm_sound (w_pick_finder_missing rec hrec) (by kernel_rfl) rfl) (DAll.cons (nm_sound (w_pick_finder_missing_fn1 rec hrec) (by kernel_rfl) rfl) DAll.nil)))
theorem s_pick_finder_missing : Sound Tryd.prog nmT 31 m_pick_finder_missing := g_pick_finder_missing 2000000 31
noncomputable def x_slices_Reverse_int : Fx := ⟨Tryd.prog, nmT, A.tab (fun _ _ => none) [], (fun _ _ _ => none), [], [], 28, []⟩
theorem w_slices_Reverse_int : Sound Tryd.prog nmT 16 (A.wrap false [] .k (A.ar1 (r_slices_Reverse_int))) :=
 Sound.wrap (Sound.run1 (X := x_slices_Reverse_int) (fn := Tryd.f16) (ann := (.s .n (.b (.l [2, 3] [.exit 0] (.s (.s .n (.j .n .n)) (.s (.b .n) .n)))))) .K trivial (Snd.of rfl All.nil (fun _ => Sound.none)) Tryd.func16 Tryd.call16 (fun a0 σ => by kernel_rfl)) _ _ _ rfl rfl
theorem s_slices_Reverse_int : Sound Tryd.prog nmT 16 m_slices_Reverse_int := w_slices_Reverse_int
noncomputable def x_slices_Clone_int : Fx := ⟨Tryd.prog, nmT, A.tab (fun _ _ => none) [], (fun _ _ _ => none), [], [], 8, []⟩
theorem w_slices_Clone_int : Sound Tryd.prog nmT 61 (A.wrap true [(.s 1)] .k (A.ar1 (r_slices_Clone_int))) :=
 Sound.wrap (Sound.run1 (X := x_slices_Clone_int) (fn := Tryd.f61) (ann := (.s .n (.s (.s .n (.j (.s .n .n) .n)) (.s .n .n)))) .K trivial (Snd.of rfl All.nil (fun _ => Sound.none)) Tryd.func61 Tryd.call61 (fun a0 σ => by kernel_rfl)) _ _ _ rfl rfl
theorem s_slices_Clone_int : Sound Tryd.prog nmT 61 m_slices_Clone_int := clone_sound w_slices_Clone_int Tryd.call61 cz_int
noncomputable def x_slices_Grow_int : Fx := ⟨Tryd.prog, nmT, A.tab (fun _ _ => none) [], (fun _ _ _ => none), [], [], 27, []⟩
theorem w_slices_Grow_int : Sound Tryd.prog nmT 82 (A.wrap false [] .k (A.ar2 (r_slices_Grow_int))) :=
 Sound.wrap (Sound.run2 (X := x_slices_Grow_int) (fn := Tryd.f82) (ann := (.s .n (.s (.s .n (.c [] .n .n)) (.s (.s .n (.s .n (.c [0] .n .n))) (.s .n .n))))) .K trivial (Snd.of rfl All.nil (fun _ => Sound.none)) Tryd.func82 Tryd.call82 (fun a0 a1 σ => by kernel_rfl)) _ _ _ rfl rfl
theorem s_slices_Grow_int : Sound Tryd.prog nmT 82 m_slices_Grow_int := w_slices_Grow_int
noncomputable def x_slices_Concat_int : Fx := ⟨Tryd.prog, nmT, A.tab (fun _ _ => none) [(82, m_slices_Grow_int)], (fun _ _ _ => none), [], [], 36, []⟩
theorem w_slices_Concat_int : Sound Tryd.prog nmT 62 (A.wrap true [(.s 1)] .k (A.ar1 (r_slices_Concat_int))) :=
 Sound.wrap (Sound.run1 (X := x_slices_Concat_int) (fn := Tryd.f62) (ann := (.s .n (.s .n (.s (.s .n (.b (.l [3, 11] [.exit 0] (.s .n (.s (.j .n .n) (.s (.b (.s .n (.s .n (.s .n (.c [] .n .n))))) .n)))))) (.s .n (.s (.s .n (.b (.l [6, 27] [.exit 2] (.s .n (.s (.j .n .n) (.s (.b (.s .n .n)) .n)))))) (.s .n .n))))))) .K trivial (Snd.of rfl (All.cons s_slices_Grow_int All.nil) (fun _ => Sound.none)) Tryd.func62 Tryd.call62 (fun a0 σ => by kernel_rfl)) _ _ _ rfl rfl
theorem s_slices_Concat_int : Sound Tryd.prog nmT 62 m_slices_Concat_int := w_slices_Concat_int
noncomputable def x_slices_IndexFunc_int (dyn : Nat → List AV → Heap → Option (AV × Heap)) : Fx := ⟨Tryd.prog, nmT, A.tab (fun _ _ => none) [], dyn, [], [], 19, []⟩
theorem w_slices_IndexFunc_int (dyn : Nat → List AV → Heap → Option (AV × Heap)) (hd : ∀ f, Sound Tryd.prog nmT f (dyn (nmT.getD f 0))) : Sound Tryd.prog nmT 83 (A.wrap true [(.s 1)] .k (A.ar2 (r_slices_IndexFunc_int dyn))) :=
 Sound.wrap (Sound.run2 (X := x_slices_IndexFunc_int dyn) (fn := Tryd.f83) (ann := (.s .n (.s (.s .n (.b (.l [4, 8] [.exit 0, .ret] (.s .n (.s (.j .n .n) (.s (.b (.s .n (.s .n (.j (.s .n .n) .n)))) .n)))))) (.s .n .n)))) .F trivial (Snd.of rfl All.nil (hd)) Tryd.func83 Tryd.call83 (fun a0 a1 σ => by kernel_rfl)) _ _ _ rfl rfl
theorem s_slices_IndexFunc_int (dyn : Nat → List AV → Heap → Option (AV × Heap)) (hd : ∀ f, Sound Tryd.prog nmT f (dyn (nmT.getD f 0))) : Sound Tryd.prog nmT 83 (m_slices_IndexFunc_int dyn) := w_slices_IndexFunc_int dyn hd
noncomputable def x_slices_DeleteFunc_int (dyn : Nat → List AV → Heap → Option (AV × Heap)) : Fx := ⟨Tryd.prog, nmT, A.tab (fun _ _ => none) [(83, m_slices_IndexFunc_int dyn)], dyn, [], [], 42, []⟩
theorem w_slices_DeleteFunc_int (dyn : Nat → List AV → Heap → Option (AV × Heap)) (hd : ∀ f, Sound Tryd.prog nmT f (dyn (nmT.getD f 0))) : Sound Tryd.prog nmT 63 (A.wrap false [] .k (A.ar2 (r_slices_DeleteFunc_int dyn))) :=
 Sound.wrap (Sound.run2 (X := x_slices_DeleteFunc_int dyn) (fn := Tryd.f63) (ann := (.s .n (.s .n (.s (.s .n (.j (.s .n .n) .n)) (.s (.s .n (.b (.l [5, 6] [.exit 0] (.s (.s .n (.j .n .n)) (.s (.b (.s .n (.s .n (.c [5] (.s .n .n) .n)))) .n))))) (.s .n (.s .n .n))))))) .R trivial (Snd.of rfl (All.cons (s_slices_IndexFunc_int dyn hd) All.nil) (hd)) Tryd.func63 Tryd.call63 (fun a0 a1 σ => by kernel_rfl)) _ _ _ rfl rfl
theorem s_slices_DeleteFunc_int (dyn : Nat → List AV → Heap → Option (AV × Heap)) (hd : ∀ f, Sound Tryd.prog nmT f (dyn (nmT.getD f 0))) : Sound Tryd.prog nmT 63 (m_slices_DeleteFunc_int dyn) := w_slices_DeleteFunc_int dyn hd
noncomputable def x_pick_every : Fx := ⟨Tryd.prog, nmT, A.tab (fun _ _ => none) [], (fun _ _ _ => none), [], [], 26, []⟩
theorem w_pick_every : Sound Tryd.prog nmT 65 (A.wrap true [(.s 1)] .k (A.ar3 (r_pick_every))) :=
 Sound.wrap (Sound.run3 (X := x_pick_every) (fn := Tryd.f65) (ann := (.s .n (.s .n (.s (.s .n (.b (.l [7, 8] [.exit 0] (.s (.s .n (.j .n .n)) (.s (.b .n) .n))))) (.s .n .n))))) .K trivial (Snd.of rfl All.nil (fun _ => Sound.none)) Tryd.func65 Tryd.call65 (fun a0 a1 a2 σ => by kernel_rfl)) _ _ _ rfl rfl
theorem s_pick_every : Sound Tryd.prog nmT 65 m_pick_every := w_pick_every
theorem s_pick_finder_find_fn1 : Sound Tryd.prog nmT 64 m_pick_finder_find_fn1 := q2 [] 7 (.s .n (.s .n .n)) All.nil Tryd.func64 Tryd.call64 (fun a0 a1 σ => by kernel_rfl) rfl rfl
end Go.Proofs.YtkdafecbdncmiaaDoor

namespace Go.Proofs.YtkdafecbdncmiaaDoor
set_option linter.unusedSectionVars false
set_option maxRecDepth 100000
set_option linter.unusedVariables false
set_option linter.unusedSimpArgs false
noncomputable def x_pick_finder_find (rec : Nat → List AV → Heap → Option (AV × Heap)) : Fx := ⟨Tryd.prog, nmT, A.tab (fun _ _ => none) [(32, rec 79), (16, m_slices_Reverse_int), (61, m_slices_Clone_int), (62, m_slices_Concat_int), (30, m_pick_once), (63, m_slices_DeleteFunc_int (A.tab (fun _ _ => none) [(77, m_pick_finder_find_fn1)])), (65, m_pick_every)], (A.tab (fun _ _ => none) [(77, m_pick_finder_find_fn1)]), [3, 7], [15], 171, [32, 61, 65]⟩
theorem w_pick_finder_find (rec : Nat → List AV → Heap → Option (AV × Heap)) (hrec : ∀ f, Sound Tryd.prog nmT f (rec (nmT.getD f 0))) : Sound Tryd.prog nmT 32 (A.wrap false [] .k (A.ar2 (r_pick_finder_find rec))) :=
 Sound.wrap (Sound.run2 (X := x_pick_finder_find rec) (fn := Tryd.f32) (ann := (.s .n (.s .n (.s (.s .n (.b (.l [3, 5, 21] [.exit 0] (.s .n (.s (.j .n .n) (.s (.b (.s .n .n)) .n)))))) (.s (.s .n (.b (.s .n (.j (.s .n (.s .n (.s (.s .n (.b (.l [3, 10, 51] [.exit 3] (.s .n (.s (.j .n .n) (.s (.b (.s .n (.s .n (.c [3, 10] .n .n)))) .n)))))) (.s (.s .n (.c [] .n .n)) (.s .n .n))))) (.s .n (.j (.s .n (.s (.s .n (.c [13] (.s .n .n) .n)) (.s .n .n))) (.s .n (.j (.s .n .n) (.s .n (.j (.s .n .n) (.s .n (.j (.s .n (.s (.s .n (.b (.l [130] [.exit 5] (.s .n (.s (.j .n .n) (.s (.b (.s .n .n)) .n)))))) (.s .n .n))) (.s .n (.j (.s .n .n) (.s .n (.j (.s .n .n) (.s .n (.j (.s .n (.s .n .n)) .n)))))))))))))))))) (.s .n .n)))))) .K trivial (Snd.of rfl (All.cons (hrec 32) (All.cons s_slices_Reverse_int (All.cons s_slices_Clone_int (All.cons s_slices_Concat_int (All.cons s_pick_once (All.cons (s_slices_DeleteFunc_int _ (dyn_of (DAll.cons (nm_sound s_pick_finder_find_fn1 (by kernel_rfl) rfl) DAll.nil))) (All.cons s_pick_every All.nil))))))) (dyn_of (DAll.cons (nm_sound s_pick_finder_find_fn1 (by kernel_rfl) rfl) DAll.nil))) Tryd.func32 Tryd.call32 (fun a0 a1 σ => by kernel_rfl)) _ _ _ rfl rfl
theorem g_pick_finder_find : ∀ n f, Sound Tryd.prog nmT f (fuel (R_pick_finder_find) n (nmT.getD f 0)) :=
 fuel_sound (fun rec hrec => (DAll.cons (nm_sound (w_pick_finder_find rec hrec) (by kernel_rfl) rfl) DAll.nil))
theorem s_pick_finder_find : Sound Tryd.prog nmT 32 m_pick_finder_find := g_pick_finder_find 2000000 32
noncomputable def x_pick_Units : Fx := ⟨Tryd.prog, nmT, A.tab (fun _ _ => none) [(28, m_pick_CheckPresets), (29, m_pick_CheckGroups), (9, m_pick_Check), (27, m_word_First), (30, A.finC (.s 1) m_pick_once), (31, m_pick_finder_missing), (32, m_pick_finder_find)], (fun _ _ _ => none), [4, 7, 13, 15, 17, 20], [37], 108, []⟩
theorem w_pick_Units : Sound Tryd.prog nmT 11 (A.wrap true [(.a [(.s 3), (.s 4)]), (.s 5), (.s 3), (.a [.k, .k, .k, (.s 4)])] .k (A.ar4 (r_pick_Units))) :=
 Sound.wrap (Sound.run4 (X := x_pick_Units) (fn := Tryd.f11) (ann := (.s .n (.s (.s .n (.s .n (.j (.s .n .n) .n))) (.s .n (.s (.s .n (.b (.l [7, 41] [.exit 0] (.s .n (.s (.j .n .n) (.s (.b (.s .n .n)) .n)))))) (.s (.s .n (.b (.l [7, 59] [.exit 2] (.s .n (.s (.j .n .n) (.s (.b (.s .n .n)) .n)))))) (.s (.s .n (.b (.l [7, 74] [.exit 4] (.s .n (.s (.j .n .n) (.s (.b (.s .n (.s .n (.s (.s .n (.b (.l [7, 17, 18, 81] [.exit 6] (.s .n (.s (.j .n .n) (.s (.b (.s .n .n)) .n)))))) .n)))) .n)))))) (.s (.s .n (.j (.s .n .n) .n)) (.s .n .n))))))))) .K trivial (Snd.of rfl (All.cons s_pick_CheckPresets (All.cons s_pick_CheckGroups (All.cons s_pick_Check (All.cons s_word_First (All.cons (Sound.finC s_pick_once (.s 1) rfl) (All.cons s_pick_finder_missing (All.cons s_pick_finder_find All.nil))))))) (fun _ => Sound.none)) Tryd.func11 Tryd.call11 (fun a0 a1 a2 a3 σ => by kernel_rfl)) _ _ _ rfl rfl
theorem s_pick_Units : Sound Tryd.prog nmT 11 m_pick_Units := w_pick_Units
noncomputable def x_pick_text (rec : Nat → List AV → Heap → Option (AV × Heap)) : Fx := ⟨Tryd.prog, nmT, A.tab (fun _ _ => none) [(45, m_strconv_Itoa), (46, rec 461), (21, rec 462)], (fun _ _ _ => none), [1, 6, 9], [], 109, []⟩
theorem w_pick_text (rec : Nat → List AV → Heap → Option (AV × Heap)) (hrec : ∀ f, Sound Tryd.prog nmT f (rec (nmT.getD f 0))) : Sound Tryd.prog nmT 21 (A.wrap true [(.a [.k, .k, .k, (.s 4)])] .k (A.ar1 (r_pick_text rec))) :=
 Sound.wrap (Sound.run1 (X := x_pick_text rec) (fn := Tryd.f21) (ann := (.s .n (.s .n (.s (.s .n (.b (.s .n (.j (.s (.s .n (.j (.s .n .n) .n)) (.s .n .n)) (.s .n (.j (.s .n .n) (.s .n (.j (.s .n .n) (.s .n (.j (.s .n .n) (.s .n (.j (.s .n .n) (.s .n (.j (.s .n .n) (.s .n (.j (.s .n .n) .n)))))))))))))))) (.s .n (.s .n (.s .n (.s (.s .n (.c [1, 5, 6] .n .n)) (.s (.s .n (.c [1, 7] .n .n)) (.s (.s .n (.b (.l [7, 97] [.exit 1] (.s .n (.s (.j .n .n) (.s (.b (.s .n .n)) .n)))))) (.s .n .n))))))))))) .F trivial (Snd.of rfl (All.cons s_strconv_Itoa (All.cons (hrec 46) (All.cons (hrec 21) All.nil))) (fun _ => Sound.none)) Tryd.func21 Tryd.call21 (fun a0 σ => by kernel_rfl)) _ _ _ rfl rfl
noncomputable def x_pick_arg (rec : Nat → List AV → Heap → Option (AV × Heap)) : Fx := ⟨Tryd.prog, nmT, A.tab (fun _ _ => none) [(21, rec 462)], (fun _ _ _ => none), [1], [], 17, []⟩
theorem w_pick_arg (rec : Nat → List AV → Heap → Option (AV × Heap)) (hrec : ∀ f, Sound Tryd.prog nmT f (rec (nmT.getD f 0))) : Sound Tryd.prog nmT 46 (A.wrap true [(.a [.k, .k, .k, (.s 4)])] .k (A.ar1 (r_pick_arg rec))) :=
 Sound.wrap (Sound.run1 (X := x_pick_arg rec) (fn := Tryd.f46) (ann := (.s .n (.s (.s .n (.j (.s .n .n) .n)) (.s .n .n)))) .F trivial (Snd.of rfl (All.cons (hrec 21) All.nil) (fun _ => Sound.none)) Tryd.func46 Tryd.call46 (fun a0 σ => by kernel_rfl)) _ _ _ rfl rfl
theorem g_pick_text : ∀ n f, Sound Tryd.prog nmT f (fuel (R_pick_text) n (nmT.getD f 0)) :=
 fuel_sound (fun rec hrec => (DAll.cons (nm_sound (w_pick_text rec hrec) (by kernel_rfl) rfl) (DAll.cons (nm_sound (w_pick_arg rec hrec) (by kernel_rfl) rfl) DAll.nil)))
theorem s_pick_text : Sound Tryd.prog nmT 21 m_pick_text := g_pick_text 2000000 21
theorem s_pick_Print : Sound Tryd.prog nmT 7 m_pick_Print := q1 [1] 17 (.s .n (.s (.s .n (.s .n (.j (.s .n .n) .n))) (.s .n (.s (.s .n (.j (.s .n .n) .n)) (.s .n .n))))) (All.cons s_pick_Check (All.cons s_pick_text All.nil)) Tryd.func7 Tryd.call7 (fun a0 σ => by kernel_rfl) rfl rfl
theorem s_slices_Index_int : Sound Tryd.prog nmT 33 m_slices_Index_int := q2 [] 19 (.s .n (.s (.s .n (.b (.l [4, 8] [.exit 0, .ret] (.s .n (.s (.j .n .n) (.s (.b (.s .n (.s .n (.j (.s .n .n) .n)))) .n)))))) (.s .n .n))) All.nil Tryd.func33 Tryd.call33 (fun a0 a1 σ => by kernel_rfl) rfl rfl
theorem s_slices_Contains_int : Sound Tryd.prog nmT 12 m_slices_Contains_int := q2 [] 9 (.s .n (.s .n .n)) (All.cons s_slices_Index_int All.nil) Tryd.func12 Tryd.call12 (fun a0 a1 σ => by kernel_rfl) rfl rfl
noncomputable def x_slices_IndexFunc_api_Unit (dyn : Nat → List AV → Heap → Option (AV × Heap)) : Fx := ⟨Tryd.prog, nmT, A.tab (fun _ _ => none) [], dyn, [], [], 19, []⟩
theorem w_slices_IndexFunc_api_Unit (dyn : Nat → List AV → Heap → Option (AV × Heap)) (hd : ∀ f, Sound Tryd.prog nmT f (dyn (nmT.getD f 0))) : Sound Tryd.prog nmT 34 (A.wrap true [(.s 4)] .k (A.ar2 (r_slices_IndexFunc_api_Unit dyn))) :=
 Sound.wrap (Sound.run2 (X := x_slices_IndexFunc_api_Unit dyn) (fn := Tryd.f34) (ann := (.s .n (.s (.s .n (.b (.l [4, 8] [.exit 0, .ret] (.s .n (.s (.j .n .n) (.s (.b (.s .n (.s .n (.j (.s .n .n) .n)))) .n)))))) (.s .n .n)))) .F trivial (Snd.of rfl All.nil (hd)) Tryd.func34 Tryd.call34 (fun a0 a1 σ => by kernel_rfl)) _ _ _ rfl rfl
theorem s_slices_IndexFunc_api_Unit (dyn : Nat → List AV → Heap → Option (AV × Heap)) (hd : ∀ f, Sound Tryd.prog nmT f (dyn (nmT.getD f 0))) : Sound Tryd.prog nmT 34 (m_slices_IndexFunc_api_Unit dyn) := w_slices_IndexFunc_api_Unit dyn hd
noncomputable def x_slices_ContainsFunc_api_Unit (dyn : Nat → List AV → Heap → Option (AV × Heap)) : Fx := ⟨Tryd.prog, nmT, A.tab (fun _ _ => none) [(34, m_slices_IndexFunc_api_Unit dyn)], dyn, [], [], 9, []⟩
theorem w_slices_ContainsFunc_api_Unit (dyn : Nat → List AV → Heap → Option (AV × Heap)) (hd : ∀ f, Sound Tryd.prog nmT f (dyn (nmT.getD f 0))) : Sound Tryd.prog nmT 13 (A.wrap true [(.s 4)] .k (A.ar2 (r_slices_ContainsFunc_api_Unit dyn))) :=
 Sound.wrap (Sound.run2 (X := x_slices_ContainsFunc_api_Unit dyn) (fn := Tryd.f13) (ann := (.s .n (.s .n .n))) .F trivial (Snd.of rfl (All.cons (s_slices_IndexFunc_api_Unit dyn hd) All.nil) (hd)) Tryd.func13 Tryd.call13 (fun a0 a1 σ => by kernel_rfl)) _ _ _ rfl rfl
theorem s_slices_ContainsFunc_api_Unit (dyn : Nat → List AV → Heap → Option (AV × Heap)) (hd : ∀ f, Sound Tryd.prog nmT f (dyn (nmT.getD f 0))) : Sound Tryd.prog nmT 13 (m_slices_ContainsFunc_api_Unit dyn) := w_slices_ContainsFunc_api_Unit dyn hd
theorem s_slices_Equal_int : Sound Tryd.prog nmT 17 m_slices_Equal_int := q2 [] 26 (.s .n (.s (.s .n (.j (.s .n .n) .n)) (.s (.s .n (.b (.l [4, 13] [.exit 0, .ret] (.s .n (.s (.j .n .n) (.s (.b (.s .n (.s .n (.j (.s .n .n) .n)))) .n)))))) (.s .n .n)))) All.nil Tryd.func17 Tryd.call17 (fun a0 a1 σ => by kernel_rfl) rfl rfl
theorem s_W4_PickUnitsAreUnits_fn1 : Sound Tryd.prog nmT 14 m_W4_PickUnitsAreUnits_fn1 := q2 [2] 8 (.s .n (.s .n .n)) All.nil Tryd.func14 Tryd.call14 (fun a0 a1 σ => by kernel_rfl) rfl rfl
noncomputable def x_W4_PickUnitsAreUnits_fn2 : Fx := ⟨Tryd.prog, nmT, A.tab (fun _ _ => none) [(11, m_pick_Units)], (fun _ _ _ => none), [], [], 24, []⟩
theorem w_W4_PickUnitsAreUnits_fn2 : Sound Tryd.prog nmT 15 (A.wrap true [] .k (A.ar5 (r_W4_PickUnitsAreUnits_fn2))) :=
 Sound.wrap (Sound.run5 (X := x_W4_PickUnitsAreUnits_fn2) (fn := Tryd.f15) (ann := (.s .n (.s .n (.s .n .n)))) .K trivial (Snd.of rfl (All.cons s_pick_Units All.nil) (fun _ => Sound.none)) Tryd.func15 Tryd.call15 (fun a0 a1 a2 a3 a4 σ => by kernel_rfl)) _ _ _ rfl rfl
theorem s_W4_PickUnitsAreUnits_fn2 : Sound Tryd.prog nmT 15 m_W4_PickUnitsAreUnits_fn2 := w_W4_PickUnitsAreUnits_fn2
noncomputable def x_W4_PickUnitsAreUnits : Fx := ⟨Tryd.prog, nmT, A.tab (fun _ _ => none) [(11, A.finC (.t [(.s 1), .k]) m_pick_Units), (7, m_pick_Print), (12, m_slices_Contains_int), (13, m_slices_ContainsFunc_api_Unit (A.tab (fun _ _ => none) [(469, m_W4_PickUnitsAreUnits_fn1), (472, m_W4_PickUnitsAreUnits_fn2)])), (16, m_slices_Reverse_int), (17, m_slices_Equal_int)], (A.tab (fun _ _ => none) [(469, m_W4_PickUnitsAreUnits_fn1), (472, m_W4_PickUnitsAreUnits_fn2)]), [], [14], 169, []⟩
theorem w_W4_PickUnitsAreUnits : Sound Tryd.prog nmT 4 (A.wrap true [(.a [(.s 3), (.s 4)]), (.s 5), (.s 3), (.a [.k, .k, .k, (.s 4)])] .k (A.ar4 (r_W4_PickUnitsAreUnits))) :=
 Sound.wrap (Sound.run4 (X := x_W4_PickUnitsAreUnits) (fn := Tryd.f4) (ann := (.s .n (.s .n (.s (.s .n (.s .n (.j (.s .n .n) .n))) (.s (.s .n (.j (.s .n .n) .n)) (.s (.s .n (.b (.l [8, 50] [.exit 0, .ret] (.s .n (.s (.j .n .n) (.s (.b (.s .n (.s .n (.j (.s .n .n) .n)))) .n)))))) (.s .n (.s .n (.s .n (.s .n (.s (.s .n (.j (.s .n .n) .n)) (.s .n (.s (.s .n (.b (.l [22, 109] [.exit 2] (.s .n (.s (.j .n .n) (.s (.b (.s .n (.s .n (.c [22] .n (.s .n (.c [22] .n .n)))))) .n)))))) (.s .n (.s .n .n))))))))))))))) .F trivial (Snd.of rfl (All.cons (Sound.finC s_pick_Units (.t [(.s 1), .k]) rfl) (All.cons s_pick_Print (All.cons s_slices_Contains_int (All.cons (s_slices_ContainsFunc_api_Unit _ (dyn_of (DAll.cons (nm_sound s_W4_PickUnitsAreUnits_fn1 (by kernel_rfl) rfl) (DAll.cons (nm_sound s_W4_PickUnitsAreUnits_fn2 (by kernel_rfl) rfl) DAll.nil)))) (All.cons s_slices_Reverse_int (All.cons s_slices_Equal_int All.nil)))))) (dyn_of (DAll.cons (nm_sound s_W4_PickUnitsAreUnits_fn1 (by kernel_rfl) rfl) (DAll.cons (nm_sound s_W4_PickUnitsAreUnits_fn2 (by kernel_rfl) rfl) DAll.nil)))) Tryd.func4 Tryd.call4 (fun a0 a1 a2 a3 σ => by kernel_rfl)) _ _ _ rfl rfl
theorem s_W4_PickUnitsAreUnits : Sound Tryd.prog nmT 4 m_W4_PickUnitsAreUnits := w_W4_PickUnitsAreUnits
end Go.Proofs.YtkdafecbdncmiaaDoor

namespace Go.Proofs.YtkdafecbdncmiaaDoor
set_option linter.unusedSectionVars false
set_option linter.unusedVariables false
set_option linter.unusedSimpArgs false

theorem bq (s t : ByteArray) : (s == t) = decide (s = t) := by
 obtain ⟨a⟩ := s
 obtain ⟨b⟩ := t
 show (a == b) = _
 rw [Bool.eq_iff_iff]
 simp
section
variable {α β : Type}
theorem cT (t e : Option α) : A.cond (.bool true) t e = t := rfl
theorem cF (t e : Option α) : A.cond (.bool false) t e = e := rfl
theorem gTT (e d : Option α) : A.guard (.bool true) true e d = e := rfl
theorem gTF (e d : Option α) : A.guard (.bool true) false e d = d := rfl
theorem gFT (e d : Option α) : A.guard (.bool false) true e d = d := rfl
theorem gFF (e d : Option α) : A.guard (.bool false) false e d = e := rfl
theorem pT (x y : AV) : A.pick (.bool true) x y = some x := rfl
theorem pF (x y : AV) : A.pick (.bool false) x y = some y := rfl
theorem gDp {p : Prop} [Decidable p] {w : Bool} {e d : Option α} {f : α → Option β} : (A.guard (.bool (decide p)) w e d).bind f = if p then (A.guard (.bool true) w e d).bind f else (A.guard (.bool false) w e d).bind f := by by_cases h : p <;> simp [h]
theorem gDb {b w : Bool} {e d : Option α} {f : α → Option β} : (A.guard (.bool b) w e d).bind f = match b with | true => (A.guard (.bool true) w e d).bind f | false => (A.guard (.bool false) w e d).bind f := by cases b <;> rfl
theorem cDp {p : Prop} [Decidable p] {t e : Option α} : A.cond (.bool (decide p)) t e = if p then t else e := by by_cases h : p <;> simp [h, A.cond]
theorem cDnp {p : Prop} [Decidable p] {t e : Option α} : A.cond (.bool (!decide p)) t e = if p then e else t := by by_cases h : p <;> simp [h, A.cond]
theorem cDn {b : Bool} {t e : Option α} : A.cond (.bool (!b)) t e = match b with | true => e | false => t := by cases b <;> rfl
theorem cDb {b : Bool} {t e : Option α} : A.cond (.bool b) t e = match b with | true => t | false => e := by cases b <;> rfl
theorem gN (w : Bool) (e d : Option α) : A.guard (.tup []) w e d = d := rfl
theorem xN (a b : AX) : (a == b) = decide (a = b) := by rw [Bool.eq_iff_iff]; simp
end
section
variable (k : IntKind) (a b : Int) (p q : Prop) [Decidable p] [Decidable q] (s t : ByteArray) (x y : AV) (σ : Heap) (cs : List AV)
theorem aAdd : A.add (.int .i64 a) (.int .i64 b) = some (.int .i64 (IntKind.i64.wrap (a + b))) := rfl
theorem aSub : A.sub (.int .i64 a) (.int .i64 b) = some (.int .i64 (IntKind.i64.wrap (a - b))) := rfl
theorem aMul : A.mul (.int .i64 a) (.int .i64 b) = some (.int .i64 (IntKind.i64.wrap (a * b))) := rfl
theorem aQuo (h : b ≠ 0) : A.quo (.int .i64 a) (.int .i64 b) = some (.int .i64 (IntKind.i64.wrap (a.tdiv b))) := by simp [A.quo, h]
theorem aRem (h : b ≠ 0) : A.rem (.int .i64 a) (.int .i64 b) = some (.int .i64 (a.tmod b)) := by simp [A.rem, h]
theorem aLss : A.lss (.int .i64 a) (.int .i64 b) = some (.bool (decide (a < b))) := rfl
theorem aLeq : A.leq (.int .i64 a) (.int .i64 b) = some (.bool (decide (a ≤ b))) := rfl
theorem aGtr : A.gtr (.int .i64 a) (.int .i64 b) = some (.bool (decide (b < a))) := rfl
theorem aGeq : A.geq (.int .i64 a) (.int .i64 b) = some (.bool (decide (b ≤ a))) := rfl
theorem aLss8 : A.lss (.int .u8 a) (.int .u8 b) = some (.bool (decide (a < b))) := rfl
theorem aLeq8 : A.leq (.int .u8 a) (.int .u8 b) = some (.bool (decide (a ≤ b))) := rfl
theorem aGtr8 : A.gtr (.int .u8 a) (.int .u8 b) = some (.bool (decide (b < a))) := rfl
theorem aGeq8 : A.geq (.int .u8 a) (.int .u8 b) = some (.bool (decide (b ≤ a))) := rfl
theorem aEq : A.eql .i (.int k a) (.int k b) = some (.bool (decide (a = b))) := by
 simp only [A.eql, A.eqK, A.eqI, if_true, Option.map_some]; congr 2
theorem aNe : A.neq .i (.int k a) (.int k b) = some (.bool (decide (¬ a = b))) := by
 simp only [A.neq, A.eqK, A.eqI, if_true, Option.map_some]
 congr 2
 rw [Bool.eq_iff_iff]; simp
theorem aEqZ : A.eql .z (.str s) (.str t) = some (.bool (decide (s = t))) := by
 simp only [A.eql, A.eqK, A.eqZ, Option.map_some, bq]
theorem aNeZ : A.neq .z (.str s) (.str t) = some (.bool (decide (¬ s = t))) := by
 simp only [A.neq, A.eqK, A.eqZ, Option.map_some, bq]; simp
theorem aNot (b : Bool) : A.not (.bool b) = some (.bool (!b)) := rfl
theorem aNotD : A.not (.bool (decide p)) = some (.bool (decide (¬ p))) := by simp [A.not]
theorem aLb : A.lb (.lbx cs) = some cs := rfl
theorem aExt0 (l : List AV) : A.ext 0 (.tup (x :: l)) = some x := rfl
theorem aExt1 (x0 x : AV) (l : List AV) : A.ext 1 (.tup (x0 :: x :: l)) = some x := rfl
theorem aExt2 (x0 x1 x : AV) (l : List AV) : A.ext 2 (.tup (x0 :: x1 :: x :: l)) = some x := rfl
theorem aExt3 (x0 x1 x2 x : AV) (l : List AV) : A.ext 3 (.tup (x0 :: x1 :: x2 :: x :: l)) = some x := rfl
theorem aDe : A.deref (.rp cs) σ = some cs := rfl
theorem aFa (o : Nat) : A.faddr o (.rp cs) = some (.rp (cs.drop o)) := rfl
theorem aLenZ : A.lenZ (.str s) = some (.int .i64 s.size) := rfl
theorem aCI (n : Int) : A.cell (.int k n) = some (.int k n) := rfl
theorem aCB (b : Bool) : A.cell (.bool b) = some (.bool b) := rfl
theorem aCS : A.cell (.str s) = some (.str s) := rfl
theorem aCSl (sz : Nat) (es : List (List AV)) : A.cell (.sl sz es) = some (.sl sz es) := rfl
theorem p1D (o k : Nat) : A.part1 o (cs.drop k) = A.part1 (k + o) cs := by simp [A.part1, List.getElem?_drop]
end
theorem gd0 (a d : AV) (l : List AV) : (a :: l).getD 0 d = a := rfl
theorem gd1 (a b d : AV) (l : List AV) : (b :: a :: l).getD 1 d = a := rfl
theorem gd2 (a b c d : AV) (l : List AV) : (b :: c :: a :: l).getD 2 d = a := rfl
theorem gd3 (a b c e d : AV) (l : List AV) : (b :: c :: e :: a :: l).getD 3 d = a := rfl
theorem gd4 (a b c e f d : AV) (l : List AV) : (b :: c :: e :: f :: a :: l).getD 4 d = a := rfl
theorem gd5 (a b c e f g d : AV) (l : List AV) : (b :: c :: e :: f :: g :: a :: l).getD 5 d = a := rfl
theorem gd6 (a b c e f g h d : AV) (l : List AV) : (b :: c :: e :: f :: g :: h :: a :: l).getD 6 d = a := rfl
theorem gd7 (a b c e f g h i d : AV) (l : List AV) : (b :: c :: e :: f :: g :: h :: i :: a :: l).getD 7 d = a := rfl
theorem gd8 (a b c e f g h i j d : AV) (l : List AV) : (b :: c :: e :: f :: g :: h :: i :: j :: a :: l).getD 8 d = a := rfl
theorem wrap64 {n : Int} (h : inI n) : IntKind.i64.wrap n = n := IntWalk.i64_in n h
theorem wrap_eq {ro : Bool} {ain : List Sh} {rout : Sh} {r : List AV → Heap → Option (AV × Heap)} {args : List AV} {σ σ' : Heap} {v v' : AV} (h : args.any A.own = false) (e : r (A.nnL ain args) σ = some (v, σ')) (hv : A.nn rout v = v') : A.wrap ro ain rout r args σ = some (v', σ') := by
 unfold A.wrap
 rw [h, Bool.and_false, cond_false, e]
 simp [hv]
theorem scal2_shift {v : AV} (n : Nat) (h : A.scal2 v = true) : A.fresh v = true ∧ A.shift n v = v := by
 cases v <;> first | exact ⟨h, rfl⟩ | cases h
theorem scal_shift {v : AV} (n : Nat) (h : A.scal v = true) : A.freshT v = true ∧ A.shiftT n v = v := by
 have key : (∀ vs, v ≠ .tup vs) → A.freshT v = true ∧ A.shiftT n v = v := by
  intro k
  have := scal2_shift (v := v) n
  cases v <;> first | exact absurd rfl (k _) | exact this h
 by_cases ht : ∃ vs, v = .tup vs
 ·obtain ⟨vs, rfl⟩ := ht
  simp only [A.scal, List.all_eq_true] at h
  refine ⟨by simp only [A.freshT, List.all_eq_true]; exact fun x hx => (scal2_shift n (h x hx)).1, ?_⟩
  simp only [A.shiftT]
  congr 1
  calc vs.map (A.shift n) = vs.map id := List.map_congr_left fun x hx => (scal2_shift n (h x hx)).2
   _ = vs := List.map_id vs
 ·exact key fun vs e => ht ⟨vs, e⟩
theorem wrap_own {ain : List Sh} {rout : Sh} {r : List AV → Heap → Option (AV × Heap)} {args args' : List AV} {σ : Heap} {v : AV} (h : args.any A.own = true) (hz : A.frzL σ 0 8 args = some args') (ho : args'.any A.own = false) (e : A.wrap true ain rout r args' [] = some (v, [])) (hs : A.scal v = true) : A.wrap true ain rout r args σ = some (v, σ) := by
 unfold A.wrap at e ⊢
 rw [ho, Bool.and_false, cond_false] at e
 obtain ⟨⟨q1, q2⟩, e1, e2⟩ := Option.map_eq_some_iff.1 e
 simp only [Prod.mk.injEq] at e2
 obtain ⟨rfl, rfl⟩ := e2
 rw [h, Bool.and_self, cond_true, hz]
 simp [e1, (scal_shift σ.length hs).1, (scal_shift σ.length hs).2]
theorem fin_same (σ : Heap) (r : AV) : A.fin σ r σ = some (r, σ) := by simp [A.fin]
theorem frz_scal1 (σ : Heap) (n d : Nat) {a : AV} (h : A.scal1 a = true) : A.frz σ n d a = some a := by
 cases a <;> simp only [A.scal1] at h <;> first | (cases h; done) | skip
 case sl sz es => cases es with
  | nil => cases d <;> simp [A.frz, A.frzLL]
  | cons _ _ => simp at h
 all_goals cases d <;> simp [A.frz]
theorem frzL_scal1 (σ : Heap) (n d : Nat) : ∀ {l : List AV}, l.all A.scal1 = true → A.frzL σ n d l = some l
 | [], _ => by simp [A.frzL]
 | a :: l, h => by
  simp only [List.all_cons, Bool.and_eq_true] at h
  simp [A.frzL, frz_scal1 σ n d h.1, frzL_scal1 σ n d h.2]
theorem frz_scal2 (σ : Heap) (n d : Nat) {a : AV} (h : A.scal2 a = true) : A.frz σ n d a = some a := by
 unfold A.scal2 at h
 split at h
 ·cases d <;> simp [A.frz, frzL_scal1 σ n _ h]
 ·exact frz_scal1 σ n d h
theorem frzL_scal2 (σ : Heap) (n d : Nat) : ∀ {l : List AV}, l.all A.scal2 = true → A.frzL σ n d l = some l
 | [], _ => by simp [A.frzL]
 | a :: l, h => by
  simp only [List.all_cons, Bool.and_eq_true] at h
  simp [A.frzL, frz_scal2 σ n d h.1, frzL_scal2 σ n d h.2]
theorem frz_scal (σ : Heap) (n d : Nat) {a : AV} (h : A.scal a = true) : A.frz σ n d a = some a := by
 unfold A.scal at h
 split at h
 ·cases d <;> simp [A.frz, frzL_scal2 σ n _ h]
 ·exact frz_scal2 σ n d h
theorem fin_scal (σ bs : Heap) {r : AV} (h : A.scal r = true) : A.fin σ r (σ ++ bs) = some (r, σ) := by
 unfold A.fin
 split
 ·rfl
 ·rw [if_pos (by simp), frz_scal _ _ _ h]; rfl
theorem fin_int (σ bs : Heap) (k : IntKind) (n : Int) : A.fin σ (.int k n) (σ ++ bs) = some (.int k n, σ) := fin_scal σ bs rfl
theorem fin_bool (σ bs : Heap) (b : Bool) : A.fin σ (.bool b) (σ ++ bs) = some (.bool b, σ) := fin_scal σ bs rfl
theorem fin_str (σ bs : Heap) (s : ByteArray) : A.fin σ (.str s) (σ ++ bs) = some (.str s, σ) := fin_scal σ bs rfl
theorem fin_unit (σ bs : Heap) : A.fin σ (.tup []) (σ ++ bs) = some (.tup [], σ) := fin_scal σ bs rfl
theorem hat (σ bs : Heap) (j : Nat) : (σ ++ bs)[σ.length + j]? = bs[j]? := by rw [List.getElem?_append_right (by omega)]; congr 1; omega
theorem hat0 (σ bs : Heap) : (σ ++ bs)[σ.length]? = bs[0]? := by rw [List.getElem?_append_right (Nat.le_refl _), Nat.sub_self]
theorem hset (σ bs : Heap) (j : Nat) (b : Blk) : (σ ++ bs).set (σ.length + j) b = σ ++ bs.set j b := by rw [List.set_append_right _ _ (by omega)]; congr 2; omega
theorem hset0 (σ bs : Heap) (b : Blk) : (σ ++ bs).set σ.length b = σ ++ bs.set 0 b := by rw [List.set_append_right _ _ (Nat.le_refl _), Nat.sub_self]
section
variable {α : Type} (sz : Nat) (c : α → List AV) (l : List α)
theorem lenS_sl : A.lenS (sl sz c l) = some (.int .i64 l.length) := by simp [sl, A.lenS]
theorem iaddr_sl {k : Nat} {x : α} (h : l[k]? = some x) : A.iaddr sz (sl sz c l) (.int .i64 (k : Int)) = some (.rp (c x)) := by
 have hk : k < l.length := (List.getElem?_eq_some_iff.1 h).1
 have hx : l[k] = x := (List.getElem?_eq_some_iff.1 h).2
 simp [A.iaddr, sl, A.idx, hk, hx]
theorem iaddr_int {i : Int} {x : α} (h0 : 0 ≤ i) (h : l[i.toNat]? = some x) : A.iaddr sz (sl sz c l) (.int .i64 i) = some (.rp (c x)) := by
 have := iaddr_sl sz c l h
 rwa [Int.toNat_of_nonneg h0] at this
end
inductive Rd (S R : Type) where
 | go (s : S)
 | out (r : R)
def Rd.el {S R γ : Type} (x : Rd S R) (f : S → γ) (g : R → γ) : γ := match x with | .go s => f s | .out r => g r
theorem el_go {S R γ : Type} (s : S) (f : S → γ) (g : R → γ) : (Rd.go s : Rd S R).el f g = f s := rfl
theorem el_out {S R γ : Type} (r : R) (f : S → γ) (g : R → γ) : (Rd.out r : Rd S R).el f g = g r := rfl
theorem el_ite {S R γ : Type} {p : Prop} [Decidable p] (x y : Rd S R) (f : S → γ) (g : R → γ) : (if p then x else y).el f g = if p then x.el f g else y.el f g := by split <;> rfl
def runP {α S R : Type} (body : List α → α → S → Rd S R) : List α → List α → S → Rd S R
 | _, [], s => .go s
 | pre, x :: l, s => match body pre x s with | .go s' => runP body (pre ++ [x]) l s' | .out r => .out r
theorem iter_loop {f : List AV → Heap → Option (AX × List AV × Heap)} {v : List AV} {σ : Heap} : ∀ {n m : Nat} {r r' : AX × List AV × Heap}, A.iter f n v σ = some r → A.iter f m v σ = some r' → r = r' := by
 intro n
 induction n generalizing v σ with
 | zero => intro m r r' h; cases h
 | succ n ih =>
  intro m r r' h1 h2
  cases m with
  | zero => cases h2
  | succ m =>
   simp only [A.iter] at h1 h2
   cases hf : f v σ with
   | none => rw [hf] at h1; cases h1
   | some q =>
    rw [hf] at h1 h2
    simp only [Option.bind_some] at h1 h2
    obtain ⟨e, v', σ'⟩ := q
    cases e with
    | normal => exact ih h1 h2
    | exit i => simp only at h1 h2; rw [h1] at h2; injection h2
    | ret => simp only at h1 h2; rw [h1] at h2; injection h2
theorem loop_of_iter {f : List AV → Heap → Option (AX × List AV × Heap)} {v : List AV} {σ : Heap} {n : Nat} {r : AX × List AV × Heap} (h : A.iter f n v σ = some r) : A.loop f v σ = some r := by
 have hex : ∃ n r, A.iter f n v σ = some r := ⟨n, r, h⟩
 unfold A.loop
 rw [dif_pos hex]
 exact congrArg some (iter_loop (Classical.choose_spec (Classical.choose_spec hex)) h)
theorem loop_step {f : List AV → Heap → Option (AX × List AV × Heap)} {v v' : List AV} {σ σ' : Heap} {r : AX × List AV × Heap} (h : f v σ = some (.normal, v', σ')) (k : ∃ n, A.iter f n v' σ' = some r) : ∃ n, A.iter f n v σ = some r := by
 obtain ⟨n, k⟩ := k
 exact ⟨n + 1, by simp [A.iter, h, k]⟩
theorem loop_done {f : List AV → Heap → Option (AX × List AV × Heap)} {v : List AV} {σ : Heap} {r : AX × List AV × Heap} (h : f v σ = some r) (hr : r.1 ≠ .normal) : ∃ n, A.iter f n v σ = some r := by
 obtain ⟨e, v', σ'⟩ := r
 refine ⟨1, ?_⟩
 cases e <;> first | (simp [A.iter, h]; done) | exact absurd rfl hr
theorem loop_pre {α S R γ : Type} {f : List AV → Heap → Option (AX × List AV × Heap)} (l : List α) (body : List α → α → S → Rd S R) (st : List α → S → List AV) (hp : List α → S → Heap)
  (fin : S → AX × List AV × Heap) (out : List α → S → R → AX × List AV × Heap) (P : List α → S → Prop) (s0 : S) {k : AX × List AV × Heap → Option γ} (K1 : S → Option γ) (K2 : R → Option γ)
  (hstep : ∀ pre x rest s, l = pre ++ x :: rest → P pre s → f (st pre s) (hp pre s) = some ((body pre x s).el (fun s' => (.normal, st (pre ++ [x]) s', hp (pre ++ [x]) s')) (fun r => out pre s r)))
  (hend : ∀ s, P l s → f (st l s) (hp l s) = some (fin s)) (h0 : P [] s0)
  (hP : ∀ pre x rest s s', l = pre ++ x :: rest → P pre s → body pre x s = .go s' → P (pre ++ [x]) s')
  (hk1 : ∀ s, P l s → k (fin s) = K1 s) (hk2 : ∀ pre x rest s r, l = pre ++ x :: rest → P pre s → body pre x s = .out r → k (out pre s r) = K2 r)
  (hfin : ∀ s, (fin s).1 ≠ .normal := by intros; simp) (hout : ∀ pre s r, (out pre s r).1 ≠ .normal := by intros; simp) {v : List AV} {σ : Heap} (hv : v = st [] s0 := by rfl) (hσ : σ = hp [] s0 := by rfl) :
  (A.loop f v σ).bind k = (runP body [] l s0).el K1 K2 := by
 have key : ∀ (rest pre : List α) (s : S), l = pre ++ rest → P pre s → ∃ q, (∃ n, A.iter f n (st pre s) (hp pre s) = some q) ∧ k q = (runP body pre rest s).el K1 K2 := by
  intro rest
  induction rest with
  | nil =>
   intro pre s hl hp'
   rw [List.append_nil] at hl
   subst hl
   exact ⟨fin s, loop_done (hend s hp') (hfin s), by rw [runP, el_go, hk1 s hp']⟩
  | cons x rest ih =>
   intro pre s hl hp'
   have h := hstep pre x rest s hl hp'
   rw [runP]
   cases hb : body pre x s with
   | go s' =>
    rw [hb] at h
    obtain ⟨q, h1, h2⟩ := ih (pre ++ [x]) s' (by simpa using hl) (hP pre x rest s s' hl hp' hb)
    exact ⟨q, loop_step h h1, h2⟩
   | out r =>
    rw [hb] at h
    exact ⟨out pre s r, loop_done h (hout pre s r), by rw [el_out, hk2 pre x rest s r hl hp' hb]⟩
 obtain ⟨q, ⟨n, h1⟩, h2⟩ := key l [] s0 rfl h0
 rw [hv, hσ, loop_of_iter h1, Option.bind_some, h2]
theorem runP_fault {α : Type} {body : List α → α → Unit → Rd Unit Int} {chk : List α → List α → Int} (h0 : ∀ pre, chk pre [] = 0) (h : ∀ pre x rest, chk pre (x :: rest) = (body pre x ()).el (fun _ => chk (pre ++ [x]) rest) (fun r => r)) {γ : Type} (K : Int → γ) :
  ∀ (l pre : List α), (runP body pre l ()).el (fun _ => K 0) K = K (chk pre l)
 | [], pre => by rw [runP, h0]; rfl
 | x :: l, pre => by
  rw [runP, h]
  cases body pre x () with
  | go s => exact runP_fault h0 h K l (pre ++ [x])
  | out r => rfl
theorem pre_get {α : Type} {l pre rest : List α} {x : α} (h : l = pre ++ x :: rest) : l[pre.length]? = some x := by rw [h]; simp
theorem pre_lt {α : Type} {l pre rest : List α} {x : α} (h : l = pre ++ x :: rest) : pre.length < l.length := by rw [h]; simp
theorem pre_last {α : Type} {l pre rest : List α} {x : α} (h : l = pre ++ x :: rest) (h0 : 0 < pre.length) : ∃ y, pre.getLast? = some y ∧ l[pre.length - 1]? = some y := by
 cases hp : pre.getLast? with
 | none => rw [List.getLast?_eq_none_iff] at hp; subst hp; simp at h0
 | some y =>
  refine ⟨y, rfl, ?_⟩
  rw [h, List.getElem?_append_left (by omega), ← hp, List.getLast?_eq_getElem?]
theorem all_loop {γ : Type} {p : UInt8 → Bool} {f : List AV → Heap → Option (AX × List AV × Heap)} (s : ByteArray) {σ : Heap} {k : AX × List AV × Heap → Option γ} (K2 : Option γ)
  (hstep : ∀ (i : Nat) (c : UInt8), i < s.size → A.sidx (.str s) (.int .i64 (i : Int)) = some (.int .u8 c.toNat) → f [.bool false, .int .i64 (i : Int)] σ = if p c = true then some (.normal, [.bool false, .int .i64 ((i : Int) + 1)], σ) else some (.ret, [.bool false, .int .i64 (i : Int)], σ))
  (hend : f [.bool false, .int .i64 (s.size : Int)] σ = some (.exit 0, [.bool false, .int .i64 (s.size : Int)], σ)) (hk2 : ∀ i : Int, k (.ret, [.bool false, .int .i64 i], σ) = K2) :
  (A.loop f [.bool false, .int .i64 0] σ).bind k = if s.data.toList.all p = true then k (.exit 0, [.bool false, .int .i64 (s.size : Int)], σ) else K2 := by
 have hsz : s.data.toList.length = s.size := rfl
 refine (loop_pre (S := Unit) (R := Unit) s.data.toList (fun _ c _ => if p c = true then .go () else .out ()) (fun pre _ => [.bool false, .int .i64 (pre.length : Int)]) (fun _ _ => σ) (fun _ => (.exit 0, [.bool false, .int .i64 (s.size : Int)], σ)) (fun pre _ _ => (.ret, [.bool false, .int .i64 (pre.length : Int)], σ)) (fun _ _ => True) ()
  (fun _ => k (.exit 0, [.bool false, .int .i64 (s.size : Int)], σ)) (fun _ => K2) ?_ ?_ trivial (fun _ _ _ _ _ _ _ _ => trivial) (fun _ _ => rfl) (fun _ _ _ _ _ _ _ _ => hk2 _)).trans ?_
 ·intro pre c rest u hl _
  have hlt := pre_lt hl
  have hc := pre_get hl
  rw [hsz] at hlt
  have hsi : A.sidx (.str s) (.int .i64 (pre.length : Int)) = some (.int .u8 c.toNat) := by
   have h2 : s[pre.length] = c := (List.getElem?_eq_some_iff.1 hc).2
   simp [A.sidx, A.idx, hlt, h2]
  rw [hstep pre.length c hlt hsi]
  cases p c <;> simp [Rd.el]
 ·intro u _; rw [hsz]; exact hend
 ·have key : ∀ (l pre : List UInt8), (runP (fun (_ : List UInt8) c (_ : Unit) => if p c = true then (Rd.go () : Rd Unit Unit) else .out ()) pre l ()).el (fun _ => k (.exit 0, [.bool false, .int .i64 (s.size : Int)], σ)) (fun _ => K2) = if l.all p = true then k (.exit 0, [.bool false, .int .i64 (s.size : Int)], σ) else K2 := by
   intro l
   induction l with
   | nil => intro pre; simp [runP, Rd.el]
   | cons c l ih =>
    intro pre
    rw [runP]
    cases hc : p c
    ·simp [hc, Rd.el]
    ·simp only [if_true]
     rw [ih]
     simp [hc]
  exact key s.data.toList []
section
variable {α : Type} (g : α → ByteArray) (gi : α → Int) (v : α → AV)
theorem find_z (k : ByteArray) : ∀ (l : List α), A.find .z (.str k) (l.map fun x => (AV.str (g x), v x)) = some ((l.find? fun x => decide (k = g x)).map v)
 | [] => rfl
 | x :: l => by
  simp only [List.map_cons, A.find, A.eqK, A.eqZ, Option.bind_some, List.find?]
  by_cases h : k = g x
  ·rw [bq]; simp [h]
  ·rw [bq]; simp [h, find_z k l]
theorem find_i (kk : IntKind) (k : Int) : ∀ (l : List α), A.find .i (.int kk k) (l.map fun x => (AV.int kk (gi x), v x)) = some ((l.find? fun x => decide (k = gi x)).map v)
 | [] => rfl
 | x :: l => by
  simp only [List.map_cons, A.find, A.eqK, A.eqI, if_true, Option.bind_some, List.find?]
  by_cases h : k = gi x
  ·have : (k == gi x) = true := by simpa using h
   simp [this, h]
  ·have : (k == gi x) = false := by simpa using h
   simp [this, h, find_i kk k l]
theorem upd_z {k : ByteArray} {w : AV} : ∀ {l : List α}, (∀ x ∈ l, g x ≠ k) → A.upd .z (.str k) w (l.map fun x => (AV.str (g x), v x)) = some ((l.map fun x => (AV.str (g x), v x)) ++ [(.str k, w)])
 | [], _ => rfl
 | x :: l, h => by
  have h1 : (k == g x) = false := by rw [bq]; exact decide_eq_false fun e : k = g x => h x (by simp) e.symm
  simp only [List.map_cons, A.upd, A.eqK, A.eqZ, Option.bind_some, h1, cond_false]
  rw [upd_z (fun y hy => h y (by simp [hy]))]
  rfl
theorem upd_i {kk : IntKind} {k : Int} {w : AV} : ∀ {l : List α}, (∀ x ∈ l, gi x ≠ k) → A.upd .i (.int kk k) w (l.map fun x => (AV.int kk (gi x), v x)) = some ((l.map fun x => (AV.int kk (gi x), v x)) ++ [(.int kk k, w)])
 | [], _ => rfl
 | x :: l, h => by
  have h1 : (k == gi x) = false := by simpa using fun e : k = gi x => h x (by simp) e.symm
  simp only [List.map_cons, A.upd, A.eqK, A.eqI, if_true, Option.bind_some, h1, cond_false]
  rw [upd_i (fun y hy => h y (by simp [hy]))]
  rfl
end
theorem look_at (e : A.EK) {k z : AV} {σ : Heap} {id : Nat} {es : List (AV × AV)} (hk : A.keyOk e k = true) (h : σ[id]? = some (.map es)) : A.look e (.om id) k z σ = (A.find e k es).map fun r => r.getD z := by
 simp [A.look, hk, A.entries, h]
theorem mupd_at (e : A.EK) {k w : AV} {σ : Heap} {id : Nat} {es : List (AV × AV)} (hk : A.keyOk e k = true) (h : σ[id]? = some (.map es)) : A.mupd e (.om id) k w σ = (A.upd e k w es).map fun es => σ.set id (.map es) := by
 simp [A.mupd, hk, h]
theorem len_snoc {α : Type} (l : List α) (x : α) : (((l ++ [x]).length : Nat) : Int) = (l.length : Int) + 1 := by simp
theorem iaddr_pred {α : Type} (sz : Nat) (c : α → List AV) (l : List α) {k : Nat} {x : α} (h0 : 0 < k) (h : l[k - 1]? = some x) : A.iaddr sz (sl sz c l) (.int .i64 ((k : Int) - 1)) = some (.rp (c x)) := by
 have := iaddr_sl sz c l h
 rwa [show ((k - 1 : Nat) : Int) = (k : Int) - 1 by omega] at this
def setZ {α : Type} (g : α → ByteArray) (l : List α) : List (AV × AV) := l.map fun x => (AV.str (g x), AV.bool true)
def setI {α : Type} (g : α → Int) (l : List α) : List (AV × AV) := l.map fun x => (AV.int .i64 (g x), AV.bool true)
theorem any_find {α : Type} (p : α → Bool) : ∀ (l : List α), ((l.find? p).map fun _ => AV.bool true).getD (AV.bool false) = AV.bool (l.any p)
 | [] => rfl
 | x :: l => by
  simp only [List.find?, List.any_cons]
  cases h : p x
  ·simpa using any_find p l
  ·rfl
theorem setZ_find {α : Type} (g : α → ByteArray) (k : ByteArray) (l : List α) : (A.find .z (.str k) (setZ g l)).map (fun r => r.getD (.bool false)) = some (.bool (memB k (l.map g))) := by
 unfold setZ
 rw [find_z g (fun _ => AV.bool true) k l, Option.map_some, any_find]
 refine congrArg some (congrArg AV.bool ?_)
 rw [Bool.eq_iff_iff, memB_iff]
 simp only [List.any_eq_true, decide_eq_true_eq, List.mem_map]
 exact ⟨fun ⟨x, h, e⟩ => ⟨x, h, e.symm⟩, fun ⟨x, h, e⟩ => ⟨x, h, e.symm⟩⟩
theorem setI_find {α : Type} (g : α → Int) (k : Int) (l : List α) : (A.find .i (.int .i64 k) (setI g l)).map (fun r => r.getD (.bool false)) = some (.bool (memB k (l.map g))) := by
 unfold setI
 rw [find_i g (fun _ => AV.bool true) .i64 k l, Option.map_some, any_find]
 refine congrArg some (congrArg AV.bool ?_)
 rw [Bool.eq_iff_iff, memB_iff]
 simp only [List.any_eq_true, decide_eq_true_eq, List.mem_map]
 exact ⟨fun ⟨x, h, e⟩ => ⟨x, h, e.symm⟩, fun ⟨x, h, e⟩ => ⟨x, h, e.symm⟩⟩
section
variable {α : Type} (g : α → ByteArray) (gi : α → Int) (l : List α) (k : ByteArray) (n : Int) (σ bs : Heap) (b0 : Blk)
theorem setZ_look0 : A.look .z (.om σ.length) (.str k) (.bool false) (σ ++ Blk.map (setZ g l) :: bs) = some (.bool (memB k (l.map g))) := by
 rw [look_at .z rfl (by rw [hat0]; rfl), setZ_find]
theorem setI_look0 : A.look .i (.om σ.length) (.int .i64 n) (.bool false) (σ ++ Blk.map (setI gi l) :: bs) = some (.bool (memB n (l.map gi))) := by
 rw [look_at .i rfl (by rw [hat0]; rfl), setI_find]
theorem setZ_look1 : A.look .z (.om (σ.length + 1)) (.str k) (.bool false) (σ ++ b0 :: Blk.map (setZ g l) :: bs) = some (.bool (memB k (l.map g))) := by
 rw [look_at .z rfl (by rw [hat]; rfl), setZ_find]
theorem setI_look1 : A.look .i (.om (σ.length + 1)) (.int .i64 n) (.bool false) (σ ++ b0 :: Blk.map (setI gi l) :: bs) = some (.bool (memB n (l.map gi))) := by
 rw [look_at .i rfl (by rw [hat]; rfl), setI_find]
theorem setZ_upd0 (h : memB k (l.map g) = false) : A.mupd .z (.om σ.length) (.str k) (.bool true) (σ ++ Blk.map (setZ g l) :: bs) = some (σ ++ Blk.map (setZ g l ++ [(.str k, .bool true)]) :: bs) := by
 rw [mupd_at .z rfl (by rw [hat0]; rfl), setZ, upd_z g _ (fun x hx e => memB_false.1 h (by rw [← e]; exact List.mem_map_of_mem hx)), Option.map_some, hset0]; rfl
theorem setI_upd0 (h : memB n (l.map gi) = false) : A.mupd .i (.om σ.length) (.int .i64 n) (.bool true) (σ ++ Blk.map (setI gi l) :: bs) = some (σ ++ Blk.map (setI gi l ++ [(.int .i64 n, .bool true)]) :: bs) := by
 rw [mupd_at .i rfl (by rw [hat0]; rfl), setI, upd_i gi _ (fun x hx e => memB_false.1 h (by rw [← e]; exact List.mem_map_of_mem hx)), Option.map_some, hset0]; rfl
theorem setZ_upd1 (h : memB k (l.map g) = false) : A.mupd .z (.om (σ.length + 1)) (.str k) (.bool true) (σ ++ b0 :: Blk.map (setZ g l) :: bs) = some (σ ++ b0 :: Blk.map (setZ g l ++ [(.str k, .bool true)]) :: bs) := by
 rw [mupd_at .z rfl (by rw [hat]; rfl), setZ, upd_z g _ (fun x hx e => memB_false.1 h (by rw [← e]; exact List.mem_map_of_mem hx)), Option.map_some, hset]; rfl
theorem setI_upd1 (h : memB n (l.map gi) = false) : A.mupd .i (.om (σ.length + 1)) (.int .i64 n) (.bool true) (σ ++ b0 :: Blk.map (setI gi l) :: bs) = some (σ ++ b0 :: Blk.map (setI gi l ++ [(.int .i64 n, .bool true)]) :: bs) := by
 rw [mupd_at .i rfl (by rw [hat]; rfl), setI, upd_i gi _ (fun x hx e => memB_false.1 h (by rw [← e]; exact List.mem_map_of_mem hx)), Option.map_some, hset]; rfl
end
theorem setZ_snoc {α : Type} (g : α → ByteArray) (l : List α) (x : α) : setZ g (l ++ [x]) = setZ g l ++ [(.str (g x), .bool true)] := by simp [setZ]
theorem quiet_same (σ : Heap) (v : AV) : A.quiet (some (v, σ)) σ = some v := by simp [A.quiet]
def Fz (a : AV) : Prop := ∀ σ n d, A.frz σ n d a = some a
def FzL (l : List AV) : Prop := ∀ σ n d, A.frzL σ n d l = some l
theorem fz_int (k : IntKind) (n : Int) : Fz (.int k n) := fun _ _ d => by cases d <;> simp [A.frz]
theorem fz_bool (b : Bool) : Fz (.bool b) := fun _ _ d => by cases d <;> simp [A.frz]
theorem fz_str (s : ByteArray) : Fz (.str s) := fun _ _ d => by cases d <;> simp [A.frz]
theorem fz_nsl : Fz .nsl := fun _ _ d => by cases d <;> simp [A.frz]
theorem fz_agg {l : List AV} (h : FzL l) : Fz (.agg l) := fun σ n d => by cases d <;> simp [A.frz, h σ n]
theorem fzL_nil : FzL [] := fun _ _ _ => by simp [A.frzL]
theorem fzL_cons {a : AV} {l : List AV} (h : Fz a) (k : FzL l) : FzL (a :: l) := fun σ n d => by simp [A.frzL, h σ n d, k σ n d]
theorem fz_sl {α : Type} {sz : Nat} {c : α → List AV} (h : ∀ x, FzL (c x)) (l : List α) : Fz (sl sz c l) := by
 intro σ n d
 have : A.frzLL σ n d (l.map c) = some (l.map c) := by
  induction l with
  | nil => simp [A.frzLL]
  | cons x l ih => simp [A.frzLL, h x σ n d, ih]
 cases d <;> simp [sl, A.frz, this]
theorem fzLL {α : Type} {c : α → List AV} (h : ∀ x, FzL (c x)) (l : List α) (σ : Heap) (n d : Nat) : A.frzLL σ n d (l.map c) = some (l.map c) := by
 induction l with
 | nil => simp [A.frzLL]
 | cons x l ih => simp [A.frzLL, h x σ n d, ih]
def ownV {α : Type} (id sz : Nat) (l : List α) : AV := if l = [] then .nsl else .os id l.length sz 0 l.length
def ownB {α : Type} (sz : Nat) (c : α → List AV) (l : List α) : Heap := if l = [] then [] else [.arr l.length sz (l.map c)]
theorem ownB_nil {α : Type} (sz : Nat) (c : α → List AV) : ownB sz c [] = [] := rfl
theorem own_append {α : Type} {sz most : Nat} (c : α → List AV) (l : List α) (x : α) (σ : Heap) (h : l.length + 1 ≤ most) : A.append sz most (ownV σ.length sz l) (.sl sz [c x]) (σ ++ ownB sz c l) = some (ownV σ.length sz (l ++ [x]), σ ++ ownB sz c (l ++ [x])) := by
 unfold ownV ownB
 cases l with
 | nil =>
  have h1 : 1 ≤ most := by simpa using h
  simp [A.append, A.appendL, A.elems, h1]
 | cons y l =>
  have h1 : l.length + 1 + 1 ≤ most := by simpa using h
  simp [A.append, A.appendL, A.elems, h1, hat0, hset0, Nat.add_assoc, List.take_of_length_le]
theorem own_frz {α : Type} {sz : Nat} {c : α → List AV} (hc : ∀ x, FzL (c x)) (l : List α) (σ : Heap) (d : Nat) : A.frz (σ ++ ownB sz c l) σ.length (d + 1) (ownV σ.length sz l) = some (if l = [] then .nsl else sl sz c l) := by
 unfold ownV ownB
 split
 ·simp [A.frz]
 ·rename_i hl
  simp only [A.frz, Nat.lt_irrefl, if_false, hat0, List.getElem?_cons_zero]
  rw [if_pos (by simp)]
  have e : (List.take l.length (List.drop 0 (l.map c))) = l.map c := by simp [List.take_of_length_le]
  rw [e, frzLL_eq, fzLL hc]
  rfl
theorem fin_own2 {α : Type} {sz : Nat} {c : α → List AV} (hc : ∀ x, FzL (c x)) (l : List α) (k : IntKind) (n : Int) (σ : Heap) : A.fin σ (.tup [ownV σ.length sz l, .int k n]) (σ ++ ownB sz c l) = some (.tup [if l = [] then .nsl else sl sz c l, .int k n], σ) := by
 unfold A.fin
 split
 ·rename_i h
  have : ownB sz c l = [] := by simpa using h
  have hl : l = [] := by
   unfold ownB at this
   split at this
   ·assumption
   ·cases this
  subst hl; rfl
 ·rw [if_pos (by simp)]
  have : A.frz (σ ++ ownB sz c l) σ.length 8 (.tup [ownV σ.length sz l, .int k n]) = some (.tup [if l = [] then .nsl else sl sz c l, .int k n]) := by
   simp only [A.frz, A.frzL, own_frz hc, fz_int k n _ _ _, Option.bind_some, Option.map_some]
  rw [this]; rfl
theorem nn_own {α : Type} (sz : Nat) (c : α → List AV) (l : List α) : A.nn (.s sz) (if l = [] then .nsl else sl sz c l) = sl sz c l := by
 split
 ·rename_i h; subst h; rfl
 ·rfl
def idxI {α : Type} (p : α → Bool) (l : List α) : Int := match l.findIdx? p with | some i => i | none => -1
theorem idxI_cases {α : Type} (p : α → Bool) (l : List α) : (idxI p l = -1 ∧ (∀ x ∈ l, p x = false) ∧ l.find? p = none) ∨ ∃ (k : Nat) (x : α), l[k]? = some x ∧ p x = true ∧ idxI p l = k ∧ l.find? p = some x ∧ ∀ (j : Nat) (y : α), j < k → l[j]? = some y → p y = false := by
 induction l with
 | nil => left; exact ⟨rfl, by simp, rfl⟩
 | cons x l ih =>
  cases h : p x
  ·rcases ih with ⟨h1, h2, h3⟩ | ⟨k, y, h1, h2, h3, h4, h5⟩
   ·left
    refine ⟨?_, ?_, ?_⟩
    ·unfold idxI at h1 ⊢
     rw [List.findIdx?_cons, h]
     cases hf : l.findIdx? p with
     | none => simp
     | some i => rw [hf] at h1; simp at h1
    ·intro y hy
     rcases List.mem_cons.1 hy with rfl | hy
     ·exact h
     ·exact h2 y hy
    ·simp [List.find?, h, h3]
   ·right
    refine ⟨k + 1, y, by simpa using h1, h2, ?_, by simp [List.find?, h, h4], ?_⟩
    ·unfold idxI at h3 ⊢
     rw [List.findIdx?_cons, h]
     cases hf : l.findIdx? p with
     | none => rw [hf] at h3; simp at h3
     | some i => rw [hf] at h3; simp at h3 ⊢; omega
    ·intro j z hj hz
     cases j with
     | zero => simp at hz; subst hz; exact h
     | succ j => exact h5 j z (by omega) (by simpa using hz)
  ·right
   refine ⟨0, x, rfl, h, ?_, by simp [List.find?, h], by intro j y hj; omega⟩
   unfold idxI
   rw [List.findIdx?_cons, h]; rfl
theorem idxI_run {α : Type} {γ : Type} (p : α → Bool) (K1 : Option γ) (K2 : Int → Option γ) : ∀ (l pre : List α), (∀ x ∈ pre, p x = false) → (runP (fun pre x (_ : Unit) => if p x = true then (Rd.out (pre.length : Int) : Rd Unit Int) else .go ()) pre l ()).el (fun _ => K1) K2 = if idxI p (pre ++ l) = -1 then K1 else K2 (idxI p (pre ++ l))
 | [], pre, h => by
  have : idxI p (pre ++ []) = -1 := by
   rcases idxI_cases p (pre ++ []) with h1 | ⟨k, x, h1, h2, _⟩
   ·exact h1.1
   ·have := h x (by have := List.mem_of_getElem? h1; simpa using this)
    rw [h2] at this; cases this
  rw [runP, el_go, if_pos this]
 | x :: l, pre, h => by
  rw [runP]
  cases hx : p x
  ·simp only [Bool.false_eq_true, if_false]
   have := idxI_run p K1 K2 l (pre ++ [x]) (fun y hy => by
    rcases List.mem_append.1 hy with hy | hy
    ·exact h y hy
    ·simp at hy; subst hy; exact hx)
   simpa using this
  ·simp only [if_true, el_out]
   have : idxI p (pre ++ x :: l) = pre.length := by
    rcases idxI_cases p (pre ++ x :: l) with h1 | ⟨k, y, h1, h2, h3, _, h5⟩
    ·have := h1.2.1 x (by simp); rw [hx] at this; cases this
    ·rw [h3]
     rcases Nat.lt_trichotomy k pre.length with hk | hk | hk
     ·rw [List.getElem?_append_left hk] at h1
      have := h y (List.mem_of_getElem? h1); rw [h2] at this; cases this
     ·omega
     ·have := h5 pre.length x hk (by simp); rw [hx] at this; cases this
   rw [this, if_neg (by omega)]
theorem sliceS_take {α : Type} (sz : Nat) (c : α → List AV) (l : List α) {k : Nat} (h : k ≤ l.length) {σ : Heap} : A.sliceS sz (sl sz c l) none (some (.int .i64 (k : Int))) σ = some (sl sz c (l.take k)) := by
 simp [A.sliceS, sl, A.bound, h, List.map_take]
theorem setI_fold (l : List Int) (n : Int) : setI id l ++ [(.int .i64 n, .bool true)] = setI id (l ++ [n]) := by simp [setI]
theorem memB_snoc {κ : Type} [DecidableEq κ] (k x : κ) (S : List κ) : memB k (S ++ [x]) = (memB k S || decide (x = k)) := by simp [memB]
theorem nn_e {α : Type} {sz : Nat} {c : α → List AV} {sh : List Sh} (h : ∀ x, A.nnL sh (c x) = c x) (l : List α) : A.nn (.e sz sh) (sl sz c l) = sl sz c l := by
 simp only [sl, A.nn, List.map_map]
 congr 1
 exact List.map_congr_left fun x _ => h x
theorem iaddr_at {α : Type} (sz : Nat) (c : α → List AV) {l : List α} {k : Nat} {x : α} (h : l[k]? = some x) : A.iaddr sz (sl sz c l) (.int .i64 (k : Int)) = some (.rp (c x)) ∧ (k : Int) < (l.length : Int) ∧ (l.length ≤ mxl → IntKind.i64.wrap ((k : Int) + 1) = (k : Int) + 1) :=
 ⟨iaddr_sl sz c l h, by have := (List.getElem?_eq_some_iff.1 h).1; omega, fun hl => wrap64 (by have := (List.getElem?_eq_some_iff.1 h).1; unfold inI; unfold mxl at hl; omega)⟩
theorem loop_find {α γ : Type} {f : List AV → Heap → Option (AX × List AV × Heap)} (l : List α) (p : α → Bool) (vs : Nat → List AV) (σ : Heap) (fin : AX × List AV × Heap) (ret : Nat → α → AX × List AV × Heap) {k : AX × List AV × Heap → Option γ} (K1 : Option γ) (K2 : α → Option γ)
  (hstep : ∀ (i : Nat) (x : α), l[i]? = some x → f (vs i) σ = if p x = true then some (ret i x) else some (.normal, vs (i + 1), σ)) (hend : f (vs l.length) σ = some fin) (hk1 : k fin = K1) (hk2 : ∀ i x, k (ret i x) = K2 x)
  (hfin : fin.1 ≠ .normal := by simp) (hret : ∀ i x, (ret i x).1 ≠ .normal := by intros; simp) {v : List AV} {σ' : Heap} (hv : v = vs 0 := by rfl) (hσ : σ' = σ := by rfl) :
  (A.loop f v σ').bind k = (l.find? p).elim K1 K2 := by
 subst hv hσ
 have run : ∀ (l pre : List α), (runP (fun _ x (_ : Unit) => if p x = true then (Rd.out x : Rd Unit α) else .go ()) pre l ()).el (fun _ => K1) K2 = (l.find? p).elim K1 K2 := by
  intro l
  induction l with
  | nil => intro pre; rfl
  | cons x l ih =>
   intro pre
   rw [runP]
   cases h : p x
   ·simp only [Bool.false_eq_true, if_false]
    rw [ih, List.find?_cons, h]
   ·simp [h, Rd.el]
 refine (loop_pre (S := Unit) (R := α) l (fun _ x _ => if p x = true then .out x else .go ()) (fun pre _ => vs pre.length) (fun _ _ => σ') (fun _ => fin) (fun pre _ x => ret pre.length x) (fun _ _ => True) () (fun _ => K1) K2
  ?_ (fun _ _ => hend) trivial (fun _ _ _ _ _ _ _ _ => trivial) (fun _ _ => hk1) (fun _ _ _ _ _ _ _ _ => hk2 _ _) (fun _ => hfin) (fun _ _ _ => hret _ _)).trans (run l [])
 intro pre x rest u hl _
 rw [hstep pre.length x (pre_get hl)]
 cases p x <;> simp [Rd.el]
theorem hend_lss {α : Type} (n : Int) (B : AV → Option α) (s : Option α) : ((A.lss (.int .i64 n) (.int .i64 n)).bind fun x => A.cond x (B x) s) = s := by
 simp only [aLss, Int.lt_irrefl, Option.bind_some, decide_false, cF]
section
variable {α β : Type}
theorem cond_lazy {c c' : AV} (h : c = c') (t e : Option α) : A.cond c t e = A.cond c' t e := by rw [h]
theorem guard_lazy {c c' : AV} (h : c = c') (w : Bool) (e d : Option α) : A.guard c w e d = A.guard c' w e d := by rw [h]
theorem bind_lazy {x y : Option α} (h : x = y) (f : α → Option β) : x.bind f = y.bind f := by rw [h]
attribute [congr] cond_lazy guard_lazy bind_lazy
end
theorem MSb : type_of% @Option.bind_some.{0,0} ∧ type_of% @Option.map_some.{0,0} ∧ type_of% @cT ∧ type_of% @cF ∧ type_of% @gTT ∧ type_of% @gTF ∧ type_of% @gFT ∧ type_of% @gFF ∧ type_of% @gN ∧ type_of% @pT ∧ type_of% @pF ∧ type_of% @cond_true.{1} ∧ type_of% @cond_false.{1} ∧ type_of% @xN ∧ type_of% @aAdd ∧ type_of% @aSub ∧ type_of% @aMul ∧ type_of% @aLss ∧ type_of% @aLeq ∧ type_of% @aGtr ∧ type_of% @aGeq ∧ type_of% @aLss8 ∧ type_of% @aLeq8 ∧ type_of% @aGtr8 ∧ type_of% @aGeq8 ∧ type_of% @aEq ∧ type_of% @aNe ∧ type_of% @aEqZ ∧ type_of% @aNeZ ∧ type_of% @aNot ∧ type_of% @aNotD ∧ type_of% @aLb ∧ type_of% @aExt0 ∧ type_of% @aExt1 ∧ type_of% @aExt2 ∧ type_of% @aExt3 ∧ type_of% @aDe ∧ type_of% @aFa ∧ type_of% @aLenZ ∧ type_of% @aCI ∧ type_of% @aCB ∧ type_of% @aCS ∧ type_of% @aCSl ∧ type_of% @p1D ∧ type_of% @gd0 ∧ type_of% @gd1 ∧ type_of% @gd2 ∧ type_of% @gd3 ∧ type_of% @gd4 ∧ type_of% @gd5 ∧ type_of% @gd6 ∧ type_of% @gd7 ∧ type_of% @gd8 ∧ type_of% @fin_same ∧ type_of% @fin_int ∧ type_of% @fin_bool ∧ type_of% @fin_str ∧ type_of% @fin_unit ∧ type_of% @lenS_sl ∧ type_of% @ite_true.{1} ∧ type_of% @ite_false.{1} ∧ type_of% @if_true.{1} ∧ type_of% @if_false.{1} ∧ type_of% @Bool.false_eq_true ∧ type_of% @not_true_eq_false ∧ type_of% @not_false_eq_true ∧ type_of% @decide_true ∧ type_of% @decide_false ∧ type_of% @Bool.not_true ∧ type_of% @Bool.not_false ∧ type_of% @List.append_assoc.{0} ∧ type_of% @List.cons_append.{0} ∧ type_of% @List.nil_append.{0} ∧ type_of% @List.drop_zero.{0} ∧ type_of% @p1_cInt ∧ type_of% @p1_cStr ∧ type_of% @len_snoc ∧ type_of% @Int.natCast_add ∧ type_of% @Int.cast_ofNat_Int ∧ type_of% @quiet_same ∧ type_of% @el_go ∧ type_of% @el_out ∧ type_of% @el_ite ∧ type_of% @setZ_look0 ∧ type_of% @setI_look0 ∧ type_of% @setZ_look1 ∧ type_of% @setI_look1 ∧ type_of% @setZ_snoc ∧ type_of% @setZ_upd0 ∧ type_of% @setI_upd0 ∧ type_of% @setZ_upd1 ∧ type_of% @setI_upd1 ∧ type_of% @true_and ∧ type_of% @and_true ∧ type_of% @false_and ∧ type_of% @and_false ∧ type_of% @true_or ∧ type_of% @or_true ∧ type_of% @false_or ∧ type_of% @or_false ∧ type_of% @Option.getD_some.{0} ∧ type_of% @Option.getD_none.{0} ∧ type_of% @List.length_append.{0} ∧ type_of% @List.length_cons.{0} ∧ type_of% @List.length_nil.{0} ∧ type_of% @Nat.zero_add ∧ type_of% @Nat.add_zero :=
 ⟨@Option.bind_some.{0,0}, @Option.map_some.{0,0}, @cT, @cF, @gTT, @gTF, @gFT, @gFF, @gN, @pT, @pF, @cond_true.{1}, @cond_false.{1}, @xN, @aAdd, @aSub, @aMul, @aLss, @aLeq, @aGtr, @aGeq, @aLss8, @aLeq8, @aGtr8, @aGeq8, @aEq, @aNe, @aEqZ, @aNeZ, @aNot, @aNotD, @aLb, @aExt0, @aExt1, @aExt2, @aExt3, @aDe, @aFa, @aLenZ, @aCI, @aCB, @aCS, @aCSl, @p1D, @gd0, @gd1, @gd2, @gd3, @gd4, @gd5, @gd6, @gd7, @gd8, @fin_same, @fin_int, @fin_bool, @fin_str, @fin_unit, @lenS_sl, @ite_true.{1}, @ite_false.{1}, @if_true.{1}, @if_false.{1}, @Bool.false_eq_true, @not_true_eq_false, @not_false_eq_true, @decide_true, @decide_false, @Bool.not_true, @Bool.not_false, @List.append_assoc.{0}, @List.cons_append.{0}, @List.nil_append.{0}, @List.drop_zero.{0}, @p1_cInt, @p1_cStr, @len_snoc, @Int.natCast_add, @Int.cast_ofNat_Int, @quiet_same, @el_go, @el_out, @el_ite, @setZ_look0, @setI_look0, @setZ_look1, @setI_look1, @setZ_snoc, @setZ_upd0, @setI_upd0, @setZ_upd1, @setI_upd1, @true_and, @and_true, @false_and, @and_false, @true_or, @or_true, @false_or, @or_false, @Option.getD_some.{0}, @Option.getD_none.{0}, @List.length_append.{0}, @List.length_cons.{0}, @List.length_nil.{0}, @Nat.zero_add, @Nat.add_zero⟩
end Go.Proofs.YtkdafecbdncmiaaDoor

namespace Go.Proofs.YtkdafecbdncmiaaDoor
set_option linter.unusedSectionVars false
set_option linter.unusedSimpArgs false
set_option linter.unusedVariables false
theorem fz_cInt (n : Int) : FzL (cInt n) := fzL_cons (fz_int _ _) fzL_nil
theorem fz_cUnit (x : UnitD) : FzL (cUnit x) := (fzL_cons (fz_int _ _) (fzL_cons (fz_str _) (fzL_cons (fz_int _ _) (fzL_cons (fz_int _ _) fzL_nil))))
theorem fz_cKey (x : KeyD) : FzL (cKey x) := (fzL_cons (fz_int _ _) (fzL_cons (fz_str _) fzL_nil))
end Go.Proofs.YtkdafecbdncmiaaDoor

namespace Go.Proofs.YtkdafecbdncmiaaDoor
set_option linter.unusedSectionVars false
set_option linter.unusedVariables false
set_option linter.unusedSimpArgs false
instance : Inhabited ByteArray := ⟨⟨#[]⟩⟩
instance : Inhabited PointD := ⟨⟨0, 0⟩⟩
instance : Inhabited CurveD := ⟨⟨0, []⟩⟩
instance : Inhabited FadeD := ⟨⟨0, 0, 0, 0, 0, ⟨0, []⟩⟩⟩
instance : Inhabited ChangeD := ⟨⟨0, 0⟩⟩
instance : Inhabited RangeD := ⟨⟨0, 0, ⟨#[]⟩⟩⟩
instance : Inhabited ParamD := ⟨⟨⟨#[]⟩, 0, 0, 0, 0, false, []⟩⟩
instance : Inhabited ProfileD := ⟨⟨⟨#[]⟩, 0, []⟩⟩
instance : Inhabited UnitD := ⟨⟨0, ⟨#[]⟩, 0, 0⟩⟩
instance : Inhabited RigD := ⟨⟨[], []⟩⟩
instance : Inhabited KeyD := ⟨⟨0, ⟨#[]⟩⟩⟩
theorem eqk_Key (a b : KeyD) : A.eqK (.s [0, 2]) (.agg (cKey a)) (.agg (cKey b)) = some (decide (a = b)) := by
 obtain ⟨x1, x2⟩ := a
 obtain ⟨x101, x102⟩ := b
 simp only [A.eqK, cKey, A.eqAll, A.eqC, A.eqI, A.eqB, A.eqZ, if_true, Option.bind_some, Option.map_some, bq]
 congr 1
 rw [Bool.eq_iff_iff]
 simp [and_assoc]
instance : Inhabited SettingD := ⟨⟨⟨0, ⟨#[]⟩⟩, 0⟩⟩
instance : Inhabited PresetD := ⟨⟨0, ⟨#[]⟩, []⟩⟩
instance : Inhabited FanD := ⟨⟨[], 0, 0⟩⟩
instance : Inhabited ValueD := ⟨⟨0, 0⟩⟩
instance : Inhabited MoveD := ⟨⟨⟨0, ⟨#[]⟩⟩, ⟨0, 0⟩, false, false, 0, 0⟩⟩
instance : Inhabited CueD := ⟨⟨0, ⟨#[]⟩, 0, 0, 0, 0, ⟨0, []⟩, false, 0, []⟩⟩
instance : Inhabited EntryD := ⟨⟨⟨0, ⟨#[]⟩⟩, ⟨0, 0⟩, 0⟩⟩
instance : Inhabited MarkD := ⟨⟨0, 0, 0⟩⟩
instance : Inhabited ListD := ⟨⟨0, []⟩⟩
instance : Inhabited PlaybackD := ⟨⟨0, 0, 0⟩⟩
instance : Inhabited SetupD := ⟨⟨⟨[], []⟩, [], [], []⟩⟩
instance : Inhabited ActionD := ⟨⟨0, 0, 0, 0, 0⟩⟩
instance : Inhabited EventD := ⟨⟨0, ⟨0, 0, 0, 0, 0⟩⟩⟩
instance : Inhabited StampD := ⟨⟨0, 0, 0, 0⟩⟩
instance : Inhabited RunD := ⟨⟨⟨0, ⟨#[]⟩⟩, ⟨0, 0, 0, 0, 0, ⟨0, []⟩⟩, 0, false⟩⟩
instance : Inhabited StandingD := ⟨⟨0, 0, 0, false, 0, []⟩⟩
instance : Inhabited EffectStepD := ⟨⟨0, 0, 0⟩⟩
instance : Inhabited EffectD := ⟨⟨0, 0, 0, 0, 0, 0, false, false, []⟩⟩
instance : Inhabited RateD := ⟨⟨0, 0⟩⟩
instance : Inhabited RunningD := ⟨⟨⟨0, 0, 0, 0, 0, 0, false, false, []⟩, [], 0, [], 0, 0, 0⟩⟩
end Go.Proofs.YtkdafecbdncmiaaDoor

namespace Go.Proofs.YtkdafecbdncmiaaDoor
set_option linter.unusedSectionVars false
set_option linter.unusedVariables false
set_option linter.unusedSimpArgs false
def Rf {β τ : Type} (M : Option β) (T : Option τ) (Q : τ → β → Prop) : Prop := ∀ t, T = some t → ∃ b, M = some b ∧ Q t b
section
variable {α β ω τ ζ : Type}
theorem rf_s {M0 : Option α} {K : α → Option β} {T : Option τ} {Q : τ → β → Prop} (a : α) (h : M0 = some a) (k : Rf (K a) T Q) : Rf (M0.bind K) T Q := by
 intro t ht; obtain ⟨b, h1, h2⟩ := k t ht; exact ⟨b, by rw [h]; exact h1, h2⟩
theorem rf_o {M0 : Option α} {K : α → Option β} {o : Option ω} {K' : ω → Option τ} {Q : τ → β → Prop} (e : ω → α) (h : ∀ t, o = some t → M0 = some (e t)) (k : ∀ t, o = some t → Rf (K (e t)) (K' t) Q) : Rf (M0.bind K) (o.bind K') Q := by
 intro t ht
 obtain ⟨x, h1, h2⟩ := Option.bind_eq_some_iff.1 ht
 obtain ⟨b, h3, h4⟩ := k x h1 t h2
 exact ⟨b, by rw [h x h1]; exact h3, h4⟩
theorem rf_b {M0 : Option α} {K : α → Option β} {o : Option ω} {K' : ω → Option τ} {Q : τ → β → Prop} (Q0 : ω → α → Prop) (h : Rf M0 o Q0) (k : ∀ t a, Q0 t a → Rf (K a) (K' t) Q) : Rf (M0.bind K) (o.bind K') Q := by
 intro t ht
 obtain ⟨x, h1, h2⟩ := Option.bind_eq_some_iff.1 ht
 obtain ⟨a, h3, h4⟩ := h x h1
 obtain ⟨b, h5, h6⟩ := k x a h4 t h2
 exact ⟨b, by rw [h3]; exact h5, h6⟩
theorem rf_ret {t : τ} {b : β} {Q : τ → β → Prop} (h : Q t b) : Rf (some b) (some t) Q := by
 intro u hu; cases hu; exact ⟨b, rfl, h⟩
theorem rf_fin {M : Option β} {t : τ} {Q : τ → β → Prop} (b : β) (e : M = some b) (h : Q t b) : Rf M (some t) Q := by
 rw [e]; exact rf_ret h
theorem rf_none {M : Option β} {Q : τ → β → Prop} : Rf M (none : Option τ) Q := by intro u hu; cases hu
theorem rf_tq {M : Option β} {p : Prop} [Decidable p] {T : Option τ} {Q : τ → β → Prop} (h : p → Rf M T Q) : Rf M (if p then T else none) Q := by
 split
 ·exact h ‹_›
 ·exact rf_none
theorem rf_c {p : Prop} [Decidable p] {X Y : Option β} {X' Y' : Option τ} {Q : τ → β → Prop} (h1 : p → Rf X X' Q) (h2 : ¬ p → Rf Y Y' Q) : Rf (A.cond (.bool (decide p)) X Y) (if p then X' else Y') Q := by
 by_cases h : p
 ·simp only [h, decide_true, if_true]; exact h1 h
 ·simp only [h, decide_false, if_false]; exact h2 h
theorem rf_cb {c : Bool} {X Y : Option β} {X' Y' : Option τ} {Q : τ → β → Prop} (h1 : c = true → Rf X X' Q) (h2 : c = false → Rf Y Y' Q) : Rf (A.cond (.bool c) X Y) (if c = true then X' else Y') Q := by
 cases c
 ·exact h2 rfl
 ·exact h1 rfl
theorem rf_ct {X Y : Option β} {T : Option τ} {Q : τ → β → Prop} (h : Rf X T Q) : Rf (A.cond (.bool true) X Y) T Q := h
theorem rf_cf {X Y : Option β} {T : Option τ} {Q : τ → β → Prop} (h : Rf Y T Q) : Rf (A.cond (.bool false) X Y) T Q := h
theorem rf_bt {c : Bool} {X Y : Option β} {T : Option τ} {Q : τ → β → Prop} (e : c = true) (h : Rf X T Q) : Rf (bif c then X else Y) T Q := by rw [e]; exact h
theorem rf_bf {c : Bool} {X Y : Option β} {T : Option τ} {Q : τ → β → Prop} (e : c = false) (h : Rf Y T Q) : Rf (bif c then X else Y) T Q := by rw [e]; exact h
def gv {α : Type} (g : Bool) (e : α → AV) (t : α) : AV := bif g then e t else .tup []
end
inductive Lr (S B R : Type) where
 | go (s : S)
 | brk (b : B)
 | ret (r : R)
def forL {α S B R : Type} (body : Nat → α → S → Option (Lr S B R)) (fin : S → Option B) : List α → Nat → S → Option (B ⊕ R)
 | [], _, s => (fin s).map .inl
 | x :: l, i, s => (body i x s).bind fun q => match q with | .go s' => forL body fin l (i + 1) s' | .brk b => some (.inl b) | .ret r => some (.inr r)
def forE {α S B R γ : Type} (l : List α) (body : Nat → α → S → Option (Lr S B R)) (fin : S → Option B) (s : S) (K1 : B → Option γ) (K2 : R → Option γ) : Option γ :=
 if l.length ≤ mxl then (forL body fin l 0 s).bind fun q => q.elim K1 K2 else none
section
variable {α S B R β τ : Type}
abbrev LS := AX × List AV × Heap
def Rnd (I : S → List AV → Heap → Prop) (QB : B → LS → Prop) (QR : R → LS → Prop) (t : Lr S B R) (q : LS) : Prop := match t with
 | .go s => q.1 = .normal ∧ I s q.2.1 q.2.2
 | .brk b => q.1 ≠ .normal ∧ QB b q
 | .ret r => q.1 ≠ .normal ∧ QR r q
theorem rnd_go {I : S → List AV → Heap → Prop} {QB : B → LS → Prop} {QR : R → LS → Prop} {s : S} {v : List AV} {σ : Heap} (h : I s v σ) : Rnd I QB QR (.go s) (.normal, v, σ) := ⟨rfl, h⟩
theorem rnd_ret {I : S → List AV → Heap → Prop} {QB : B → LS → Prop} {QR : R → LS → Prop} {r : R} {q : LS} (n : q.1 ≠ .normal) (h : QR r q) : Rnd I QB QR (.ret r) q := ⟨n, h⟩
theorem rf_for {f : List AV → Heap → Option LS} {K : LS → Option β} {Q : τ → β → Prop} {l : List α} {body : Nat → α → S → Option (Lr S B R)} {fin : S → Option B} {s0 : S} {K1 : B → Option τ} {K2 : R → Option τ} {v0 : List AV} {σ0 : Heap}
  (I : Nat → S → List AV → Heap → Prop) (QB : B → LS → Prop) (QR : R → LS → Prop)
  (hstep : l.length ≤ mxl → ∀ i x s v σ, l[i]? = some x → I i s v σ → Rf (f v σ) (body i x s) (Rnd (I (i + 1)) QB QR))
  (hend : l.length ≤ mxl → ∀ s v σ, I l.length s v σ → Rf (f v σ) (fin s) (fun b q => q.1 ≠ .normal ∧ QB b q))
  (h0 : I 0 s0 v0 σ0) (k1 : l.length ≤ mxl → ∀ b q, QB b q → Rf (K q) (K1 b) Q) (k2 : l.length ≤ mxl → ∀ r q, QR r q → Rf (K q) (K2 r) Q) :
  Rf ((A.loop f v0 σ0).bind K) (forE l body fin s0 K1 K2) Q := by
 unfold forE
 refine rf_tq fun hl => ?_
 have hstep := hstep hl
 have hend := hend hl
 have key : ∀ (rest pre : List α) (s : S) (v : List AV) (σ : Heap), l = pre ++ rest → I pre.length s v σ → ∀ t, forL body fin rest pre.length s = some t → ∃ q, (∃ n, A.iter f n v σ = some q) ∧ (match t with | .inl b => QB b q | .inr r => QR r q) := by
  intro rest
  induction rest with
  | nil =>
   intro pre s v σ hl hI t ht
   rw [List.append_nil] at hl
   subst hl
   simp only [forL] at ht
   obtain ⟨b, hb, rfl⟩ := Option.map_eq_some_iff.1 ht
   obtain ⟨q, h1, h2, h3⟩ := hend s v σ hI b hb
   exact ⟨q, loop_done h1 h2, h3⟩
  | cons x rest ih =>
   intro pre s v σ hl hI t ht
   simp only [forL] at ht
   obtain ⟨y, hy, h2⟩ := Option.bind_eq_some_iff.1 ht
   obtain ⟨q, h3, h4⟩ := hstep pre.length x s v σ (by rw [hl]; simp) hI y hy
   obtain ⟨e, v', σ'⟩ := q
   cases y with
   | go s' =>
    obtain ⟨rfl, hI'⟩ := h4
    obtain ⟨q, h5, h6⟩ := ih (pre ++ [x]) s' v' σ' (by simpa using hl) (by simpa using hI') t (by simpa using h2)
    exact ⟨q, loop_step h3 h5, h6⟩
   | brk b => simp only [Option.some.injEq] at h2; subst h2; exact ⟨_, loop_done h3 h4.1, h4.2⟩
   | ret b => simp only [Option.some.injEq] at h2; subst h2; exact ⟨_, loop_done h3 h4.1, h4.2⟩
 intro t ht
 obtain ⟨y, hy, h2⟩ := Option.bind_eq_some_iff.1 ht
 obtain ⟨q, ⟨n, hn⟩, h3⟩ := key l [] s0 v0 σ0 rfl h0 y hy
 cases y with
 | inl b => obtain ⟨z, h4, h5⟩ := k1 hl b q h3 t h2; exact ⟨z, by rw [loop_of_iter hn]; exact h4, h5⟩
 | inr b => obtain ⟨z, h4, h5⟩ := k2 hl b q h3 t h2; exact ⟨z, by rw [loop_of_iter hn]; exact h4, h5⟩
theorem ix_lt {l : List α} {i : Nat} {x : α} (h : l[i]? = some x) : A.lss (.int .i64 (i : Int)) (.int .i64 (l.length : Int)) = some (.bool true) := by
 have := (List.getElem?_eq_some_iff.1 h).1
 rw [aLss]; simp; omega
theorem ix_end (l : List α) : A.lss (.int .i64 (l.length : Int)) (.int .i64 (l.length : Int)) = some (.bool false) := by rw [aLss]; simp
theorem ix_inc {l : List α} {i : Nat} {x : α} (h : l[i]? = some x) (hl : l.length ≤ mxl) : A.add (.int .i64 (i : Int)) (.int .i64 1) = some (.int .i64 ((i + 1 : Nat) : Int)) := by
 have := (List.getElem?_eq_some_iff.1 h).1
 rw [aAdd, wrap64 (by unfold inI; unfold mxl at hl; omega)]
 simp
def tIx (l : List α) (i : Int) : Option α := if 0 ≤ i then l[i.toNat]? else none
theorem ix_at {sz : Nat} {c : α → List AV} {l : List α} {i : Int} {x : α} (h : tIx l i = some x) : A.iaddr sz (sl sz c l) (.int .i64 i) = some (.rp (c x)) := by
 unfold tIx at h
 split at h
 ·exact iaddr_int sz c l ‹_› h
 ·cases h
theorem ix_for {sz : Nat} {c : α → List AV} {l : List α} {i : Nat} {x : α} (h : l[i]? = some x) : A.iaddr sz (sl sz c l) (.int .i64 (i : Int)) = some (.rp (c x)) := iaddr_sl sz c l h
end
theorem quiet_of {M : Option (AV × Heap)} {v : AV} {σ : Heap} (h : M = some (v, σ)) : A.quiet M σ = some v := by rw [h, quiet_same]
noncomputable def tq {α : Type} (p : Prop) (x : α) : Option α := open Classical in if p then some x else none
theorem tq_pos {α : Type} {p : Prop} {x : α} (h : p) : tq p x = some x := if_pos h
theorem tq_of {α β : Type} {p : Prop} {x r : α} {M : Option β} {e : α → β} (h : p → M = some (e x)) (k : tq p x = some r) : M = some (e r) := by
 unfold tq at k
 split at k
 ·rename_i hp; injection k with k; subst k; exact h hp
 ·cases k
theorem pk_and (b t : Bool) : A.pick (.bool b) (bif b then .bool t else .tup []) (.bool false) = some (.bool (b && t)) := by cases b <;> rfl
theorem pk_or (b t : Bool) : A.pick (.bool b) (.bool true) (bif !b then .bool t else .tup []) = some (.bool (b || t)) := by cases b <;> rfl
section
variable {α β ω τ : Type} {G b : Bool} {M0 : Option AV} {K : AV → Option β} {T : Option τ} {K' : ω → Option τ} {o : Option ω} {Q : τ → β → Prop}
theorem rf_gt (a : AV) (h : b = true → M0 = some a) (k : Rf (K (bif b then a else .tup [])) T Q) : Rf ((A.guard (.bool b) true M0 (some (.tup []))).bind K) T Q := by
 refine rf_s _ ?_ k
 cases b <;> simp_all [A.guard]
theorem rf_gf (a : AV) (h : (!b) = true → M0 = some a) (k : Rf (K (bif !b then a else .tup [])) T Q) : Rf ((A.guard (.bool b) false M0 (some (.tup []))).bind K) T Q := by
 refine rf_s _ ?_ k
 cases b <;> simp_all [A.guard]
theorem rf_ggt (a : AV) (h : (G && b) = true → M0 = some a) (k : Rf (K (bif G && b then a else .tup [])) T Q) : Rf ((A.guard (bif G then .bool b else .tup []) true M0 (some (.tup []))).bind K) T Q := by
 refine rf_s _ ?_ k
 cases G <;> cases b <;> simp_all [A.guard]
theorem rf_go {g : Bool} {M : Option AV} {d : ω} (e : ω → AV) (hM : M = bif g then M0 else some (.tup [])) (h : g = true → ∀ t, o = some t → M0 = some (e t)) (k : ∀ t, (g = true → o = some t) → Rf (K (bif g then e t else .tup [])) (K' t) Q) : Rf (M.bind K) ((if g = true then o else some d).bind K') Q := by
 subst hM
 cases g
 ·exact k d (by simp)
 ·intro t ht
  simp only [if_true] at ht
  obtain ⟨x, h1, h2⟩ := Option.bind_eq_some_iff.1 ht
  obtain ⟨y, h3, h4⟩ := k x (fun _ => h1) t h2
  refine ⟨y, ?_, h4⟩
  simp only [cond_true, h rfl x h1, Option.bind_some]
  exact h3
theorem rf_gto {d : ω} (e : ω → AV) (h : b = true → ∀ t, o = some t → M0 = some (e t)) (k : ∀ t, (b = true → o = some t) → Rf (K (bif b then e t else .tup [])) (K' t) Q) : Rf ((A.guard (.bool b) true M0 (some (.tup []))).bind K) ((if b = true then o else some d).bind K') Q := rf_go e (by cases b <;> rfl) h k
end
theorem wrap_nn {ro : Bool} {ain : List Sh} {rout : Sh} {r : List AV → Heap → Option (AV × Heap)} {args args' : List AV} {σ : Heap} (hn : A.nnL ain args = A.nnL ain args') (h1 : args.any A.own = false) (h2 : args'.any A.own = false) : A.wrap ro ain rout r args σ = A.wrap ro ain rout r args' σ := by
 unfold A.wrap
 rw [h1, h2, hn, Bool.and_false, cond_false, cond_false]
theorem rf_wrap {τ : Type} {ro : Bool} {ain : List Sh} {rout : Sh} {r : List AV → Heap → Option (AV × Heap)} {args args' : List AV} {σ : Heap} {T : Option τ} {enc : τ → AV} (hn : A.nnL ain args = args') (h : args.any A.own = false) (e : Rf (r args' σ) T (fun t b => A.nn rout b.1 = enc t ∧ b.2 = σ)) : ∀ t, T = some t → A.wrap ro ain rout r args σ = some (enc t, σ) := by
 intro t ht
 obtain ⟨⟨v, σ'⟩, h1, h2, h3⟩ := e t ht
 simp only at h2 h3
 subst h3
 exact wrap_eq h (by rw [hn]; exact h1) h2
theorem rf_wrap1 {τ : Type} {ro : Bool} {ain : List Sh} {rout : Sh} {f : AV → Heap → Option (AV × Heap)} {x0 y0 : AV} {σ : Heap} {T : Option τ} {enc : τ → AV} (hn : A.nnL ain [x0] = [y0]) (h : ([x0] : List AV).any A.own = false) (e : Rf (f y0 σ) T (fun t b => A.nn rout b.1 = enc t ∧ b.2 = σ)) : ∀ t, T = some t → A.wrap ro ain rout (A.ar1 f) [x0] σ = some (enc t, σ) := rf_wrap hn h e
theorem rf_wrap2 {τ : Type} {ro : Bool} {ain : List Sh} {rout : Sh} {f : AV → AV → Heap → Option (AV × Heap)} {x0 x1 y0 y1 : AV} {σ : Heap} {T : Option τ} {enc : τ → AV} (hn : A.nnL ain [x0, x1] = [y0, y1]) (h : ([x0, x1] : List AV).any A.own = false) (e : Rf (f y0 y1 σ) T (fun t b => A.nn rout b.1 = enc t ∧ b.2 = σ)) : ∀ t, T = some t → A.wrap ro ain rout (A.ar2 f) [x0, x1] σ = some (enc t, σ) := rf_wrap hn h e
end Go.Proofs.YtkdafecbdncmiaaDoor

namespace Go.Proofs.YtkdafecbdncmiaaDoor
set_option linter.unusedSectionVars false
set_option linter.unusedVariables false
set_option linter.unusedSimpArgs false
inductive Ct where
 | s (sz : Nat) (es : List (List AV))
 | m (es : List (AV × AV))
 | b (cs : List AV)
def idOf : AV → Option Nat
 | .os id _ _ _ _ => some id
 | .om id => some id
 | .op id _ => some id
 | _ => none
def Own (n : Nat) (σ : Heap) (p : AV × Ct) : Prop := match p.2 with
 | .s sz es => (p.1 = .nsl ∧ es = []) ∨ ∃ id g off a, p.1 = .os id g sz off es.length ∧ n ≤ id ∧ σ[id]? = some (.arr g sz a) ∧ off ≤ a.length ∧ a.drop off = es
 | .m es => ∃ id, p.1 = .om id ∧ n ≤ id ∧ σ[id]? = some (.map es)
 | .b cs => ∃ id, p.1 = .op id 0 ∧ n ≤ id ∧ σ[id]? = some (.box cs)
structure Hp (σ0 σ : Heap) (L : List (AV × Ct)) : Prop where
 pre : ∃ bs, σ = σ0 ++ bs
 own : ∀ (i : Nat) p, L[i]? = some p → Own σ0.length σ p
 sep : ∀ (i j : Nat) p q a, L[i]? = some p → L[j]? = some q → idOf p.1 = some a → idOf q.1 = some a → i = j
section
variable {σ0 σ σ' : Heap} {L : List (AV × Ct)} {n : Nat}
theorem hp_nil (σ : Heap) : Hp σ σ [] := ⟨⟨[], by simp⟩, by simp, by simp⟩
theorem own_lt {p : AV × Ct} {a : Nat} (h : Own n σ p) (e : idOf p.1 = some a) : n ≤ a ∧ a < σ.length := by
 obtain ⟨v, c⟩ := p
 cases c with
 | s sz es =>
  rcases h with ⟨h1, _⟩ | ⟨id, g, off, x, h1, h2, h3, _⟩
  ·simp only at h1; subst h1; cases e
  ·simp only at h1; subst h1; injection e with e; subst e; exact ⟨h2, (List.getElem?_eq_some_iff.1 h3).1⟩
 | m es => obtain ⟨id, h1, h2, h3⟩ := h; simp only at h1; subst h1; injection e with e; subst e; exact ⟨h2, (List.getElem?_eq_some_iff.1 h3).1⟩
 | b es => obtain ⟨id, h1, h2, h3⟩ := h; simp only at h1; subst h1; injection e with e; subst e; exact ⟨h2, (List.getElem?_eq_some_iff.1 h3).1⟩
theorem own_mono {p : AV × Ct} (h : Own n σ p) (k : ∀ a, idOf p.1 = some a → σ'[a]? = σ[a]?) : Own n σ' p := by
 obtain ⟨v, c⟩ := p
 cases c with
 | s sz es =>
  rcases h with h | ⟨id, g, off, x, h1, h2, h3, h4⟩
  ·exact .inl h
  ·simp only at h1; subst h1; exact .inr ⟨id, g, off, x, rfl, h2, by rw [k id rfl]; exact h3, h4⟩
 | m es => obtain ⟨id, h1, h2, h3⟩ := h; simp only at h1; subst h1; exact ⟨id, rfl, h2, by rw [k id rfl]; exact h3⟩
 | b es => obtain ⟨id, h1, h2, h3⟩ := h; simp only at h1; subst h1; exact ⟨id, rfl, h2, by rw [k id rfl]; exact h3⟩
theorem pre_set (h : ∃ bs, σ = σ0 ++ bs) {id : Nat} (hn : σ0.length ≤ id) (b : Blk) : ∃ bs, σ.set id b = σ0 ++ bs := by
 obtain ⟨bs, rfl⟩ := h
 exact ⟨bs.set (id - σ0.length) b, by rw [List.set_append_right _ _ hn]⟩
theorem hp_set (H : Hp σ0 σ L) {k id : Nat} {h h' : AV} {c c' : Ct} {b : Blk} (hk : L[k]? = some (h, c)) (hi : idOf h = some id) (hi' : idOf h' = some id) (ho : Own σ0.length (σ.set id b) (h', c')) : Hp σ0 (σ.set id b) (L.set k (h', c')) := by
 have hid := own_lt (H.own k _ hk) hi
 have hkl := (List.getElem?_eq_some_iff.1 hk).1
 refine ⟨pre_set H.pre hid.1 b, fun i p hp => ?_, fun i j p q a hp hq e1 e2 => ?_⟩
 ·rw [List.getElem?_set] at hp
  split at hp
  ·rename_i e; subst e; simp [hkl] at hp; subst hp; exact ho
  ·rename_i e
   refine own_mono (H.own i p hp) fun a ha => ?_
   rw [List.getElem?_set]
   split
   ·rename_i e'; subst e'; exact absurd (H.sep k i _ _ id hk hp hi ha) e
   ·rfl
 ·have key : ∀ (i : Nat) (p : AV × Ct), (L.set k (h', c'))[i]? = some p → idOf p.1 = some a → ∃ p', L[i]? = some p' ∧ idOf p'.1 = some a := by
   intro i p hp e
   rw [List.getElem?_set] at hp
   split at hp
   ·rename_i e'; subst e'; simp [hkl] at hp; subst hp; exact ⟨_, hk, by rw [hi]; rw [hi'] at e; exact e⟩
   ·exact ⟨p, hp, e⟩
  obtain ⟨p', hp', e1'⟩ := key i p hp e1
  obtain ⟨q', hq', e2'⟩ := key j q hq e2
  exact H.sep i j p' q' a hp' hq' e1' e2'
theorem hp_push (H : Hp σ0 σ L) {h' : AV} {c' : Ct} {b : Blk} (hi' : idOf h' = some σ.length) (ho : Own σ0.length (σ ++ [b]) (h', c')) : Hp σ0 (σ ++ [b]) (L ++ [(h', c')]) := by
 refine ⟨?_, fun i p hp => ?_, fun i j p q a hp hq e1 e2 => ?_⟩
 ·obtain ⟨bs, rfl⟩ := H.pre; exact ⟨bs ++ [b], by simp⟩
 ·rw [List.getElem?_append] at hp
  split at hp
  ·refine own_mono (H.own i p hp) fun a ha => ?_
   have := (own_lt (H.own i p hp) ha).2
   rw [List.getElem?_append_left this]
  ·have hp' := (List.getElem?_eq_some_iff.1 hp).2
   simp at hp'; subst hp'; exact ho
 ·have key : ∀ (i : Nat) (p : AV × Ct), (L ++ [(h', c')])[i]? = some p → idOf p.1 = some a → (i = L.length ∧ a = σ.length) ∨ (L[i]? = some p ∧ a < σ.length) := by
   intro i p hp e
   rw [List.getElem?_append] at hp
   split at hp
   ·exact .inr ⟨hp, (own_lt (H.own i p hp) e).2⟩
   ·obtain ⟨h1, h2⟩ := List.getElem?_eq_some_iff.1 hp
    simp at h1 h2; subst h2; rw [hi'] at e; injection e with e; exact .inl ⟨by omega, e.symm⟩
  rcases key i p hp e1 with ⟨a1, a2⟩ | ⟨a1, a2⟩ <;> rcases key j q hq e2 with ⟨b1, b2⟩ | ⟨b1, b2⟩
  ·omega
  ·omega
  ·omega
  ·exact H.sep i j p q a a1 b1 e1 e2
theorem hp_om (H : Hp σ0 σ L) : Hp σ0 (σ ++ [.map []]) (L ++ [(.om σ.length, .m [])]) := by
 have hl : σ0.length ≤ σ.length := by obtain ⟨bs, rfl⟩ := H.pre; simp
 exact hp_push H rfl ⟨σ.length, rfl, hl, by simp⟩
theorem hp_mupd (H : Hp σ0 σ L) {k : Nat} {h key v : AV} {ek : A.EK} {es es' : List (AV × AV)} (hk : L[k]? = some (h, .m es)) (hok : A.keyOk ek key = true) (he : A.upd ek key v es = some es') : ∃ σ', A.mupd ek h key v σ = some σ' ∧ Hp σ0 σ' (L.set k (h, .m es')) := by
 obtain ⟨id, h1, h2, h3⟩ := H.own k _ hk
 simp only at h1 h3
 subst h1
 have hid := (List.getElem?_eq_some_iff.1 h3).1
 exact ⟨σ.set id (.map es'), by simp [A.mupd, hok, h3, he], hp_set H hk rfl rfl ⟨id, rfl, h2, by simp [hid]⟩⟩
def Fzv (σ0 σ : Heap) (r r' : AV) : Prop := (∀ d, A.frz σ σ0.length (d + 1) r = some r') ∧ (σ = σ0 → r' = r)
theorem frzM_fz (d : Nat) : ∀ {es : List (AV × AV)}, (∀ p ∈ es, Fz p.1 ∧ Fz p.2) → A.frzM' σ n d es = some es
 | [], _ => by simp [A.frzM']
 | (k, v) :: es, h => by
  have h1 := h (k, v) (by simp)
  simp only [A.frzM', h1.1 σ n d, h1.2 σ n d, Option.bind_some, frzM_fz d (es := es) (fun p hp => h p (by simp [hp])), Option.map_some]
theorem fzv_om (H : Hp σ0 σ L) {k : Nat} {h : AV} {es : List (AV × AV)} (hk : L[k]? = some (h, .m es)) (hc : ∀ p ∈ es, Fz p.1 ∧ Fz p.2) : Fzv σ0 σ h (.fm es) := by
 obtain ⟨id, h1, h2, h3⟩ := H.own k _ hk
 simp only at h1 h3
 subst h1
 refine ⟨fun d => ?_, fun e => ?_⟩
 ·simp only [A.frz, Nat.not_lt.2 h2, if_false, h3, frzM_fz d hc, Option.map_some]
 ·subst e
  have := (List.getElem?_eq_some_iff.1 h3).1
  omega
theorem hp_fin (H : Hp σ0 σ L) {r r' : AV} (h : Fzv σ0 σ r r') : A.fin σ0 r σ = some (r', σ0) := by
 obtain ⟨bs, hb⟩ := H.pre
 subst hb
 by_cases hbs : bs = []
 ·subst hbs
  rw [List.append_nil] at h ⊢
  rw [fin_same, h.2 rfl]
 ·unfold A.fin
  rw [if_neg (by simpa using hbs), if_pos (by simp), h.1 7]; rfl
end
section
variable {κ ν : Type} [DecidableEq κ]
def tfind (k : κ) : List (κ × ν) → Option ν
 | [] => none
 | (k', v) :: r => if k = k' then some v else tfind k r
def tupd (k : κ) (v : ν) : List (κ × ν) → List (κ × ν)
 | [] => [(k, v)]
 | (k', v') :: r => if k = k' then (k, v) :: r else (k', v') :: tupd k v r
variable {ek : A.EK} {eK : κ → AV} {eV : ν → AV} (hq : ∀ a b, A.eqK ek (eK a) (eK b) = some (decide (a = b)))
include hq
theorem find_t (k : κ) : ∀ l : List (κ × ν), A.find ek (eK k) (l.map fun p => (eK p.1, eV p.2)) = some ((tfind k l).map eV)
 | [] => rfl
 | (k', v) :: r => by
  simp only [List.map_cons, A.find, hq, Option.bind_some, tfind]
  by_cases h : k = k'
  ·simp [h]
  ·simp [h, find_t k r]
theorem upd_t (k : κ) (v : ν) : ∀ l : List (κ × ν), A.upd ek (eK k) (eV v) (l.map fun p => (eK p.1, eV p.2)) = some ((tupd k v l).map fun p => (eK p.1, eV p.2))
 | [] => rfl
 | (k', v') :: r => by
  simp only [List.map_cons, A.upd, hq, Option.bind_some, tupd]
  by_cases h : k = k'
  ·simp [h]
  ·simp [h, upd_t k v r]
end
theorem eqk_int (k : IntKind) (a b : Int) : A.eqK .i (.int k a) (.int k b) = some (decide (a = b)) := by
 simp only [A.eqK, A.eqI, if_true]
 congr 1
theorem getD_map {α : Type} (o : Option α) (f : α → AV) (d : α) : (o.map f).getD (f d) = f (o.getD d) := by cases o <;> rfl
theorem isSome_map {α : Type} (o : Option α) (f : α → AV) : (o.map f).isSome = o.isSome := by cases o <;> rfl
def fmE {κ ν : Type} (eK : κ → AV) (eV : ν → AV) (l : List (κ × ν)) : AV := .fm (l.map fun p => (eK p.1, eV p.2))
section
variable {κ ν : Type} [DecidableEq κ] {ek : A.EK} {eK : κ → AV} {eV : ν → AV} {σ0 σ : Heap} {L : List (AV × Ct)} {h : AV} {l : List (κ × ν)}
theorem hp_updT (H : Hp σ0 σ L) (k : Nat) (hk : L[k]? = some (h, .m (l.map fun p => (eK p.1, eV p.2)))) (hq : ∀ a b, A.eqK ek (eK a) (eK b) = some (decide (a = b))) (x : κ) (v : ν) (hok : A.keyOk ek (eK x) = true) : ∃ σ', A.mupd ek h (eK x) (eV v) σ = some σ' ∧ Hp σ0 σ' (L.set k (h, .m ((tupd x v l).map fun p => (eK p.1, eV p.2)))) := hp_mupd H hk hok (upd_t hq x v l)
theorem fm_lookT (hq : ∀ a b, A.eqK ek (eK a) (eK b) = some (decide (a = b))) (x : κ) (z : ν) (hok : A.keyOk ek (eK x) = true) : A.look ek (fmE eK eV l) (eK x) (eV z) σ = some (eV ((tfind x l).getD z)) := by
 simp only [A.look, fmE, hok, cond_true, A.entries, Option.bind_some, find_t hq, Option.map_some, getD_map]
theorem fm_lookOkT (hq : ∀ a b, A.eqK ek (eK a) (eK b) = some (decide (a = b))) (x : κ) (z : ν) (hok : A.keyOk ek (eK x) = true) : A.lookOk ek (fmE eK eV l) (eK x) (eV z) σ = some (.tup [eV ((tfind x l).getD z), .bool (tfind x l).isSome]) := by
 simp only [A.lookOk, fmE, hok, cond_true, A.entries, Option.bind_some, find_t hq, Option.map_some, getD_map, isSome_map]
end
section
variable {α : Type} {c : α → List AV} {l ys : List α} {σ0 σ : Heap} {L : List (AV × Ct)} {h : AV} {sz : Nat}
end
def tSl {α : Type} (l : List α) (lo hi : Option Int) : Option (List α) :=
 let h := hi.getD l.length
 let k := lo.getD 0
 if 0 ≤ k ∧ k ≤ h ∧ h ≤ l.length then some ((l.take h.toNat).drop k.toNat) else none
theorem sls_at {α : Type} {sz : Nat} {c : α → List AV} {l r : List α} {lo hi : Option Int} {σ : Heap} (h : tSl l lo hi = some r) : A.sliceS sz (sl sz c l) (lo.map (.int .i64)) (hi.map (.int .i64)) σ = some (sl sz c r) := by
 unfold tSl at h
 simp only at h
 split at h
 ·rename_i hc
  injection h with h
  subst h
  obtain ⟨h1, h2, h3⟩ := hc
  simp only [A.sliceS, sl, if_true, List.length_map]
  have e1 : A.bound l.length l.length (hi.map (.int .i64)) = some (hi.getD l.length).toNat := by
   cases hi with
   | none => simp [A.bound]
   | some h => simp only [Option.getD_some] at h2 h3; simp [A.bound, show 0 ≤ h by omega, h3]
  have e2 : A.bound (hi.getD l.length).toNat 0 (lo.map (.int .i64)) = some (lo.getD 0).toNat := by
   cases lo with
   | none => simp [A.bound]
   | some k =>
    simp only [Option.getD_some] at h1 h2
    have : k ≤ ((hi.getD l.length).toNat : Int) := by omega
    simp only [Option.map_some, A.bound, Option.getD_some]
    rw [if_pos ⟨h1, this⟩]
  rw [e1, Option.bind_some, e2, Option.map_some, List.map_drop, List.map_take]
 ·cases h
def tCat (a b : ByteArray) : Option ByteArray := if a.size + b.size ≤ 9223372036854775807 then some (a ++ b) else none
theorem cat_at {a b r : ByteArray} (h : tCat a b = some r) : A.add (.str a) (.str b) = some (.str r) := by
 unfold tCat at h
 split at h
 ·injection h with h; subst h; simp [A.add, *]
 ·cases h
end Go.Proofs.YtkdafecbdncmiaaDoor

namespace Go.Proofs.YtkdafecbdncmiaaDoor
set_option linter.unusedSectionVars false
set_option linter.unusedVariables false
set_option linter.unusedSimpArgs false
def HP := (Nat → Option Blk) → Prop
namespace HP
set_option linter.unusedSectionVars false
def emp : HP := fun h => ∀ i, h i = none
def blk (id : Nat) (b : Blk) : HP := fun h => ∀ i, h i = if i = id then some b else none
def star (P Q : HP) : HP := fun h => ∃ f g, P f ∧ Q g ∧ (∀ i, f i = none ∨ g i = none) ∧ ∀ i, h i = (f i).or (g i)
def pr (p : Prop) : HP := fun h => p ∧ ∀ i, h i = none
def ex {α : Type} (P : α → HP) : HP := fun h => ∃ x, P x h
instance : Mul HP := ⟨star⟩
theorem star_comm (P Q : HP) : P * Q = Q * P := by
 have key : ∀ P Q : HP, ∀ h, (P * Q) h → (Q * P) h := by
  rintro P Q h ⟨f, g, hf, hg, hd, hh⟩
  refine ⟨g, f, hg, hf, fun i => (hd i).symm, fun i => ?_⟩
  rw [hh i]
  rcases hd i with e | e <;> rw [e] <;> simp
 funext h
 exact propext ⟨key P Q h, key Q P h⟩
theorem star_assoc (P Q R : HP) : P * Q * R = P * (Q * R) := by
 funext h
 apply propext
 constructor
 ·rintro ⟨f, g, ⟨f1, f2, h1, h2, hd1, hf⟩, hg, hd, hh⟩
  refine ⟨f1, fun i => (f2 i).or (g i), h1, ⟨f2, g, h2, hg, fun i => ?_, fun i => rfl⟩, fun i => ?_, fun i => ?_⟩
  ·have := hd i; rw [hf i] at this
   rcases this with e | e
   ·cases h : f1 i <;> simp [h] at e <;> exact .inl e
   ·exact .inr e
  ·have a := hd i; have b := hd1 i; rw [hf i] at a
   rcases b with b | b
   ·exact .inl b
   ·rcases a with a | a
    ·cases h : f1 i <;> simp [h] at a; exact .inl rfl
    ·exact .inr (show (f2 i).or (g i) = none by rw [b, a]; rfl)
  ·rw [hh i, hf i]; cases f1 i <;> simp
 ·rintro ⟨f, g, hf, ⟨g1, g2, h1, h2, hd1, hg⟩, hd, hh⟩
  refine ⟨fun i => (f i).or (g1 i), g2, ⟨f, g1, hf, h1, fun i => ?_, fun i => rfl⟩, h2, fun i => ?_, fun i => ?_⟩
  ·have := hd i; rw [hg i] at this
   rcases this with e | e
   ·exact .inl e
   ·cases h : g1 i <;> simp [h] at e; exact .inr rfl
  ·have a := hd i; have b := hd1 i; rw [hg i] at a
   rcases b with b | b
   ·rcases a with a | a
    ·exact .inl (show (f i).or (g1 i) = none by rw [a, b]; rfl)
    ·rw [b] at a; exact .inr (by simpa using a)
   ·exact .inr b
  ·show h i = ((f i).or (g1 i)).or (g2 i)
   rw [hh i, hg i]; cases f i <;> simp
theorem emp_star (P : HP) : emp * P = P := by
 funext h
 apply propext
 constructor
 ·rintro ⟨f, g, hf, hg, hd, hh⟩
  have : h = g := by funext i; rw [hh i, hf i]; rfl
  rw [this]; exact hg
 ·intro hp
  exact ⟨fun _ => none, h, fun _ => rfl, hp, fun _ => .inl rfl, fun i => by simp⟩
theorem star_emp (P : HP) : P * emp = P := by rw [star_comm, emp_star]
instance : Std.Associative (α := HP) (· * ·) := ⟨star_assoc⟩
instance : Std.Commutative (α := HP) (· * ·) := ⟨star_comm⟩
end HP
open HP
structure Hs (B : Blk → Prop) (σ0 σ : Heap) (P : HP) : Prop where
 pre : ∃ bs, σ = σ0 ++ bs ∧ ∀ b ∈ bs, B b
 own : ∃ h, P h ∧ ∀ i b, h i = some b → σ0.length ≤ i ∧ σ[i]? = some b
def anyB : Blk → Prop := fun _ => True
section
variable {B : Blk → Prop} {σ0 σ : Heap} {P Q R : HP} {id : Nat} {b b' : Blk}
theorem hs_eq (e : P = Q) (H : Hs B σ0 σ P) : Hs B σ0 σ Q := e ▸ H
theorem hs_mono (k : ∀ h, P h → Q h) (H : Hs B σ0 σ (P * R)) : Hs B σ0 σ (Q * R) := by
 obtain ⟨h1, h, ⟨f, g, hf, hg, hd, hh⟩, h2⟩ := H
 exact ⟨h1, h, ⟨f, g, k f hf, hg, hd, hh⟩, h2⟩
theorem hs_drop (H : Hs B σ0 σ (P * R)) : Hs B σ0 σ R := by
 obtain ⟨h1, h, ⟨f, g, hf, hg, hd, hh⟩, h2⟩ := H
 refine ⟨h1, g, hg, fun i b hb => h2 i b ?_⟩
 rw [hh i]
 rcases hd i with e | e
 ·rw [e, hb]; rfl
 ·rw [e] at hb; cases hb
theorem hs_pr {p : Prop} : Hs B σ0 σ (pr p * R) ↔ p ∧ Hs B σ0 σ R := by
 constructor
 ·intro H
  refine ⟨?_, hs_drop H⟩
  obtain ⟨h1, h, ⟨f, g, hf, hg, hd, hh⟩, h2⟩ := H
  exact hf.1
 ·rintro ⟨hp, h1, h, hr, h2⟩
  exact ⟨h1, h, ⟨fun _ => none, h, ⟨hp, fun _ => rfl⟩, hr, fun _ => .inl rfl, fun i => by simp⟩, h2⟩
theorem hs_ex {α : Type} {P : α → HP} : Hs B σ0 σ (ex P * R) ↔ ∃ x, Hs B σ0 σ (P x * R) := by
 constructor
 ·rintro ⟨h1, h, ⟨f, g, ⟨x, hf⟩, hg, hd, hh⟩, h2⟩
  exact ⟨x, h1, h, ⟨f, g, hf, hg, hd, hh⟩, h2⟩
 ·rintro ⟨x, h1, h, ⟨f, g, hf, hg, hd, hh⟩, h2⟩
  exact ⟨h1, h, ⟨f, g, ⟨x, hf⟩, hg, hd, hh⟩, h2⟩
theorem hs_nil (σ : Heap) : Hs B σ σ emp := ⟨⟨[], by simp, by simp⟩, fun _ => none, fun _ => rfl, fun _ _ h => by cases h⟩
theorem hs_len (H : Hs B σ0 σ P) : σ0.length ≤ σ.length := by obtain ⟨⟨bs, rfl, _⟩, _⟩ := H; simp
theorem hs_get (H : Hs B σ0 σ (blk id b * R)) : σ0.length ≤ id ∧ σ[id]? = some b := by
 obtain ⟨h1, h, ⟨f, g, hf, hg, hd, hh⟩, h2⟩ := H
 exact h2 id b (by rw [hh id, hf id]; simp)
theorem hs_B (H : Hs B σ0 σ (blk id b * R)) : B b := by
 obtain ⟨h1, h2⟩ := hs_get H
 obtain ⟨⟨bs, rfl, hb⟩, _⟩ := H
 rw [List.getElem?_append_right h1] at h2
 exact hb b (List.mem_of_getElem? h2)
theorem hs_set (H : Hs B σ0 σ (blk id b * R)) (hb : B b') : Hs B σ0 (σ.set id b') (blk id b' * R) := by
 obtain ⟨hid, hget⟩ := hs_get H
 have hlt := (List.getElem?_eq_some_iff.1 hget).1
 obtain ⟨⟨bs, rfl, hB⟩, h, ⟨f, g, hf, hg, hd, hh⟩, h2⟩ := H
 refine ⟨⟨bs.set (id - σ0.length) b', by rw [List.set_append_right _ _ hid], fun x hx => ?_⟩, fun i => if i = id then some b' else g i, ⟨fun i => if i = id then some b' else none, g, fun i => rfl, hg, fun i => ?_, fun i => ?_⟩, fun i x hx => ?_⟩
 ·rcases List.mem_or_eq_of_mem_set hx with hx | hx
  ·exact hB x hx
  ·subst hx; exact hb
 ·have := hd i; rw [hf i] at this
  by_cases e : i = id
  ·simp only [e, if_true] at this ⊢
   rcases this with h | h
   ·cases h
   ·exact .inr h
  ·simp [e]
 ·by_cases e : i = id <;> simp [e]
 ·by_cases e : i = id
  ·subst e
   simp only [if_true, Option.some.injEq] at hx
   subst hx
   exact ⟨hid, by rw [List.getElem?_set_self hlt]⟩
  ·simp only [e, if_false] at hx
   rw [List.getElem?_set_ne (fun e' => e e'.symm)]
   have := h2 i x (by rw [hh i, hf i]; simp [e, hx])
   exact this
theorem hs_new (H : Hs B σ0 σ R) (hb : B b) : Hs B σ0 (σ ++ [b]) (blk σ.length b * R) := by
 have hl := hs_len H
 obtain ⟨⟨bs, rfl, hB⟩, h, hr, h2⟩ := H
 have hn : ∀ i x, h i = some x → i < (σ0 ++ bs).length := fun i x hx => (List.getElem?_eq_some_iff.1 (h2 i x hx).2).1
 refine ⟨⟨bs ++ [b], by simp, fun x hx => ?_⟩, fun i => if i = (σ0 ++ bs).length then some b else h i, ⟨fun i => if i = (σ0 ++ bs).length then some b else none, h, fun i => rfl, hr, fun i => ?_, fun i => ?_⟩, fun i x hx => ?_⟩
 ·rcases List.mem_append.1 hx with hx | hx
  ·exact hB x hx
  ·simp at hx; subst hx; exact hb
 ·by_cases e : i = (σ0 ++ bs).length
  ·right
   cases hi : h i with
   | none => rfl
   | some x => have := hn i x hi; omega
  ·simp only [e, if_false, true_or]
 ·by_cases e : i = (σ0 ++ bs).length <;> simp only [e, if_true, if_false, Option.or_some, Option.none_or, Option.some_or]
 ·by_cases e : i = (σ0 ++ bs).length
  ·subst e
   simp only [if_true, Option.some.injEq] at hx
   subst hx
   exact ⟨hl, by simp⟩
  ·simp only [e, if_false] at hx
   obtain ⟨k1, k2⟩ := h2 i x hx
   exact ⟨k1, by rw [List.getElem?_append_left (hn i x hx)]; exact k2⟩
end
section
variable {α : Type} {E : List AV → α → HP} {B : Blk → Prop} {σ0 σ : Heap} {R : HP}
def els (E : List AV → α → HP) : List (List AV) → List α → HP
 | [], [] => emp
 | e :: es, x :: l => E e x * els E es l
 | _, _ => pr False
theorem els_len : ∀ {es : List (List AV)} {l : List α} {R : HP}, Hs B σ0 σ (els E es l * R) → es.length = l.length
 | [], [], _, _ => rfl
 | [], _ :: _, _, H => (hs_pr.1 H).1.elim
 | _ :: _, [], _, H => (hs_pr.1 H).1.elim
 | e :: es, x :: l, R, H => by
  have := els_len (es := es) (l := l) (R := E e x * R) (hs_eq (by rw [els]; ac_rfl) H)
  simp [this]
theorem els_app : ∀ {es1 es2 : List (List AV)} {l1 l2 : List α}, es1.length = l1.length → els E (es1 ++ es2) (l1 ++ l2) = els E es1 l1 * els E es2 l2
 | [], es2, [], l2, _ => by rw [els, emp_star]; rfl
 | e :: es1, es2, x :: l1, l2, h => by
  simp only [List.cons_append, els]
  rw [els_app (by simpa using h)]
  ac_rfl
theorem els_one (e : List AV) (x : α) : els E [e] [x] = E e x := by rw [els, els, star_emp]
theorem els_at {es : List (List AV)} {l : List α} {i : Nat} {e : List AV} {x : α} (hl : es.length = l.length) (he : es[i]? = some e) (hx : l[i]? = some x) : els E es l = els E (es.eraseIdx i) (l.eraseIdx i) * E e x := by
 have h1 := (List.getElem?_eq_some_iff.1 he).1
 have h2 := (List.getElem?_eq_some_iff.1 hx).1
 have e1 : es = es.take i ++ e :: es.drop (i + 1) := by
  rw [← (List.getElem?_eq_some_iff.1 he).2, List.getElem_cons_drop, List.take_append_drop]
 have e2 : l = l.take i ++ x :: l.drop (i + 1) := by
  rw [← (List.getElem?_eq_some_iff.1 hx).2, List.getElem_cons_drop, List.take_append_drop]
 conv => lhs; rw [e1, e2]
 rw [els_app (by simp; omega), els, List.eraseIdx_eq_take_drop_succ, List.eraseIdx_eq_take_drop_succ, els_app (by simp; omega)]
 ac_rfl
def fl (c : α → List AV) : List AV → α → HP := fun e x => pr (e = c x)
theorem els_fl {c : α → List AV} : ∀ {es : List (List AV)} {l : List α} {R : HP}, Hs B σ0 σ (els (fl c) es l * R) ↔ es = l.map c ∧ Hs B σ0 σ R
 | [], [], R => by rw [els, emp_star]; simp
 | [], x :: l, R => by show Hs B σ0 σ (pr False * R) ↔ _; rw [hs_pr]; simp
 | e :: es, [], R => by show Hs B σ0 σ (pr False * R) ↔ _; rw [hs_pr]; simp
 | e :: es, x :: l, R => by
  rw [els, fl, star_assoc, hs_pr, els_fl, List.map_cons, List.cons.injEq, and_assoc]
def Sl (E : List AV → α → HP) (sz : Nat) (v : AV) (l : List α) : HP := fun h => (l = [] ∧ (v = .nsl ∨ v = .ez) ∧ emp h) ∨ ∃ id g seg, v = .os id g sz 0 l.length ∧ (blk id (.arr g sz seg) * els E seg l) h
variable {sz : Nat} {v : AV} {l : List α}
theorem sl_cases (H : Hs B σ0 σ (Sl E sz v l * R)) : (l = [] ∧ (v = .nsl ∨ v = .ez) ∧ Hs B σ0 σ R) ∨ ∃ id g seg, v = .os id g sz 0 l.length ∧ seg.length = l.length ∧ Hs B σ0 σ (blk id (.arr g sz seg) * (els E seg l * R)) := by
 have H2 := hs_drop H
 obtain ⟨h1, h, ⟨f, g, hf, hg, hd, hh⟩, h2⟩ := H
 rcases hf with ⟨k1, k2, k3⟩ | ⟨id, gg, seg, k1, k2⟩
 ·exact .inl ⟨k1, k2, H2⟩
 ·have K : Hs B σ0 σ (blk id (.arr gg sz seg) * (els E seg l * R)) := hs_eq (star_assoc _ _ _) ⟨h1, h, ⟨f, g, k2, hg, hd, hh⟩, h2⟩
  exact .inr ⟨id, gg, seg, k1, els_len (R := blk id (.arr gg sz seg) * R) (hs_eq (by ac_rfl) K), K⟩
theorem slz (H : Hs B σ0 σ R) (hv : v = .nsl ∨ v = .ez) : Hs B σ0 σ (Sl E sz v [] * R) :=
 hs_mono (P := emp) (fun h k => .inl ⟨rfl, hv, k⟩) (hs_eq (emp_star R).symm H)
theorem sl_os {id g : Nat} {seg : List (List AV)} {n : Nat} (H : Hs B σ0 σ (blk id (.arr g sz seg) * (els E seg l * R))) (hn : n = l.length := by rfl) : Hs B σ0 σ (Sl E sz (.os id g sz 0 n) l * R) :=
 hs_mono (P := blk id (.arr g sz seg) * els E seg l) (fun h k => .inr ⟨id, g, seg, by rw [hn], k⟩) (hs_eq (star_assoc _ _ _).symm H)
theorem sl_len (H : Hs B σ0 σ (Sl E sz v l * R)) : A.lenS v = some (.int .i64 l.length) := by
 rcases sl_cases H with ⟨rfl, rfl | rfl, _⟩ | ⟨id, g, seg, rfl, _⟩ <;> rfl
theorem sl_app {ys : List (List AV)} {xs : List α} {most : Nat} (H : Hs B σ0 σ (Sl E sz v l * (els E ys xs * R))) (hm : l.length + xs.length ≤ most) (hB : ∀ g g' seg, (seg = [] ∨ B (.arr g sz seg)) → B (.arr g' sz (seg ++ ys))) :
  ∃ v' σ', A.append sz most v (.sl sz ys) σ = some (v', σ') ∧ Hs B σ0 σ' (Sl E sz v' (l ++ xs) * R) := by
 rcases sl_cases H with ⟨rfl, hv, H⟩ | ⟨id, g, seg, rfl, hl, H⟩
 ·have hxl := els_len H
  by_cases hy : ys = []
  ·subst hy
   have : xs = [] := List.eq_nil_of_length_eq_zero (by simpa using hxl.symm)
   subst this
   refine ⟨v, σ, ?_, slz (hs_drop H) hv⟩
   rcases hv with rfl | rfl <;> simp [A.append, A.elems, A.appendL]
  ·refine ⟨.os σ.length ys.length sz 0 ys.length, σ ++ [.arr ys.length sz ys], ?_, ?_⟩
   ·have : ys.length ≤ most := by simp at hm; omega
    rcases hv with rfl | rfl <;> simp [A.append, A.elems, A.appendL, hy, this]
   ·have H2 := hs_new H (by simpa using hB 0 ys.length [] (.inl rfl) : B (.arr ys.length sz ys))
    exact sl_os H2 (by simpa using hxl)
 ·have hxl := els_len (hs_eq (show _ = els E ys xs * (blk id (.arr g sz seg) * (els E seg l * R)) by ac_rfl) H)
  obtain ⟨h1, h2⟩ := hs_get H
  by_cases hy : ys = []
  ·subst hy
   have : xs = [] := List.eq_nil_of_length_eq_zero (by simpa using hxl.symm)
   subst this
   refine ⟨.os id g sz 0 l.length, σ, ?_, ?_⟩
   ·have : l.length ≤ most := by simpa using hm
    simp [A.append, A.elems, A.appendL, h2, hl, this]
   ·rw [List.append_nil]
    exact sl_os (hs_eq (by rw [els, emp_star]) H)
  ·have hp : 0 < ys.length := List.length_pos_iff.2 hy
   refine ⟨.os id (g + ys.length) sz 0 (l.length + ys.length), σ.set id (.arr (g + ys.length) sz (seg ++ ys)), ?_, ?_⟩
   ·have e1 : l.length + ys.length ≤ most := by omega
    have e2 : seg.take l.length = seg := List.take_of_length_le (by omega)
    simp [A.append, A.elems, A.appendL, h2, hl, e1, hy, e2, hp]
   ·have H2 := hs_set (b' := .arr (g + ys.length) sz (seg ++ ys)) H (hB g _ seg (.inr (hs_B H)))
    exact sl_os (id := id) (g := g + ys.length) (seg := seg ++ ys) (hs_eq (by rw [els_app hl]; ac_rfl) H2) (by simp; omega)
end
end Go.Proofs.YtkdafecbdncmiaaDoor

namespace Go.Proofs.YtkdafecbdncmiaaDoor
set_option linter.unusedSectionVars false
set_option linter.unusedVariables false
set_option linter.unusedSimpArgs false
open HP
section
variable {σ : Heap} {id g sz off len : Nat} {es : List (List AV)}
theorem cnd_t {α : Type} {X Y : Option α} : A.cond (.bool true) X Y = X := rfl
theorem cnd_f {α : Type} {X Y : Option α} : A.cond (.bool false) X Y = Y := rfl
theorem bnd_s {y d k : Nat} (h : k ≤ y) : A.bound y d (some (.int .i64 (k : Int))) = some k := by
 have : (k : Int) ≤ y := by omega
 simp [A.bound, this]
theorem bnd_n {y d : Nat} : A.bound y d none = some d := rfl
theorem room_arr (h : σ[id]? = some (.arr g sz es)) (hl : off + len ≤ es.length) : A.room σ id g sz off len = es.length - off := by simp [A.room, h, hl]
theorem slo {lo hi : Option AV} {r h l : Nat} (hr : A.room σ id g sz off len = r) (hh : A.bound r len hi = some h) (hl : A.bound h 0 lo = some l) : A.sliceS sz (.os id g sz off len) lo hi σ = some (.os id g sz (off + l) (h - l)) := by
 simp [A.sliceS, hr, hh, hl]
theorem add_nn {a b : Nat} (h : a + b < 9223372036854775808) : A.add (.int .i64 (a : Int)) (.int .i64 (b : Int)) = some (.int .i64 ((a + b : Nat) : Int)) := by
 rw [aAdd, wrap64 (by unfold inI; omega)]; simp
theorem add_n1 {a : Nat} (h : a + 1 < 9223372036854775808) : A.add (.int .i64 (a : Int)) (.int .i64 1) = some (.int .i64 ((a + 1 : Nat) : Int)) := add_nn (b := 1) h
end
section
variable {α : Type} {E : List AV → α → HP} {σ0 σ : Heap} {R : HP} {sz most : Nat} {zs : List AV} {rot : List AV → Heap → Option (AV × Heap)} {v : AV} {l : List α} {y : α} {ye : List AV} {i : Nat}
end
end Go.Proofs.YtkdafecbdncmiaaDoor

namespace Go.Proofs.YtkdafecbdncmiaaDoor
set_option linter.unusedSectionVars false
set_option linter.unusedVariables false
set_option linter.unusedSimpArgs false
def chkE {α : Type} (f : Nat → α → Int) : List α → Nat → Int
 | [], _ => 0
 | x :: l, i => if f i x = 0 then chkE f l (i + 1) else f i x
section
variable {α β γ S B R : Type}
theorem chkE_zero {f : Nat → α → Int} : ∀ (l : List α) (i : Nat), chkE f l i = 0 ↔ ∀ j x, l[j]? = some x → f (i + j) x = 0
 | [], i => by simp [chkE]
 | y :: l, i => by
  rw [chkE]
  by_cases h : f i y = 0
  ·rw [if_pos h, chkE_zero l (i + 1)]
   constructor
   ·intro k j x hx
    cases j with
    | zero => simp at hx; subst hx; exact h
    | succ j => have := k j x (by simpa using hx); rwa [show i + 1 + j = i + (j + 1) by omega] at this
   ·intro k j x hx
    have := k (j + 1) x (by simpa using hx)
    rwa [show i + (j + 1) = i + 1 + j by omega] at this
  ·rw [if_neg h]
   exact ⟨fun e => absurd e h, fun k => absurd (k 0 y rfl) h⟩
theorem forE_le {l : List α} {body : Nat → α → S → Option (Lr S B R)} {fin : S → Option B} {s : S} {K1 : B → Option γ} {K2 : R → Option γ} (hl : l.length ≤ mxl) : forE l body fin s K1 K2 = (forL body fin l 0 s).bind fun q => q.elim K1 K2 := if_pos hl
theorem forE_chk {f : Nat → α → Int} {l : List α} {body : Nat → α → Unit → Option (Lr Unit Unit Int)} {fin : Unit → Option Unit} {s : Unit} {K1 : Unit → Option γ} {K2 : Int → Option γ} (hl : l.length ≤ mxl) (hb : ∀ i x, l[i]? = some x → body i x () = some (if f i x = 0 then .go () else .ret (f i x))) (hf : fin () = some () := by rfl) : forE l body fin s K1 K2 = if chkE f l 0 = 0 then K1 () else K2 (chkE f l 0) := by
 rw [forE_le hl]
 have key : ∀ (rest pre : List α), l = pre ++ rest → forL body fin rest pre.length () = some (if chkE f rest pre.length = 0 then .inl () else .inr (chkE f rest pre.length)) := by
  intro rest
  induction rest with
  | nil => intro pre _; simp [forL, hf, chkE]
  | cons x rest ih =>
   intro pre hp
   rw [forL, hb pre.length x (by rw [hp]; simp), Option.bind_some, chkE]
   by_cases h : f pre.length x = 0
   ·simp only [h, if_true]
    have := ih (pre ++ [x]) (by simpa using hp)
    simpa using this
   ·simp only [h, if_false]
 have k := key l [] rfl
 rw [List.length_nil] at k
 rw [show s = () from rfl, k, Option.bind_some]
 split <;> rfl
theorem ite_ret {p : Prop} [Decidable p] {k f : Int} {Y : Option (Lr Unit Unit Int)} (hk : k ≠ 0) (h : Y = some (if f = 0 then .go () else .ret f)) : (if p then some (.ret k) else Y) = some (if (if p then k else f) = 0 then .go () else .ret (if p then k else f)) := by
 by_cases hp : p
 ·simp [hp, hk]
 ·simp [hp, h]
theorem go_ret : (some (.go ()) : Option (Lr Unit Unit Int)) = some (if (0 : Int) = 0 then .go () else .ret 0) := rfl
theorem elim_ret (k : Int) : (if k = 0 then some (.go ()) else some (.ret k) : Option (Lr Unit Unit Int)) = some (if k = 0 then .go () else .ret k) := by split <;> rfl
theorem forE_fold {l : List α} {body : Nat → α → S → Option (Lr S B R)} {fin : S → Option B} {s : S} {K1 : B → Option γ} {K2 : R → Option γ} (g : S → α → S) (P : Nat → S → Prop) (hl : l.length ≤ mxl) (h0 : P 0 s) (hP : ∀ i x s, l[i]? = some x → P i s → P (i + 1) (g s x)) (hb : ∀ i x s, l[i]? = some x → P i s → body i x s = some (.go (g s x))) : forE l body fin s K1 K2 = (fin (l.foldl g s)).bind K1 := by
 rw [forE_le hl]
 have key : ∀ (rest pre : List α) (s : S), l = pre ++ rest → P pre.length s → forL body fin rest pre.length s = (fin (rest.foldl g s)).map .inl := by
  intro rest
  induction rest with
  | nil => intro pre s _ _; simp [forL]
  | cons x rest ih =>
   intro pre s hp hq
   have hx : l[pre.length]? = some x := by rw [hp]; simp
   rw [forL, hb pre.length x s hx hq, Option.bind_some, List.foldl_cons]
   have := ih (pre ++ [x]) (g s x) (by simpa using hp) (by simpa using hP _ _ _ hx hq)
   simpa using this
 have k := key l [] s rfl h0
 rw [List.length_nil] at k
 rw [k]
 cases fin (l.foldl g s) <;> rfl
def pv [Inhabited α] (l : List α) (i : Nat) : α := if 0 < i then l.getD (i - 1) default else default
theorem tIx_get {l : List α} {i : Int} {x : α} (h0 : 0 ≤ i) (h : l[i.toNat]? = some x) : tIx l i = some x := by rw [tIx, if_pos h0, h]
theorem prev_at [Inhabited α] {l : List α} {i : Nat} {x : α} (h : l[i]? = some x) (hl : l.length ≤ mxl) : (if decide (0 < (i : Int)) = true then tIx l (IntKind.i64.wrap ((i : Int) - 1)) else some default) = some (pv l i) := by
 have hi := (List.getElem?_eq_some_iff.1 h).1
 unfold pv
 by_cases h0 : 0 < i
 ·rw [if_pos (by simpa using h0), if_pos h0, wrap64 (by unfold inI; unfold mxl at hl; omega)]
  refine tIx_get (by omega) ?_
  have : ((i : Int) - 1).toNat = i - 1 := by omega
  rw [this, List.getD, List.getElem?_eq_getElem (by omega)]
  rfl
 ·rw [if_neg (by simpa using h0), if_neg h0]
theorem find2 {a b : Int} : (([a, b] : List Int).find? fun n => decide (¬ n = 0)).getD 0 = if ¬ (a = 0) then a else b := by
 by_cases ha : a = 0
 ·by_cases hb : b = 0 <;> simp [ha, hb, List.find?]
 ·simp [ha, List.find?]
theorem find3 {a b c : Int} : (([a, b, c] : List Int).find? fun n => decide (¬ n = 0)).getD 0 = if ¬ (a = 0) then a else if ¬ (b = 0) then b else c := by
 by_cases ha : a = 0
 ·by_cases hb : b = 0
  ·by_cases hc : c = 0 <;> simp [ha, hb, hc, List.find?]
  ·simp [ha, hb, List.find?]
 ·simp [ha, List.find?]
end
theorem toList_d (s : ByteArray) : s.toList = s.data.toList := ByteArray.toList_eq s
theorem cmpB_lt : ∀ (a b : List UInt8), Lib.compareBytes a b < 0 ↔ Op.bytesLess a b = true
 | [], [] => by simp [Lib.compareBytes, Op.bytesLess]
 | [], _ :: _ => by simp [Lib.compareBytes, Op.bytesLess]
 | _ :: _, [] => by simp [Lib.compareBytes, Op.bytesLess]
 | a :: x, b :: y => by
  rw [Lib.compareBytes, Op.bytesLess]
  by_cases h1 : a < b
  ·simp [h1]
  ·by_cases h2 : b < a
   ·have : a ≠ b := by rintro rfl; exact h1 h2
    simp [h1, h2, this]
   ·have : a = b := UInt8.le_antisymm (UInt8.not_lt.1 h2) (UInt8.not_lt.1 h1)
    subst this
    simp [UInt8.lt_irrefl, cmpB_lt x y]
def ltK (a b : KeyD) : Bool := decide (a.unit < b.unit) || (decide (a.unit = b.unit) && Op.bytesLess a.param.toList b.param.toList)
end Go.Proofs.YtkdafecbdncmiaaDoor

namespace Go.Proofs.YtkdafecbdncmiaaDoor
set_option linter.unusedSectionVars false
set_option linter.unusedVariables false
set_option linter.unusedSimpArgs false
def withinB (n lo hi : Int) : Bool := decide (lo ≤ n ∧ n ≤ hi)
def okc (c : UInt8) : Bool := decide (97 ≤ c.toNat ∧ c.toNat ≤ 122) || decide (48 ≤ c.toNat ∧ c.toNat ≤ 57) || decide (c.toNat = 45)
def rowB (s : ByteArray) : Bool := s.data.toList.all okc && decide (0 < s.size)
def nameB (s : ByteArray) : Bool := rowB s && decide (s.size ≤ 20) && decide (97 ≤ (s.data.toList.getD 0 0).toNat) && decide ((s.data.toList.getD 0 0).toNat ≤ 122)
def pc (c : UInt8) : Bool := decide (32 ≤ c.toNat ∧ c.toNat ≤ 126)
def edgeB (s : ByteArray) : Bool := decide (0 < s.size) && decide (s.size ≤ 60) && (decide ((s.data.toList.getD 0 0).toNat ≠ 32) && decide ((s.data.toList.getD (s.size - 1) 0).toNat ≠ 32))
def titleB (s : ByteArray) : Bool := s.data.toList.all pc && edgeB s
theorem getD_byte (s : ByteArray) (i : Nat) (h : i < s.size) : s.data.toList.getD i 0 = s[i] := by
 rw [List.getD_eq_getElem?_getD, List.getElem?_eq_getElem (by simpa using h)]; rfl
def chkR (pre : List RangeD) : List RangeD → Int
 | [] => 0
 | r :: rest =>
  if withinB r.low 0 65535 = false ∨ withinB r.high 0 65535 = false ∨ r.high < r.low then 1
  else if 0 < pre.length ∧ r.low ≤ (pre.getLast?.map (·.high)).getD 0 then 7
  else if nameB r.name = false then 5
  else if memB r.name (pre.map (·.name)) = true then 6
  else chkR (pre ++ [r]) rest
def rangesF (l : List RangeD) : Int := if 30 < l.length then 2 else chkR [] l
def slotsOf (l : List ParamD) : List Int := l.flatMap fun x => if 0 < x.fine then [x.att, x.fine] else [x.att]
theorem slotsOf_snoc (l : List ParamD) (x : ParamD) : slotsOf (l ++ [x]) = slotsOf l ++ (if 0 < x.fine then [x.att, x.fine] else [x.att]) := by simp [slotsOf]
def chkP (size : Int) (pre : List ParamD) : List ParamD → Int
 | [] => 0
 | x :: rest =>
  if nameB x.name = false then 5
  else if memB x.name (pre.map (·.name)) = true then 6
  else if withinB x.group 1 4 = false then 4
  else if withinB x.att 1 size = false ∨ withinB x.fine 0 size = false ∨ withinB x.default 0 65535 = false then 1
  else if x.att = x.fine ∨ memB x.att (slotsOf pre) = true ∨ (0 < x.fine ∧ memB x.fine (slotsOf pre) = true) then 12
  else if rangesF x.ranges = 0 then chkP size (pre ++ [x]) rest else rangesF x.ranges
def profileF (p : ProfileD) : Int :=
 if nameB p.name = false then 5 else if withinB p.size 1 512 = false then 1 else if p.params.length = 0 then 8 else if 40 < p.params.length then 2 else chkP p.size [] p.params
def chkL (pre : List ProfileD) : List ProfileD → Int
 | [] => 0
 | p :: rest => if profileF p = 0 then (if memB p.name (pre.map (·.name)) = true then 6 else chkL (pre ++ [p]) rest) else profileF p
def libF (l : List ProfileD) : Int := if 60 < l.length then 2 else chkL [] l
def profOf (nm : ByteArray) : List ProfileD → ProfileD × Bool
 | [] => (⟨⟨#[]⟩, 0, []⟩, false)
 | p :: rest => if p.name = nm then (p, true) else profOf nm rest
def freeF (f : Nat → Bool) : Nat → Nat → Bool
 | 0, _ => true
 | n + 1, a => if 512 < a ∨ f a = true then false else freeF f n (a + 1)
def markF (f : Int → Nat → Bool) (u : Int) (a s : Nat) : Int → Nat → Bool := fun v k => if v = u ∧ a ≤ k ∧ k < a + s then true else f v k
def ordB (pre : List Int) (n : Int) : Bool := match pre.getLast? with | some m => decide (n ≤ m) | none => false
def lastU (lib : List ProfileD) (u : UnitD) : Int := u.address + (profOf u.profile lib).1.size - 1
def clashU (lib : List ProfileD) (u : UnitD) (pre : List UnitD) : Bool := pre.any fun x => decide (x.univ = u.univ ∧ x.address ≤ lastU lib u ∧ u.address ≤ lastU lib x)
def chkU (lib : List ProfileD) (pre : List UnitD) : List UnitD → Int
 | [] => 0
 | u :: rest =>
  if withinB u.number 1 9999 = false then 1
  else if ordB (pre.map (·.number)) u.number = true then 7
  else if (profOf u.profile lib).2 = false then 5
  else if withinB u.univ 1 64 = false ∨ withinB u.address 1 512 = false ∨ 512 < lastU lib u then 1
  else if clashU lib u pre = true then 12
  else chkU lib (pre ++ [u]) rest
def rigF (r : RigD) : Int := if libF r.library = 0 then (if 400 < r.units.length then 2 else chkU r.library [] r.units) else libF r.library
def UnitsOk (lib : List ProfileD) (pre : List UnitD) : Prop := ∀ x ∈ pre, 1 ≤ x.address ∧ x.address ≤ lastU lib x ∧ lastU lib x ≤ 512
def MarksP (lib : List ProfileD) (pre : List UnitD) (f : Int → Nat → Bool) : Prop := ∀ v k, f v k = true ↔ ∃ x ∈ pre, x.univ = v ∧ x.address ≤ (k : Int) ∧ (k : Int) ≤ lastU lib x
theorem MarksP.nil (lib : List ProfileD) : MarksP lib [] (fun _ _ => false) := fun v k => by simp
theorem MarksP.snoc {lib : List ProfileD} {pre : List UnitD} {f : Int → Nat → Bool} (h : MarksP lib pre f) (u : UnitD) (a s : Nat) (ha : u.address = a) (hs : lastU lib u = (a : Int) + s - 1) : MarksP lib (pre ++ [u]) (markF f u.univ a s) := by
 intro v k
 unfold markF
 by_cases e : v = u.univ ∧ a ≤ k ∧ k < a + s
 ·rw [if_pos e]
  refine ⟨fun _ => ⟨u, by simp, e.1.symm, by omega, by omega⟩, fun _ => rfl⟩
 ·rw [if_neg e, h v k]
  constructor
  ·rintro ⟨x, hx, h1⟩
   exact ⟨x, by simp [hx], h1⟩
  ·rintro ⟨x, hx, h1, h2, h3⟩
   simp only [List.mem_append, List.mem_singleton] at hx
   rcases hx with hx | rfl
   ·exact ⟨x, hx, h1, h2, h3⟩
   ·exact absurd ⟨h1.symm, by omega, by omega⟩ e
theorem freeF_iff (f : Nat → Bool) : ∀ (s a : Nat), freeF f s a = true ↔ ∀ k, a ≤ k → k < a + s → k ≤ 512 ∧ f k = false
 | 0, a => by simp [freeF]; intro k h1 h2; omega
 | s + 1, a => by
  rw [freeF]
  by_cases e : 512 < a ∨ f a = true
  ·rw [if_pos e]
   simp only [Bool.false_eq_true, false_iff]
   intro h
   have := h a (Nat.le_refl _) (by omega)
   rcases e with e | e
   ·omega
   ·rw [e] at this; simp at this
  ·rw [if_neg e, freeF_iff f s (a + 1)]
   constructor
   ·intro h k h1 h2
    by_cases hk : k = a
    ·subst hk
     refine ⟨by omega, ?_⟩
     cases hf : f k
     ·rfl
     ·exact absurd (.inr hf) e
    ·exact h k (by omega) (by omega)
   ·intro h k h1 h2
    exact h k (by omega) (by omega)
theorem free_clash {lib : List ProfileD} {pre : List UnitD} {f : Int → Nat → Bool} (h : MarksP lib pre f) (hok : UnitsOk lib pre) (u : UnitD) (a s : Nat) (ha : u.address = a) (h1 : 1 ≤ s) (hs : lastU lib u = (a : Int) + s - 1) (h2 : lastU lib u ≤ 512) : freeF (f u.univ) s a = !clashU lib u pre := by
 rw [Bool.eq_iff_iff, freeF_iff]
 simp only [Bool.not_eq_true', clashU, List.any_eq_false, decide_eq_true_eq, not_and]
 constructor
 ·intro hf x hx e1 e2 e3
  have hx' := hok x hx
  obtain ⟨k, hk⟩ : ∃ k : Nat, (k : Int) = max x.address a := ⟨(max x.address (a : Int)).toNat, by omega⟩
  have hf' := (hf k (by omega) (by omega)).2
  have : f u.univ k = true := (h u.univ k).2 ⟨x, hx, e1, by omega, by omega⟩
  rw [this] at hf'; simp at hf'
 ·intro hf k h3 h4
  refine ⟨by omega, ?_⟩
  cases hfk : f u.univ k
  ·rfl
  ·obtain ⟨x, hx, e1, e2, e3⟩ := (h u.univ k).1 hfk
   exact absurd (show u.address ≤ lastU lib x by omega) (hf x hx e1 (by omega))
theorem profileF_size {p : ProfileD} (h : profileF p = 0) : 1 ≤ p.size ∧ p.size ≤ 512 := by
 unfold profileF at h
 by_cases h1 : nameB p.name = false
 ·rw [if_pos h1] at h; simp at h
 ·rw [if_neg h1] at h
  by_cases h2 : withinB p.size 1 512 = false
  ·rw [if_pos h2] at h; simp at h
  ·simpa [withinB] using h2
theorem chkL_sizes : ∀ (l pre : List ProfileD), chkL pre l = 0 → ∀ p ∈ l, 1 ≤ p.size ∧ p.size ≤ 512
 | [], pre, h, p, hp => by simp at hp
 | q :: rest, pre, h, p, hp => by
  rw [chkL] at h
  by_cases e : profileF q = 0
  ·rw [if_pos e] at h
   by_cases e2 : memB q.name (pre.map (·.name)) = true
   ·rw [if_pos e2] at h; simp at h
   ·rw [if_neg e2] at h
    simp only [List.mem_cons] at hp
    rcases hp with rfl | hp
    ·exact profileF_size e
    ·exact chkL_sizes rest _ h p hp
  ·rw [if_neg e] at h; exact absurd h e
theorem libF_sizes {l : List ProfileD} (h : libF l = 0) : ∀ p ∈ l, 1 ≤ p.size ∧ p.size ≤ 512 := by
 unfold libF at h
 by_cases e : 60 < l.length
 ·rw [if_pos e] at h; simp at h
 ·rw [if_neg e] at h; exact chkL_sizes l [] h
theorem profOf_mem (nm : ByteArray) : ∀ (l : List ProfileD), (profOf nm l).2 = true → (profOf nm l).1 ∈ l
 | [], h => by simp [profOf] at h
 | p :: r, h => by
  rw [profOf] at h ⊢
  by_cases e : p.name = nm
  ·rw [if_pos e]; simp
  ·rw [if_neg e] at h ⊢
   exact List.mem_cons_of_mem _ (profOf_mem nm r h)
theorem UnitsOk.snoc {lib : List ProfileD} {pre : List UnitD} (h : UnitsOk lib pre) {u : UnitD} (h1 : 1 ≤ u.address ∧ u.address ≤ lastU lib u ∧ lastU lib u ≤ 512) : UnitsOk lib (pre ++ [u]) := fun x hx => by
 simp only [List.mem_append, List.mem_singleton] at hx
 rcases hx with hx | rfl
 ·exact h x hx
 ·exact h1
end Go.Proofs.YtkdafecbdncmiaaDoor

namespace Go.Proofs.YtkdafecbdncmiaaDoor
set_option linter.unusedSectionVars false
set_option linter.unusedVariables false
set_option linter.unusedSimpArgs false
theorem Within_eq (n lo hi : Int) (σ : Heap) : m_word_Within [.int .i64 n, .int .i64 lo, .int .i64 hi] σ = some (.bool (withinB n lo hi), σ) := by
 refine wrap_eq rfl ?_ rfl
 show r_word_Within _ _ _ σ = _
 unfold r_word_Within withinB
 by_cases h : lo ≤ n <;> simp only [MSb, reduceCtorEq, h, true_and, false_and]
theorem When_eq (b : Bool) (n : Int) (σ : Heap) : m_word_When [.bool b, .int .i64 n] σ = some (.int .i64 (if b = true then n else 0), σ) := by
 refine wrap_eq rfl ?_ rfl
 show r_word_When _ _ σ = _
 unfold r_word_When
 cases b <;> simp [MSb, reduceCtorEq]
theorem sidx_eq (s : ByteArray) {i : Nat} (h : i < s.size) : A.sidx (.str s) (.int .i64 (i : Int)) = some (.int .u8 (s.data.toList.getD i 0).toNat) := by
 have h1 : s[i]? = some s[i] := by simp [h]
 simp [A.sidx, A.idx, h, getD_byte s i h]
 rfl
theorem isEmpty_ne (s : ByteArray) : (decide (¬ s = ⟨#[]⟩)) = decide (0 < s.size) := by
 rw [decide_eq_decide]
 constructor
 ·intro h
  rcases Nat.eq_zero_or_pos s.size with e | e
  ·exact absurd (ByteArray.ext (Array.eq_empty_of_size_eq_zero e)) h
  ·exact e
 ·rintro h rfl; exact absurd h (by decide)
theorem Row_eq (s : ByteArray) (hs : okS s) (σ : Heap) : m_word_Row [.str s] σ = some (.bool (rowB s), σ) := by
 refine wrap_eq rfl ?_ rfl
 show r_word_Row _ σ = _
 unfold r_word_Row
 simp only [MSb, reduceCtorEq]
 refine (all_loop (p := okc) s (some (.bool false, σ)) ?_ ?_ ?_).trans ?_
 ·intro i c hi hc
  have h1 : inI ((i : Int) + 1) := by unfold okS mxl at hs; unfold inI; omega
  have h2 : (i : Int) < s.size := by omega
  simp only [MSb, reduceCtorEq, h2, hc, wrap64 h1, okc]
  clear hc h1
  repeat' ((first | rw [gDp] | rw [gDb] | rw [cDp] | rw [cDnp] | rw [cDn] | rw [cDb]); split <;> try simp only [MSb, reduceCtorEq, *])
  all_goals first | rfl | (refine (if_pos ?_).symm; simp; omega) | (refine (if_neg ?_).symm; simp; omega) | (refine congrArg some (congrArg (fun b => (AV.bool b, σ)) ?_); rw [Bool.eq_iff_iff]; simp; omega)
 ·simp only [MSb, reduceCtorEq, Int.lt_irrefl]
 ·intro i; simp only [MSb, reduceCtorEq]
 ·simp only [MSb, reduceCtorEq, isEmpty_ne, rowB]
  cases s.data.toList.all okc <;> simp
theorem rowB_pos {s : ByteArray} (h : rowB s = true) : 0 < s.size := by
 simp only [rowB, Bool.and_eq_true, decide_eq_true_eq] at h; exact h.2
theorem Name_eq (s : ByteArray) (hs : okS s) (σ : Heap) : m_word_Name [.str s] σ = some (.bool (nameB s), σ) := by
 refine wrap_eq rfl ?_ rfl
 show r_word_Name _ σ = _
 unfold r_word_Name
 simp only [MSb, reduceCtorEq, Row_eq s hs]
 cases h : rowB s
 ·simp [MSb, reduceCtorEq, nameB, h]
 ·have h0 := rowB_pos h
  have := sidx_eq s h0
  simp only [Int.ofNat_zero] at this
  simp only [MSb, reduceCtorEq, this]
  simp only [nameB, h, Bool.true_and]
  generalize s.data.toList.getD 0 0 = c0 at *
  repeat' ((first | rw [gDp] | rw [gDb] | rw [cDp] | rw [cDnp] | rw [cDn] | rw [cDb]); split <;> try simp only [MSb, reduceCtorEq, *])
  all_goals first | rfl | (refine (if_pos ?_).symm; simp; omega) | (refine (if_neg ?_).symm; simp; omega) | (refine congrArg some (congrArg (fun b => (AV.bool b, σ)) ?_); rw [Bool.eq_iff_iff]; simp; omega)
theorem Title_eq (s : ByteArray) (hs : okS s) (σ : Heap) : m_word_Title [.str s] σ = some (.bool (titleB s), σ) := by
 refine wrap_eq rfl ?_ rfl
 show r_word_Title _ σ = _
 unfold r_word_Title
 simp only [MSb, reduceCtorEq]
 refine (all_loop (p := pc) s (some (.bool false, σ)) ?_ ?_ ?_).trans ?_
 ·intro i c hi hc
  have h1 : inI ((i : Int) + 1) := by unfold okS mxl at hs; unfold inI; omega
  have h2 : (i : Int) < s.size := by omega
  simp only [MSb, reduceCtorEq, h2, hc, wrap64 h1, pc]
  clear h1
  repeat' ((first | rw [gDp] | rw [gDb] | rw [cDp] | rw [cDnp] | rw [cDn] | rw [cDb]); split <;> try simp only [MSb, reduceCtorEq, *])
  all_goals first | rfl | (refine (if_pos ?_).symm; simp; omega) | (refine (if_neg ?_).symm; simp; omega) | (refine congrArg some (congrArg (fun b => (AV.bool b, σ)) ?_); rw [Bool.eq_iff_iff]; simp; omega)
 ·simp only [MSb, reduceCtorEq, Int.lt_irrefl]
 ·intro i; simp only [MSb, reduceCtorEq]
 ·simp only [MSb, reduceCtorEq, isEmpty_ne, titleB]
  cases s.data.toList.all pc
  ·simp
  ·simp only [if_true, Bool.true_and]
   by_cases h0 : 0 < s.size
   ·by_cases h60 : s.size ≤ 60
    ·have e0 := sidx_eq s h0
     have e1 := sidx_eq s (i := s.size - 1) (by omega)
     simp only [Int.ofNat_zero] at e0
     rw [show ((s.size - 1 : Nat) : Int) = (s.size : Int) - 1 by omega] at e1
     have h1 : inI ((s.size : Int) - 1) := by unfold okS mxl at hs; unfold inI; omega
     have h60' : (s.size : Int) ≤ 60 := by omega
     have hw := wrap64 h1
     simp only [edgeB, h0, h60]
     generalize s.data.toList.getD 0 0 = c0 at *
     generalize s.data.toList.getD (s.size - 1) 0 = c1 at *
     simp only [MSb, reduceCtorEq, h0, h60', e0, e1, hw]
     repeat' ((first | rw [gDp] | rw [gDb] | rw [cDp] | rw [cDnp] | rw [cDn] | rw [cDb]); split <;> try simp only [MSb, reduceCtorEq, *])
     all_goals first | rfl | (refine (if_pos ?_).symm; simp; omega) | (refine (if_neg ?_).symm; simp; omega) | (refine congrArg some (congrArg (fun b => (AV.bool b, σ)) ?_); rw [Bool.eq_iff_iff]; simp; omega)
    ·have h60' : ¬ (s.size : Int) ≤ 60 := by omega
     simp [MSb, reduceCtorEq, h0, h60', edgeB, h60]
   ·simp [MSb, reduceCtorEq, h0, edgeB]
end Go.Proofs.YtkdafecbdncmiaaDoor

namespace Go.Proofs.YtkdafecbdncmiaaDoor
set_option linter.unusedSectionVars false
set_option linter.unusedVariables false
set_option linter.unusedSimpArgs false
theorem First_eq (l : List Int) (hl : l.length ≤ mxl) (σ : Heap) : m_word_First [sl 1 cInt l] σ = some (.int .i64 ((l.find? fun n => decide (¬ n = 0)).getD 0), σ) := by
 refine wrap_eq rfl ?_ rfl
 show r_word_First (sl 1 cInt l) σ = _
 unfold r_word_First
 simp only [MSb, reduceCtorEq]
 refine (loop_find l (fun n => decide (¬ n = 0)) (fun i => [.int .i64 0, .int .i64 (i : Int)]) σ (.exit 0, [.int .i64 0, .int .i64 (l.length : Int)], σ) (fun i n => (.ret, [.int .i64 n, .int .i64 (i : Int)], σ)) (some (AV.int .i64 0, σ)) (fun n => some (AV.int .i64 n, σ)) ?_ ?_ ?_ ?_).trans ?_
 ·intro i x hx
  obtain ⟨g1, g2, g3⟩ := iaddr_at 1 cInt hx
  have g3 := g3 hl
  simp only [MSb, reduceCtorEq, g1, g2, g3]
  repeat' ((first | rw [gDp] | rw [gDb] | rw [cDp] | rw [cDnp] | rw [cDn] | rw [cDb]); split <;> try simp only [MSb, reduceCtorEq, *])
  all_goals first | with_reducible rfl | (simp [*]; done) | (simp_all; done) | (simp_all; omega) | rfl
 ·exact hend_lss _ _ _
 ·simp only [MSb, reduceCtorEq]
 ·intro i n; simp only [MSb, reduceCtorEq]
 ·cases l.find? (fun n => decide (¬ n = 0)) <;> rfl
end Go.Proofs.YtkdafecbdncmiaaDoor

namespace Go.Proofs.YtkdafecbdncmiaaDoor
set_option linter.unusedSectionVars false
set_option linter.unusedVariables false
set_option linter.unusedSimpArgs false
theorem isLevelF_eq (n : Int) (σ : Heap) : m_fixture_isLevel [.int .i64 n] σ = some (.bool (withinB n 0 65535), σ) := by
 refine wrap_eq rfl ?_ rfl
 show r_fixture_isLevel _ σ = _
 unfold r_fixture_isLevel
 simp only [MSb, reduceCtorEq, Within_eq]
theorem checkRanges_eq (l : List RangeD) (hok : okL okRange l) (σ : Heap) : m_fixture_checkRanges [sl 3 cRange l] σ = some (.int .i64 (rangesF l), σ) := by
 refine wrap_eq rfl ?_ rfl
 show r_fixture_checkRanges (sl 3 cRange l) σ = _
 unfold r_fixture_checkRanges rangesF
 simp only [MSb, reduceCtorEq]
 by_cases h30 : 30 < l.length
 ·have h30' : (30 : Int) < l.length := by omega
  simp only [MSb, reduceCtorEq, h30, h30']
 ·have h30' : ¬ (30 : Int) < l.length := by omega
  simp only [MSb, reduceCtorEq, h30, h30']
  refine (loop_pre (S := Unit) (R := Int) l (fun pre x _ =>
    if withinB x.low 0 65535 = false ∨ withinB x.high 0 65535 = false ∨ x.high < x.low then .out 1
    else if 0 < pre.length ∧ x.low ≤ (pre.getLast?.map (·.high)).getD 0 then .out 7
    else if nameB x.name = false then .out 5
    else if memB x.name (pre.map (·.name)) = true then .out 6 else .go ())
   (fun pre _ => [.int .i64 0, .int .i64 (pre.length : Int)]) (fun pre _ => σ ++ [Blk.map (setZ (·.name) pre)])
   (fun _ => (.exit 0, [.int .i64 0, .int .i64 (l.length : Int)], σ ++ [Blk.map (setZ (·.name) l)])) (fun pre _ r => (.ret, [.int .i64 r, .int .i64 (pre.length : Int)], σ ++ [Blk.map (setZ (·.name) pre)]))
   (fun _ _ => True) () (fun _ => some (AV.int .i64 0, σ)) (fun r => some (AV.int .i64 r, σ)) ?_ ?_ trivial (fun _ _ _ _ _ _ _ _ => trivial) ?_ ?_).trans ?_
  ·intro pre x rest u hl _
   have hx := pre_get hl
   have hlt := pre_lt hl
   have hi1 : IntKind.i64.wrap ((pre.length : Int) + 1) = (pre.length : Int) + 1 := wrap64 (by unfold inI; omega)
   have hi2 : IntKind.i64.wrap ((pre.length : Int) - 1) = (pre.length : Int) - 1 := wrap64 (by unfold inI; omega)
   have hlt' : (pre.length : Int) < (l.length : Int) := by omega
   have hnm := (hok.2 x (by rw [hl]; simp)).2.2
   have hia := iaddr_sl 3 cRange l hx
   have hN := Name_eq _ hnm
   by_cases h0 : 0 < pre.length
   ·obtain ⟨y, hy, hy2⟩ := pre_last hl h0
    have hia2 := iaddr_pred 3 cRange l h0 hy2
    have h0' : (0 : Int) < pre.length := by omega
    clear hl hx hlt hok h30 h30' hy2 hnm
    simp only [MSb, reduceCtorEq, p1_cRange_0, p1_cRange_1, p1_cRange_2, pA_cRange, ce_cRange, sp_cRange, hlt', hia, isLevelF_eq, hi1, hi2, hN, h0', hy, h0]
    repeat' ((first | rw [gDp] | rw [gDb] | rw [cDp] | rw [cDnp] | rw [cDn] | rw [cDb]); split <;> try simp only [MSb, reduceCtorEq, p1_cRange_0, p1_cRange_1, p1_cRange_2, pA_cRange, ce_cRange, sp_cRange, isLevelF_eq, *])
    all_goals first | with_reducible rfl | (simp [*]; done) | (simp_all; done) | (simp_all; omega) | rfl
   ·have h0' : ¬ (0 : Int) < pre.length := by omega
    clear hl hx hlt hok h30 h30' hnm
    simp only [MSb, reduceCtorEq, p1_cRange_0, p1_cRange_1, p1_cRange_2, pA_cRange, ce_cRange, sp_cRange, hlt', hia, isLevelF_eq, hi1, hi2, hN, h0', h0]
    repeat' ((first | rw [gDp] | rw [gDb] | rw [cDp] | rw [cDnp] | rw [cDn] | rw [cDb]); split <;> try simp only [MSb, reduceCtorEq, p1_cRange_0, p1_cRange_1, p1_cRange_2, pA_cRange, ce_cRange, sp_cRange, isLevelF_eq, *])
    all_goals first | with_reducible rfl | (simp [*]; done) | (simp_all; done) | (simp_all; omega) | rfl
  ·intro u _
   simp only [MSb, reduceCtorEq, Int.lt_irrefl]
  ·intro u _; simp only [MSb, reduceCtorEq]
  ·intros; simp only [MSb, reduceCtorEq]
  ·refine (runP_fault (chk := chkR) ?_ ?_ (fun n => some (AV.int .i64 n, σ)) l []).trans ?_
   ·intro pre; rfl
   ·intro pre x rest; rw [chkR]; simp only [el_ite, el_out, el_go]
   ·rfl

theorem CheckProfile_eq (p : ProfileD) (hok : okProfile p) (σ : Heap) : m_fixture_CheckProfile [.agg (cProfile p)] σ = some (.int .i64 (profileF p), σ) := by
 refine wrap_eq rfl ?_ rfl
 show r_fixture_CheckProfile (.agg (cProfile p)) σ = _
 obtain ⟨pn, ps, l⟩ := p
 obtain ⟨hnm, hps, hokl⟩ := hok
 simp only at hnm hps hokl
 have hN := Name_eq _ hnm
 unfold r_fixture_CheckProfile profileF
 simp only [MSb, reduceCtorEq, p1_cProfile_0, p1_cProfile_1, p1_cProfile_2, pA_cProfile, ce_cProfile, sp_cProfile, hN, Within_eq]
 cases hn : nameB pn
 ·simp only [MSb, reduceCtorEq]
 cases hz : withinB ps 1 512
 ·simp only [MSb, reduceCtorEq]
 by_cases h0 : l.length = 0
 ·obtain rfl : l = [] := List.eq_nil_of_length_eq_zero h0
  simp [MSb, reduceCtorEq]
 have h0' : ¬ (l.length : Int) = 0 := by omega
 by_cases h40 : 40 < l.length
 ·have h40' : (40 : Int) < l.length := by omega
  simp only [MSb, reduceCtorEq, h0, h0', h40, h40']
 have h40' : ¬ (40 : Int) < l.length := by omega
 simp only [MSb, reduceCtorEq, h0, h0', h40, h40']
 refine (loop_pre (S := Unit) (R := Int) l (fun pre x _ =>
   if nameB x.name = false then .out 5
   else if memB x.name (pre.map (·.name)) = true then .out 6
   else if withinB x.group 1 4 = false then .out 4
   else if withinB x.att 1 ps = false ∨ withinB x.fine 0 ps = false ∨ withinB x.default 0 65535 = false then .out 1
   else if x.att = x.fine ∨ memB x.att (slotsOf pre) = true ∨ (0 < x.fine ∧ memB x.fine (slotsOf pre) = true) then .out 12
   else if rangesF x.ranges = 0 then .go () else .out (rangesF x.ranges))
  (fun pre _ => [.lbx (cProfile ⟨pn, ps, l⟩), .int .i64 0, .int .i64 (pre.length : Int)]) (fun pre _ => σ ++ [Blk.map (setZ (·.name) pre), Blk.map (setI id (slotsOf pre))])
  (fun _ => (.exit 1, [.lbx (cProfile ⟨pn, ps, l⟩), .int .i64 0, .int .i64 (l.length : Int)], σ ++ [Blk.map (setZ (·.name) l), Blk.map (setI id (slotsOf l))]))
  (fun pre _ r => (.ret, [.lbx (cProfile ⟨pn, ps, l⟩), .int .i64 r, .int .i64 (pre.length : Int)], σ ++ [Blk.map (setZ (·.name) pre), Blk.map (setI id (slotsOf pre))]))
  (fun _ _ => True) () (fun _ => some (AV.int .i64 0, σ)) (fun r => some (AV.int .i64 r, σ)) ?_ ?_ trivial (fun _ _ _ _ _ _ _ _ => trivial) ?_ ?_).trans ?_
 ·intro pre x rest u hl _
  have hx := pre_get hl; have hlt := pre_lt hl; have hi1 : IntKind.i64.wrap ((pre.length : Int) + 1) = (pre.length : Int) + 1 := wrap64 (by unfold inI; omega); have hi2 : IntKind.i64.wrap ((pre.length : Int) - 1) = (pre.length : Int) - 1 := wrap64 (by unfold inI; omega); have hlt' : (pre.length : Int) < (l.length : Int) := by omega
  obtain ⟨k1, k2, k3, k4, k5, k6⟩ := hokl.2 x (by rw [hl]; simp)
  have hNx := Name_eq _ k1
  have hRx := checkRanges_eq _ k6
  have hia := iaddr_sl 7 cParam l hx
  clear hl hx hlt hokl h40 h40' h0 h0' k1 k2 k3 k4 k5 k6 hnm hps hN hn hz
  simp only [MSb, reduceCtorEq, p1_cParam_0, p1_cParam_1, p1_cParam_2, p1_cParam_3, p1_cParam_4, p1_cParam_5, p1_cParam_6, pA_cParam, ce_cParam, sp_cParam, p1_cProfile_0, p1_cProfile_1, p1_cProfile_2, pA_cProfile, ce_cProfile, sp_cProfile, hlt', hia, Within_eq, isLevelF_eq, hi1, hi2, hNx, hRx, List.map_id]
  repeat' ((first | rw [gDp] | rw [gDb] | rw [cDp] | rw [cDnp] | rw [cDn] | rw [cDb]); split <;> try simp only [MSb, reduceCtorEq, p1_cParam_0, p1_cParam_1, p1_cParam_2, p1_cParam_3, p1_cParam_4, p1_cParam_5, p1_cParam_6, pA_cParam, ce_cParam, sp_cParam, p1_cProfile_0, p1_cProfile_1, p1_cProfile_2, pA_cProfile, ce_cProfile, sp_cProfile, Within_eq, isLevelF_eq, List.map_id, setI_fold, memB_snoc, Bool.or_false, *])
  all_goals first | rfl | (simp_all; done) | (simp_all [slotsOf_snoc, setI_fold]; done) | (simp only [slotsOf_snoc, ite_false, ite_true, if_false, if_true, *] <;> simp_all)
 ·intro u _
  simp only [MSb, reduceCtorEq, Int.lt_irrefl]
 ·intro u _; simp only [MSb, reduceCtorEq]
 ·intros; simp only [MSb, reduceCtorEq]
 ·refine (runP_fault (chk := chkP ps) ?_ ?_ (fun n => some (AV.int .i64 n, σ)) l []).trans ?_
  ·intro pre; rfl
  ·intro pre x rest; rw [chkP]; simp only [el_ite, el_out, el_go]
  ·rfl
theorem CheckLibrary_eq (l : List ProfileD) (hok : okL okProfile l) (σ : Heap) : m_fixture_CheckLibrary [sl 3 cProfile l] σ = some (.int .i64 (libF l), σ) := by
 refine wrap_eq rfl ?_ rfl
 show r_fixture_CheckLibrary (sl 3 cProfile l) σ = _
 unfold r_fixture_CheckLibrary libF
 simp only [MSb, reduceCtorEq]
 by_cases h60 : 60 < l.length
 ·have h60' : (60 : Int) < l.length := by omega
  simp only [MSb, reduceCtorEq, h60, h60']
 have h60' : ¬ (60 : Int) < l.length := by omega
 simp only [MSb, reduceCtorEq, h60, h60']
 refine (loop_pre (S := Unit) (R := Int) l (fun pre x _ => if profileF x = 0 then (if memB x.name (pre.map (·.name)) = true then .out 6 else .go ()) else .out (profileF x))
  (fun pre _ => [.int .i64 0, .int .i64 (pre.length : Int)]) (fun pre _ => σ ++ [Blk.map (setZ (·.name) pre)])
  (fun _ => (.exit 0, [.int .i64 0, .int .i64 (l.length : Int)], σ ++ [Blk.map (setZ (·.name) l)])) (fun pre _ r => (.ret, [.int .i64 r, .int .i64 (pre.length : Int)], σ ++ [Blk.map (setZ (·.name) pre)]))
  (fun _ _ => True) () (fun _ => some (AV.int .i64 0, σ)) (fun r => some (AV.int .i64 r, σ)) ?_ ?_ trivial (fun _ _ _ _ _ _ _ _ => trivial) ?_ ?_).trans ?_
 ·intro pre x rest u hl _
  have hx := pre_get hl; have hlt := pre_lt hl; have hi1 : IntKind.i64.wrap ((pre.length : Int) + 1) = (pre.length : Int) + 1 := wrap64 (by unfold inI; omega); have hi2 : IntKind.i64.wrap ((pre.length : Int) - 1) = (pre.length : Int) - 1 := wrap64 (by unfold inI; omega); have hlt' : (pre.length : Int) < (l.length : Int) := by omega
  have hP := CheckProfile_eq x (hok.2 x (by rw [hl]; simp))
  have hia := iaddr_sl 3 cProfile l hx
  clear hl hx hlt hok h60 h60'
  simp only [MSb, reduceCtorEq, p1_cProfile_0, p1_cProfile_1, p1_cProfile_2, pA_cProfile, ce_cProfile, sp_cProfile, hlt', hia, hi1, hP]
  repeat' ((first | rw [gDp] | rw [gDb] | rw [cDp] | rw [cDnp] | rw [cDn] | rw [cDb]); split <;> try simp only [MSb, reduceCtorEq, p1_cProfile_0, p1_cProfile_1, p1_cProfile_2, pA_cProfile, ce_cProfile, sp_cProfile, *])
  all_goals first | with_reducible rfl | (simp [*]; done) | (simp_all; done) | (simp_all; omega) | rfl
 ·intro u _
  simp only [MSb, reduceCtorEq, Int.lt_irrefl]
 ·intro u _; simp only [MSb, reduceCtorEq]
 ·intros; simp only [MSb, reduceCtorEq]
 ·refine (runP_fault (chk := chkL) ?_ ?_ (fun n => some (AV.int .i64 n, σ)) l []).trans ?_
  ·intro pre; rfl
  ·intro pre x rest; rw [chkL]; simp only [el_ite, el_out, el_go]
  ·rfl
end Go.Proofs.YtkdafecbdncmiaaDoor

namespace Go.Proofs.YtkdafecbdncmiaaDoor
set_option linter.unusedSectionVars false
set_option linter.unusedVariables false
set_option linter.unusedSimpArgs false
theorem idxI_any {α : Type} (p : α → Bool) (l : List α) : decide (0 ≤ idxI p l) = l.any p := by
 rcases idxI_cases p l with ⟨h1, h2, _⟩ | ⟨k, x, h1, h2, h3, _⟩
 ·rw [h1, Bool.eq_iff_iff]
  simp only [decide_eq_true_eq, List.any_eq_true]
  exact ⟨fun h => by omega, fun ⟨x, hx, hp⟩ => by rw [h2 x hx] at hp; cases hp⟩
 ·rw [h3, Bool.eq_iff_iff]
  simp only [decide_eq_true_eq, List.any_eq_true]
  exact ⟨fun _ => ⟨x, List.mem_of_getElem? h1, h2⟩, fun _ => by omega⟩
theorem m_slices_IndexFunc_api_Profile_eq (dyn : Nat → List AV → Heap → Option (AV × Heap)) (l : List ProfileD) (hl : l.length ≤ mxl) (n : Nat) (caps : List AV) (p : ProfileD → Bool) (σ : Heap) (hd : ∀ x ∈ l, dyn n ((.agg (cProfile x) : AV) :: caps) σ = some (.bool (p x), σ)) : m_slices_IndexFunc_api_Profile dyn [sl 3 cProfile l, .fn n caps] σ = some (.int .i64 (idxI p l), σ) := by
 refine wrap_eq rfl ?_ rfl
 show r_slices_IndexFunc_api_Profile dyn (sl 3 cProfile l) (.fn n caps) σ = _
 unfold r_slices_IndexFunc_api_Profile
 simp only [MSb, reduceCtorEq]
 refine (loop_pre (S := Unit) (R := Int) l (fun pre x _ => if p x = true then .out (pre.length : Int) else .go ())
  (fun pre _ => [.int .i64 0, .int .i64 (pre.length : Int)]) (fun _ _ => σ) (fun _ => (.exit 0, [.int .i64 0, .int .i64 (l.length : Int)], σ)) (fun pre _ r => (.ret, [.int .i64 (pre.length : Int), .int .i64 (pre.length : Int)], σ))
  (fun _ _ => True) () (fun _ => some (AV.int .i64 (-1), σ)) (fun r => some (AV.int .i64 r, σ)) ?_ ?_ trivial (fun _ _ _ _ _ _ _ _ => trivial) ?_ ?_).trans ?_
 ·intro pre x rest u hl' _
  have hx := pre_get hl'
  have hlt := pre_lt hl'
  have hi1 : IntKind.i64.wrap ((pre.length : Int) + 1) = (pre.length : Int) + 1 := wrap64 (by unfold inI; unfold mxl at hl; omega)
  have hlt' : (pre.length : Int) < (l.length : Int) := by omega
  have hia := iaddr_sl 3 cProfile l hx
  have hdx := hd x (by rw [hl']; simp)
  simp only [MSb, reduceCtorEq, p1_cProfile_0, p1_cProfile_1, p1_cProfile_2, pA_cProfile, ce_cProfile, sp_cProfile, hlt', hia, A.callv, List.cons_append, List.nil_append, hdx, hi1]
  cases p x <;> simp [MSb, reduceCtorEq]
 ·intro u _; simp only [MSb, reduceCtorEq, Int.lt_irrefl]
 ·intro u _; simp only [MSb, reduceCtorEq]
 ·intro pre x rest s q hl' _ hb
  have : q = (pre.length : Int) := by
   cases hpx : p x
   ·rw [hpx] at hb; cases hb
   ·rw [hpx] at hb; simp at hb; exact hb.symm
  simp only [MSb, reduceCtorEq, this]
 ·rw [idxI_run p _ _ l [] (by simp)]
  simp only [List.nil_append]
  split
  ·rename_i h; rw [h]
  ·rfl
theorem m_slices_Index_int_eq (l : List Int) (hl : l.length ≤ mxl) (k : Int) (σ : Heap) : m_slices_Index_int [sl 1 cInt l, .int .i64 k] σ = some (.int .i64 (idxI (fun x => decide (k = x)) l), σ) := by
 refine wrap_eq rfl ?_ rfl
 show r_slices_Index_int (sl 1 cInt l) (.int .i64 k) σ = _
 unfold r_slices_Index_int
 simp only [MSb, reduceCtorEq]
 refine (loop_pre (S := Unit) (R := Int) l (fun pre x _ => if (fun x => decide (k = x)) x = true then .out (pre.length : Int) else .go ())
  (fun pre _ => [.int .i64 0, .int .i64 (pre.length : Int)]) (fun _ _ => σ) (fun _ => (.exit 0, [.int .i64 0, .int .i64 (l.length : Int)], σ)) (fun pre _ r => (.ret, [.int .i64 (pre.length : Int), .int .i64 (pre.length : Int)], σ))
  (fun _ _ => True) () (fun _ => some (AV.int .i64 (-1), σ)) (fun r => some (AV.int .i64 r, σ)) ?_ ?_ trivial (fun _ _ _ _ _ _ _ _ => trivial) ?_ ?_).trans ?_
 ·intro pre x rest u hl' _
  have hx := pre_get hl'
  have hlt := pre_lt hl'
  have hi1 : IntKind.i64.wrap ((pre.length : Int) + 1) = (pre.length : Int) + 1 := wrap64 (by unfold inI; unfold mxl at hl; omega)
  have hlt' : (pre.length : Int) < (l.length : Int) := by omega
  have hia := iaddr_sl 1 cInt l hx
  simp only [MSb, reduceCtorEq, hlt', hia, hi1]
  by_cases hk : k = x <;> simp [MSb, reduceCtorEq, hk]
 ·intro u _; simp only [MSb, reduceCtorEq, Int.lt_irrefl]
 ·intro u _; simp only [MSb, reduceCtorEq]
 ·intro pre x rest s q hl' _ hb
  have : q = (pre.length : Int) := by
   by_cases hk : k = x
   ·simp [hk] at hb; exact hb.symm
   ·simp [hk] at hb
  simp only [MSb, reduceCtorEq, this]
 ·rw [idxI_run (fun x => decide (k = x)) _ _ l [] (by simp)]
  simp only [List.nil_append]
  split
  ·rename_i h; rw [h]
  ·rfl
theorem m_slices_Contains_int_eq (l : List Int) (hl : l.length ≤ mxl) (k : Int) (σ : Heap) : m_slices_Contains_int [sl 1 cInt l, .int .i64 k] σ = some (.bool (l.any fun x => decide (k = x)), σ) := by
 refine wrap_eq rfl ?_ rfl
 show r_slices_Contains_int (sl 1 cInt l) (.int .i64 k) σ = _
 unfold r_slices_Contains_int
 simp only [MSb, reduceCtorEq, m_slices_Index_int_eq l hl k σ]
 refine congrArg some (congrArg (fun b => (AV.bool b, σ)) ?_)
 exact idxI_any _ l
theorem m_slices_IndexFunc_int_eq (dyn : Nat → List AV → Heap → Option (AV × Heap)) (l : List Int) (hl : l.length ≤ mxl) (n : Nat) (caps : List AV) (p : Int → Bool) (σ : Heap) (hd : ∀ x ∈ l, dyn n ((.int .i64 x : AV) :: caps) σ = some (.bool (p x), σ)) : m_slices_IndexFunc_int dyn [sl 1 cInt l, .fn n caps] σ = some (.int .i64 (idxI p l), σ) := by
 refine wrap_eq rfl ?_ rfl
 show r_slices_IndexFunc_int dyn (sl 1 cInt l) (.fn n caps) σ = _
 unfold r_slices_IndexFunc_int
 simp only [MSb, reduceCtorEq]
 refine (loop_pre (S := Unit) (R := Int) l (fun pre x _ => if p x = true then .out (pre.length : Int) else .go ())
  (fun pre _ => [.int .i64 0, .int .i64 (pre.length : Int)]) (fun _ _ => σ) (fun _ => (.exit 0, [.int .i64 0, .int .i64 (l.length : Int)], σ)) (fun pre _ r => (.ret, [.int .i64 (pre.length : Int), .int .i64 (pre.length : Int)], σ))
  (fun _ _ => True) () (fun _ => some (AV.int .i64 (-1), σ)) (fun r => some (AV.int .i64 r, σ)) ?_ ?_ trivial (fun _ _ _ _ _ _ _ _ => trivial) ?_ ?_).trans ?_
 ·intro pre x rest u hl' _
  have hx := pre_get hl'
  have hlt := pre_lt hl'
  have hi1 : IntKind.i64.wrap ((pre.length : Int) + 1) = (pre.length : Int) + 1 := wrap64 (by unfold inI; unfold mxl at hl; omega)
  have hlt' : (pre.length : Int) < (l.length : Int) := by omega
  have hia := iaddr_sl 1 cInt l hx
  have hdx := hd x (by rw [hl']; simp)
  simp only [MSb, reduceCtorEq, hlt', hia, A.callv, List.cons_append, List.nil_append, hdx, hi1]
  cases p x <;> simp [MSb, reduceCtorEq]
 ·intro u _; simp only [MSb, reduceCtorEq, Int.lt_irrefl]
 ·intro u _; simp only [MSb, reduceCtorEq]
 ·intro pre x rest s q hl' _ hb
  have : q = (pre.length : Int) := by
   cases hpx : p x
   ·rw [hpx] at hb; cases hb
   ·rw [hpx] at hb; simp at hb; exact hb.symm
  simp only [MSb, reduceCtorEq, this]
 ·rw [idxI_run p _ _ l [] (by simp)]
  simp only [List.nil_append]
  split
  ·rename_i h; rw [h]
  ·rfl
end Go.Proofs.YtkdafecbdncmiaaDoor

namespace Go.Proofs.YtkdafecbdncmiaaDoor
set_option linter.unusedSectionVars false
set_option linter.unusedVariables false
set_option linter.unusedSimpArgs false
theorem profOf_find (nm : ByteArray) : ∀ (l : List ProfileD), profOf nm l = match l.find? (fun x : ProfileD => decide (x.name = nm)) with | some p => (p, true) | none => (⟨⟨#[]⟩, 0, []⟩, false)
 | [] => rfl
 | p :: l => by
  rw [profOf]
  by_cases h : p.name = nm
  ·simp [h]
  ·simp [h, profOf_find nm l]
theorem profile_fn1_eq (x : ProfileD) (nm : ByteArray) (σ : Heap) : m_fixture_profile_fn1 [.agg (cProfile x), .rp [.str nm]] σ = some (.bool (decide (x.name = nm)), σ) := by
 refine wrap_eq rfl ?_ rfl
 show r_fixture_profile_fn1 (.agg (cProfile x)) (.rp [.str nm]) σ = _
 unfold r_fixture_profile_fn1
 simp only [MSb, reduceCtorEq, p1_cProfile_0, p1_cProfile_1, p1_cProfile_2, pA_cProfile, ce_cProfile, sp_cProfile]
 show (some (AV.str nm)).bind _ = _
 simp only [MSb, reduceCtorEq]
theorem nnP (x : ParamD) : A.nnL [.k, .k, .k, .k, .k, .k, (.s 3)] (cParam x) = cParam x := rfl
theorem nnProf (p : ProfileD) (b : Bool) : A.nn (.t [(.a [.k, .k, (.e 7 [.k, .k, .k, .k, .k, .k, (.s 3)])]), .k]) (.tup [.agg (cProfile p), .bool b]) = .tup [.agg (cProfile p), .bool b] := by
 show AV.tup [.agg [.str p.name, .int .i64 p.size, A.nn (.e 7 [.k, .k, .k, .k, .k, .k, (.s 3)]) (sl 7 cParam p.params)], .bool b] = _
 rw [nn_e nnP]; rfl
theorem profile_eq (l : List ProfileD) (hl : l.length ≤ mxl) (nm : ByteArray) (σ : Heap) : m_fixture_profile [sl 3 cProfile l, .str nm] σ = some (.tup [.agg (cProfile (profOf nm l).1), .bool (profOf nm l).2], σ) := by
 have key : ∃ w, r_fixture_profile (sl 3 cProfile l) (.str nm) σ = some (w, σ) ∧ A.nn (.t [(.a [.k, .k, (.e 7 [.k, .k, .k, .k, .k, .k, (.s 3)])]), .k]) w = .tup [.agg (cProfile (profOf nm l).1), .bool (profOf nm l).2] := by
  unfold r_fixture_profile
  simp only [MSb, reduceCtorEq]
  rw [m_slices_IndexFunc_api_Profile_eq _ l hl 64 [.rp [.str nm]] (fun x => decide (x.name = nm)) σ (fun x _ => profile_fn1_eq x nm σ)]
  simp only [MSb, reduceCtorEq]
  rw [profOf_find]
  rcases idxI_cases (fun x : ProfileD => decide (x.name = nm)) l with ⟨h1, _, h3⟩ | ⟨k, x, h1, h2, h3, h4, _⟩
  ·refine ⟨.tup [.agg [.str ⟨#[]⟩, .int .i64 0, .nsl], .bool false], ?_, ?_⟩
   ·rw [h1]
    simp only [MSb, reduceCtorEq, show ((-1 : Int) < 0) from by decide]
    rfl
   ·rw [h3]; rfl
  ·refine ⟨.tup [.agg (cProfile x), .bool true], ?_, ?_⟩
   ·rw [h3]
    simp only [MSb, reduceCtorEq, p1_cProfile_0, p1_cProfile_1, p1_cProfile_2, pA_cProfile, ce_cProfile, sp_cProfile, show ¬ ((k : Int) < 0) from by omega, iaddr_sl 3 cProfile l h1]
   ·rw [h4]; exact nnProf x true
 obtain ⟨w, h1, h2⟩ := key
 exact wrap_eq rfl h1 h2
end Go.Proofs.YtkdafecbdncmiaaDoor

namespace Go.Proofs.YtkdafecbdncmiaaDoor
set_option linter.unusedSectionVars false
set_option linter.unusedVariables false
set_option linter.unusedSimpArgs false
def marks (f : Nat → Bool) : List AV := (List.range 513).map fun k => .bool (f k)
theorem marks_get (f : Nat → Bool) {k : Nat} (h : k < 513) : (marks f)[k]? = some (.bool (f k)) := by simp [marks, h]
theorem marks_len (f : Nat → Bool) : (marks f).length = 513 := by simp [marks]
theorem freeF_run (f : Nat → Bool) {γ : Type} (K1 K2 : γ) : ∀ (s a : Nat) (pre : List Nat), (runP (fun _ k (_ : Unit) => if 512 < k ∨ f k = true then (Rd.out () : Rd Unit Unit) else .go ()) pre (List.range' a s) ()).el (fun _ => K1) (fun _ => K2) = if freeF f s a = true then K1 else K2
 | 0, a, pre => by simp [runP, freeF, Rd.el]
 | s + 1, a, pre => by
  rw [List.range'_succ, runP, freeF]
  by_cases h : 512 < a ∨ f a = true
  ·simp only [if_pos h, Rd.el]; simp
  ·simp only [if_neg h]
   exact freeF_run f K1 K2 s (a + 1) _
theorem free_np (a s : Int) (h : inI (a + s)) (h' : inI (a + s - 1)) (σ : Heap) : m_fixture_slots_free [.np, .int .i64 a, .int .i64 s] σ = some (.bool (decide (a + s - 1 ≤ 512)), σ) := by
 refine wrap_eq rfl ?_ rfl
 show r_fixture_slots_free .np (.int .i64 a) (.int .i64 s) σ = _
 unfold r_fixture_slots_free
 simp only [MSb, reduceCtorEq, show A.eql .p AV.np AV.np = some (.bool true) from rfl, wrap64 h, wrap64 h']
theorem aaddr_rp (cs : List AV) {k : Nat} (h : k < 513) : A.aaddr 513 1 (.rp cs) (.int .i64 (k : Int)) = some (.rp (cs.drop k)) := by
 have h1 : A.idx 513 (.int .i64 (k : Int)) = some k := by
  show (if (0 : Int) ≤ (k : Int) ∧ (k : Int) < ((513 : Nat) : Int) then some (k : Int).toNat else none) = some k
  rw [if_pos ⟨by omega, by omega⟩]; rfl
 unfold A.aaddr
 rw [h1]
 simp only [Option.bind_some, Nat.mul_one]
theorem free_rp (f : Nat → Bool) (a s : Nat) (hs : a ≤ 1024 ∧ s ≤ 1024) (σ : Heap) : m_fixture_slots_free [.rp (marks f), .int .i64 (a : Int), .int .i64 (s : Int)] σ = some (.bool (freeF f s a), σ) := by
 refine wrap_eq rfl ?_ rfl
 show r_fixture_slots_free (.rp (marks f)) (.int .i64 (a : Int)) (.int .i64 (s : Int)) σ = _
 unfold r_fixture_slots_free
 have hw : IntKind.i64.wrap ((a : Int) + s) = (a : Int) + s := wrap64 (by unfold inI; omega)
 simp only [MSb, reduceCtorEq, show A.eql .p (AV.rp (marks f)) AV.np = some (.bool false) from rfl, hw]
 refine (loop_pre (S := Unit) (R := Unit) (List.range' a s) (fun _ k (_ : Unit) => if 512 < k ∨ f k = true then (Rd.out () : Rd Unit Unit) else .go ())
  (fun pre _ => [.bool false, .int .i64 ((a : Int) + (pre.length : Int))]) (fun _ _ => σ) (fun _ => (.exit 0, [.bool false, .int .i64 ((a : Int) + s)], σ)) (fun pre _ _ => (.ret, [.bool false, .int .i64 ((a : Int) + (pre.length : Int))], σ))
  (fun _ _ => True) () (fun _ => some (AV.bool true, σ)) (fun _ => some (AV.bool false, σ)) ?_ ?_ trivial (fun _ _ _ _ _ _ _ _ => trivial) ?_ ?_ (hv := by simp)).trans ?_
 ·intro pre k rest u hl _
  have hx := pre_get hl
  have hlt := pre_lt hl
  rw [List.length_range'] at hlt
  obtain rfl : a + pre.length = k := by
   have := (List.getElem?_eq_some_iff.1 hx).2
   simpa [List.getElem_range'] using this
  have hlt' : (a : Int) + (pre.length : Int) < (a : Int) + s := by omega
  have hi1 : IntKind.i64.wrap ((a : Int) + (pre.length : Int) + 1) = (a : Int) + ((pre.length : Int) + 1) := by rw [wrap64 (by unfold inI; omega)]; omega
  have ecast : (a : Int) + (pre.length : Int) = ((a + pre.length : Nat) : Int) := by omega
  clear hl hx
  by_cases h5 : 512 < a + pre.length
  ·have h5' : (512 : Int) < (a : Int) + (pre.length : Int) := by omega
   simp only [MSb, reduceCtorEq, hlt', h5, h5']
  have h5' : ¬ (512 : Int) < (a : Int) + (pre.length : Int) := by omega
  have hp : A.part1 0 ((marks f).drop (a + pre.length)) = some (.bool (f (a + pre.length))) := by
   rw [p1D]; simp only [A.part1, Nat.add_zero, marks_get f (show a + pre.length < 513 by omega)]; rfl
  simp only [MSb, reduceCtorEq, hlt', h5, h5', show A.nilck (AV.rp (marks f)) = some (.rp (marks f)) from rfl]
  rw [ecast, aaddr_rp _ (by omega)]
  simp only [MSb, reduceCtorEq, hp]
  cases hf : f (a + pre.length)
  ·simp only [MSb, reduceCtorEq, ← ecast, hi1]
  ·simp only [MSb, reduceCtorEq, ← ecast]
 ·intro u _
  rw [List.length_range']
  exact hend_lss _ _ _
 ·intro u _; simp only [MSb, reduceCtorEq]
 ·intros; simp only [MSb, reduceCtorEq]
 ·rw [freeF_run]
  cases freeF f s a <;> rfl
theorem free_op (f : Nat → Bool) (a s : Nat) (hs : a ≤ 1024 ∧ s ≤ 1024) {σ : Heap} {id : Nat} (h : σ[id]? = some (.box (marks f))) : m_fixture_slots_free [.op id 0, .int .i64 (a : Int), .int .i64 (s : Int)] σ = some (.bool (freeF f s a), σ) := by
 refine wrap_own (args' := [.rp (marks f), .int .i64 (a : Int), .int .i64 (s : Int)]) rfl ?_ rfl (free_rp f a s hs []) rfl
 have e : A.frzL' σ 0 7 (marks f) = some (marks f) := by
  have key : ∀ (l : List Nat), A.frzL' σ 0 7 (l.map fun k => AV.bool (f k)) = some (l.map fun k => AV.bool (f k)) := by
   intro l
   induction l with
   | nil => simp [A.frzL']
   | cons x l ih => simp [A.frzL', A.frz, ih]
  exact key _
 simp [A.frzL, A.frz, h, e]
end Go.Proofs.YtkdafecbdncmiaaDoor

namespace Go.Proofs.YtkdafecbdncmiaaDoor
set_option linter.unusedSectionVars false
set_option linter.unusedVariables false
set_option linter.unusedSimpArgs false
def usE (b : Nat) : List Int → List (AV × AV)
 | [] => []
 | v :: r => (.int .i64 v, .op b 0) :: usE (b + 1) r
def usH (σ : Heap) (vs : List Int) (f : Int → Nat → Bool) : Heap := σ ++ (Blk.map (usE (σ.length + 1) vs) :: vs.map fun v => Blk.box (marks (f v)))
theorem usE_snoc (v : Int) : ∀ (vs : List Int) (b : Nat), usE b (vs ++ [v]) = usE b vs ++ [(.int .i64 v, .op (b + vs.length) 0)]
 | [], b => rfl
 | w :: r, b => by
  simp only [List.cons_append, usE, usE_snoc v r (b + 1), List.length_cons]
  rw [show b + 1 + r.length = b + (r.length + 1) by omega]
theorem usE_find (v : Int) : ∀ (vs : List Int) (b : Nat), A.find .i (.int .i64 v) (usE b vs) = some (if v ∈ vs then some (.op (b + vs.idxOf v) 0) else none)
 | [], b => rfl
 | w :: r, b => by
  simp only [usE, A.find, A.eqK, A.eqI, if_true, Option.bind_some]
  by_cases h : v = w
  ·subst h; simp
  ·have h1 : (v == w) = false := by simpa using h
   have h2 : (w == v) = false := by simpa using fun e : w = v => h e.symm
   simp only [h1, cond_false, usE_find v r (b + 1), List.mem_cons, h, false_or, List.idxOf_cons, h2]
   rw [show b + 1 + r.idxOf v = b + (r.idxOf v + 1) by omega]
theorem usE_upd (v : Int) (w : AV) : ∀ (vs : List Int) (b : Nat), v ∉ vs → A.upd .i (.int .i64 v) w (usE b vs) = some (usE b vs ++ [(.int .i64 v, w)])
 | [], b, _ => rfl
 | x :: r, b, h => by
  simp only [List.mem_cons, not_or] at h
  have h1 : (v == x) = false := by simpa using h.1
  simp only [usE, A.upd, A.eqK, A.eqI, if_true, Option.bind_some, h1, cond_false, usE_upd v w r (b + 1) h.2, Option.map_some, List.cons_append]
theorem usH_len (σ : Heap) (vs : List Int) (f : Int → Nat → Bool) : (usH σ vs f).length = σ.length + 1 + vs.length := by simp [usH]; omega
theorem usH_map (σ : Heap) (vs : List Int) (f : Int → Nat → Bool) : (usH σ vs f)[σ.length]? = some (.map (usE (σ.length + 1) vs)) := by simp [usH]
theorem usH_box (σ : Heap) {vs : List Int} (f : Int → Nat → Bool) {v : Int} (h : v ∈ vs) : (usH σ vs f)[σ.length + 1 + vs.idxOf v]? = some (.box (marks (f v))) := by
 unfold usH
 rw [List.getElem?_append_right (by omega), show σ.length + 1 + vs.idxOf v - σ.length = vs.idxOf v + 1 by omega, List.getElem?_cons_succ, List.getElem?_map]
 have : vs[vs.idxOf v]? = some v := by
  have hl := List.idxOf_lt_length_of_mem h
  rw [List.getElem?_eq_getElem hl, List.getElem_idxOf hl]
 rw [this]; rfl
theorem usH_set (σ : Heap) {vs : List Int} (hn : vs.Nodup) {f f' : Int → Nat → Bool} {v : Int} (h : v ∈ vs) (ho : ∀ w, w ≠ v → f' w = f w) : (usH σ vs f).set (σ.length + 1 + vs.idxOf v) (.box (marks (f' v))) = usH σ vs f' := by
 unfold usH
 rw [List.set_append_right _ _ (by omega), show σ.length + 1 + vs.idxOf v - σ.length = vs.idxOf v + 1 by omega, List.set_cons_succ]
 refine congrArg (fun z => σ ++ (Blk.map (usE (σ.length + 1) vs) :: z)) ?_
 clear σ
 induction vs with
 | nil => cases h
 | cons w r ih =>
  rw [List.nodup_cons] at hn
  rw [List.idxOf_cons]
  by_cases e : w = v
  ·subst e
   simp only [beq_self_eq_true, cond_true, List.map_cons, List.set_cons_zero]
   exact congrArg (Blk.box (marks (f' w)) :: ·) (List.map_congr_left fun x hx => by rw [ho x (fun e => hn.1 (e ▸ hx))])
  ·have e2 : (w == v) = false := by simpa using e
   simp only [e2, cond_false, List.map_cons, List.set_cons_succ]
   rw [ih hn.2 ((List.mem_cons.1 h).resolve_left fun q => e q.symm), ho w e]
theorem usH_new (σ : Heap) (vs : List Int) {f : Int → Nat → Bool} {v : Int} (h : ∀ k, f v k = false) : ((usH σ vs f) ++ [Blk.box (List.replicate 513 (AV.bool false))]).set σ.length (.map (usE (σ.length + 1) (vs ++ [v]))) = usH σ (vs ++ [v]) f := by
 have e : marks (f v) = List.replicate 513 (AV.bool false) := by
  rw [show f v = fun _ => false from funext h]
  refine List.eq_replicate_iff.2 ⟨marks_len _, fun b hb => ?_⟩
  obtain ⟨k, _, rfl⟩ := List.mem_map.1 hb
  rfl
 unfold usH
 simp only [List.append_assoc, List.cons_append]
 rw [List.set_append_right _ _ (Nat.le_refl _), Nat.sub_self, List.set_cons_zero, List.map_append, List.map_cons, e]
 rfl
theorem marks_set (g g' : Nat → Bool) {k : Nat} (hk : k < 513) (h1 : g' k = true) (h2 : ∀ j, j ≠ k → g' j = g j) : A.splice k [AV.bool true] (marks g) = some (marks g') := by
 unfold A.splice
 rw [if_pos (by rw [marks_len]; simp; omega)]
 refine congrArg some (List.ext_getElem? fun j => ?_)
 simp only [List.append_assoc, List.cons_append, List.nil_append, List.length_cons, List.length_nil]
 by_cases hj : j < k
 ·rw [List.getElem?_append_left (by rw [List.length_take, marks_len]; omega), List.getElem?_take_of_lt hj, marks_get _ (by omega), marks_get _ (by omega), h2 j (by omega)]
 ·rw [List.getElem?_append_right (by rw [List.length_take, marks_len]; omega), List.length_take, marks_len, Nat.min_eq_left (by omega)]
  by_cases e : j = k
  ·subst e
   rw [Nat.sub_self, List.getElem?_cons_zero, marks_get _ hk, h1]
  ·rw [show j - k = (j - k - 1) + 1 by omega, List.getElem?_cons_succ, List.getElem?_drop, show k + (0 + 1) + (j - k - 1) = j by omega]
   by_cases hj2 : j < 513
   ·rw [marks_get _ hj2, marks_get _ hj2, h2 j e]
   ·rw [List.getElem?_eq_none (by rw [marks_len]; omega), List.getElem?_eq_none (by rw [marks_len]; omega)]
theorem run_go {α γ : Type} (K1 : Unit → γ) (K2 : Unit → γ) : ∀ (l pre : List α), (runP (fun _ (x : α) (_ : Unit) => (Rd.go () : Rd Unit Unit)) pre l ()).el K1 K2 = K1 ()
 | [], pre => rfl
 | x :: l, pre => by rw [runP]; exact run_go K1 K2 l _
theorem runP_state {α S : Type} {body : List α → α → S → Rd S Int} {chk : List α → List α → Int} (h0 : ∀ pre, chk pre [] = 0) (h : ∀ pre x rest s, chk pre (x :: rest) = (body pre x s).el (fun _ => chk (pre ++ [x]) rest) (fun r => r)) {γ : Type} (K : Int → γ) :
  ∀ (l pre : List α) (s : S), (runP body pre l s).el (fun _ => K 0) K = K (chk pre l)
 | [], pre, s => by rw [runP, h0]; rfl
 | x :: l, pre, s => by
  rw [runP, h pre x l s]
  cases body pre x s with
  | go s' => exact runP_state h0 h K l (pre ++ [x]) s'
  | out r => rfl
theorem markF_zero (f : Int → Nat → Bool) (v : Int) (a : Nat) : markF f v a 0 = f := by
 funext w k
 unfold markF
 rw [if_neg (by omega)]
theorem take_loop {γ : Type} (σ : Heap) {vs : List Int} (hn : vs.Nodup) (f : Int → Nat → Bool) (u : UnitD) (a s : Nat) (ha : u.address = a) (hs : a + s ≤ 513) (hm : u.univ ∈ vs) (K : List AV → Heap → Option γ) :
  (A.loop (fun v11 s12 =>
   ((A.lb (v11.getD 0 AV.undef)).bind fun _ => some (3)).bind fun p13 =>
   ((A.lb (v11.getD 0 AV.undef)).bind fun c14 => A.part1 p13 c14).bind fun x15 =>
   (A.add x15 (.int .i64 (s : Int))).bind fun x16 =>
   (A.lss (v11.getD 1 AV.undef) x16).bind fun x17 =>
   A.cond x17 (
    ((A.lb (v11.getD 0 AV.undef)).bind fun _ => some (2)).bind fun p18 =>
    ((A.lb (v11.getD 0 AV.undef)).bind fun c19 => A.part1 p18 c19).bind fun x20 =>
    (A.look .i (.om σ.length) x20 AV.np s12).bind fun x21 =>
    (A.nilck x21).bind fun x22 =>
    (A.aaddr 513 1 x22 (v11.getD 1 AV.undef)).bind fun x23 =>
    (A.storeAt x23 [AV.bool true] s12).bind fun c25 =>
    (A.add (v11.getD 1 AV.undef) (AV.int .i64 1)).bind fun x26 =>
    some (AX.normal, [(v11.getD 0 AV.undef), x26], c25)) (
    some (AX.exit 0, [(v11.getD 0 AV.undef), (v11.getD 1 AV.undef)], s12))) [.lbx (cUnit u), .int .i64 (a : Int)] (usH σ vs f)).bind (fun r27 =>
 bif decide (r27.1 = AX.exit 0) then K r27.2.1 r27.2.2 else none) = K [.lbx (cUnit u), .int .i64 ((a : Int) + s)] (usH σ vs (markF f u.univ a s)) := by
 have hw : IntKind.i64.wrap ((a : Int) + s) = (a : Int) + s := wrap64 (by unfold inI; omega)
 refine (loop_pre (S := Unit) (R := Unit) (List.range' a s) (fun _ k (_ : Unit) => (Rd.go () : Rd Unit Unit))
  (fun pre _ => [.lbx (cUnit u), .int .i64 ((a : Int) + (pre.length : Int))]) (fun pre _ => usH σ vs (markF f u.univ a pre.length)) (fun _ => (.exit 0, [.lbx (cUnit u), .int .i64 ((a : Int) + s)], usH σ vs (markF f u.univ a s))) (fun pre _ _ => (.ret, [], σ))
  (fun _ _ => True) () (fun _ => K [.lbx (cUnit u), .int .i64 ((a : Int) + s)] (usH σ vs (markF f u.univ a s))) (fun _ => none) ?_ ?_ trivial (fun _ _ _ _ _ _ _ _ => trivial) ?_ ?_ (hv := by simp) (hσ := by rw [List.length_nil, markF_zero])).trans (run_go _ _ _ _)
 ·intro pre k rest t hl _
  have hx := pre_get hl
  have hlt := pre_lt hl
  rw [List.length_range'] at hlt
  obtain rfl : a + pre.length = k := by
   have := (List.getElem?_eq_some_iff.1 hx).2
   simpa [List.getElem_range'] using this
  have hlt' : (a : Int) + (pre.length : Int) < (a : Int) + s := by omega
  have hi1 : IntKind.i64.wrap ((a : Int) + (pre.length : Int) + 1) = (a : Int) + ((pre.length : Int) + 1) := by rw [wrap64 (by unfold inI; omega)]; omega
  have ecast : (a : Int) + (pre.length : Int) = ((a + pre.length : Nat) : Int) := by omega
  clear hl hx
  have hlook : A.look .i (.om σ.length) (.int .i64 u.univ) AV.np (usH σ vs (markF f u.univ a pre.length)) = some (.op (σ.length + 1 + vs.idxOf u.univ) 0) := by
   rw [look_at .i rfl (usH_map σ vs _), usE_find, if_pos hm]; rfl
  have hadr : A.aaddr 513 1 (.op (σ.length + 1 + vs.idxOf u.univ) 0) (.int .i64 ((a + pre.length : Nat) : Int)) = some (.op (σ.length + 1 + vs.idxOf u.univ) (a + pre.length)) := by
   have h1 : A.idx 513 (.int .i64 ((a + pre.length : Nat) : Int)) = some (a + pre.length) := by
    show (if (0 : Int) ≤ ((a + pre.length : Nat) : Int) ∧ ((a + pre.length : Nat) : Int) < ((513 : Nat) : Int) then some ((a + pre.length : Nat) : Int).toNat else none) = _
    rw [if_pos ⟨by omega, by omega⟩]; rfl
   unfold A.aaddr
   rw [h1]
   simp only [Option.bind_some, Nat.mul_one, Nat.zero_add]
  have hst : A.storeAt (.op (σ.length + 1 + vs.idxOf u.univ) (a + pre.length)) [.bool true] (usH σ vs (markF f u.univ a pre.length)) = some (usH σ vs (markF f u.univ a (pre.length + 1))) := by
   simp only [A.storeAt, usH_box σ _ hm]
   rw [marks_set _ (markF f u.univ a (pre.length + 1) u.univ) (by omega) (by unfold markF; rw [if_pos ⟨rfl, by omega, by omega⟩]) (fun j hj => by
    unfold markF
    by_cases q : a ≤ j ∧ j < a + pre.length
    ·rw [if_pos ⟨rfl, by omega, by omega⟩, if_pos ⟨rfl, q.1, q.2⟩]
    ·rw [if_neg (by omega), if_neg (by omega)])]
   simp only [Option.map_some]
   rw [usH_set σ hn hm (fun w hw => by funext j; unfold markF; rw [if_neg (fun q => hw q.1), if_neg (fun q => hw q.1)])]
  simp only [MSb, reduceCtorEq, p1_cUnit_0, p1_cUnit_1, p1_cUnit_2, p1_cUnit_3, pA_cUnit, ce_cUnit, sp_cUnit, ha, hw, hlt', hlook, show A.nilck (.op (σ.length + 1 + vs.idxOf u.univ) 0) = some (.op (σ.length + 1 + vs.idxOf u.univ) 0) from rfl]
  rw [ecast, hadr]
  simp only [MSb, reduceCtorEq, hst, ← ecast, hi1]
 ·intro t _
  rw [List.length_range']
  simp only [MSb, reduceCtorEq, p1_cUnit_0, p1_cUnit_1, p1_cUnit_2, p1_cUnit_3, pA_cUnit, ce_cUnit, sp_cUnit, ha, hw, Int.lt_irrefl]
 ·intro t _; simp only [MSb, reduceCtorEq]
 ·intro pre x rest t r _ _ hb; cases hb
theorem take_eq (σ : Heap) {vs : List Int} (hn : vs.Nodup) (f : Int → Nat → Bool) (u : UnitD) (a s : Nat) (ha : u.address = a) (hs : a + s ≤ 513) (hf : u.univ ∉ vs → ∀ k, f u.univ k = false) :
  m_fixture_take [.om σ.length, .agg (cUnit u), .int .i64 (s : Int)] (usH σ vs f) = some (.tup [], usH σ (if u.univ ∈ vs then vs else vs ++ [u.univ]) (markF f u.univ a s)) := by
 have e : r_fixture_take (.om σ.length) (.agg (cUnit u)) (.int .i64 (s : Int)) (usH σ vs f) = some (.tup [], usH σ (if u.univ ∈ vs then vs else vs ++ [u.univ]) (markF f u.univ a s)) := by
  unfold r_fixture_take
  have hlook : A.look .i (.om σ.length) (.int .i64 u.univ) AV.np (usH σ vs f) = some (if u.univ ∈ vs then .op (σ.length + 1 + vs.idxOf u.univ) 0 else .np) := by
   rw [look_at .i rfl (usH_map σ vs _), usE_find]
   by_cases hm : u.univ ∈ vs <;> simp [hm]
  simp only [MSb, reduceCtorEq, p1_cUnit_0, p1_cUnit_1, p1_cUnit_2, p1_cUnit_3, pA_cUnit, ce_cUnit, sp_cUnit, hlook]
  by_cases hm : u.univ ∈ vs
  ·simp only [if_pos hm, show A.eql .p (.op (σ.length + 1 + vs.idxOf u.univ) 0) AV.np = some (.bool false) from rfl, MSb, reduceCtorEq, p1_cUnit_0, p1_cUnit_1, p1_cUnit_2, p1_cUnit_3, pA_cUnit, ce_cUnit, sp_cUnit, ha]
   exact take_loop σ hn f u a s ha hs hm fun _ h => some (AV.tup [], h)
  ·have hup : A.mupd .i (.om σ.length) (.int .i64 u.univ) (.op (usH σ vs f).length 0) (usH σ vs f ++ [Blk.box (List.replicate 513 (AV.bool false))]) = some (usH σ (vs ++ [u.univ]) f) := by
    rw [mupd_at .i rfl (es := usE (σ.length + 1) vs) (by rw [List.getElem?_append_left (by rw [usH_len]; omega)]; exact usH_map σ vs f), usE_upd _ _ _ _ hm]
    rw [Option.map_some, usH_len, ← usE_snoc, usH_new σ vs (hf hm)]
   simp only [if_neg hm, show A.eql .p AV.np AV.np = some (.bool true) from rfl, MSb, reduceCtorEq, p1_cUnit_0, p1_cUnit_1, p1_cUnit_2, p1_cUnit_3, pA_cUnit, ce_cUnit, sp_cUnit, hup, ha]
   exact take_loop σ (by rw [List.nodup_append]; exact ⟨hn, by simp, fun x hx y hy e => hm (by simp at hy; rw [← hy, ← e]; exact hx)⟩) f u a s ha hs (by simp) fun _ h => some (AV.tup [], h)
 unfold m_fixture_take A.wrap
 rw [Bool.false_and, cond_false]
 show (r_fixture_take (.om σ.length) (.agg (cUnit u)) (.int .i64 (s : Int)) (usH σ vs f)).map _ = _
 rw [e]; rfl
end Go.Proofs.YtkdafecbdncmiaaDoor

namespace Go.Proofs.YtkdafecbdncmiaaDoor
set_option linter.unusedSectionVars false
set_option linter.unusedVariables false
set_option linter.unusedSimpArgs false
theorem ordB_cases {α : Type} (f : α → Int) {l pre rest : List α} {x : α} (h : l = pre ++ x :: rest) (n : Int) : (∃ y, 0 < pre.length ∧ l[pre.length - 1]? = some y ∧ ordB (pre.map f) n = decide (n ≤ f y)) ∨ (¬ 0 < pre.length ∧ ordB (pre.map f) n = false) := by
 by_cases h0 : 0 < pre.length
 ·obtain ⟨y, hy, hy2⟩ := pre_last h h0
  exact .inl ⟨y, h0, hy2, by simp [ordB, List.getLast?_map, hy]⟩
 ·obtain rfl : pre = [] := List.eq_nil_of_length_eq_zero (by omega)
  exact .inr ⟨h0, rfl⟩
end Go.Proofs.YtkdafecbdncmiaaDoor

namespace Go.Proofs.YtkdafecbdncmiaaDoor
set_option linter.unusedSectionVars false
set_option linter.unusedVariables false
set_option linter.unusedSimpArgs false
theorem usH_look (σ : Heap) (vs : List Int) (f : Int → Nat → Bool) (v : Int) : A.look .i (.om σ.length) (.int .i64 v) AV.np (usH σ vs f) = some (if v ∈ vs then .op (σ.length + 1 + vs.idxOf v) 0 else .np) := by
 rw [look_at .i rfl (usH_map σ vs _), usE_find]
 by_cases hm : v ∈ vs <;> simp [hm]
theorem fin_usH (σ : Heap) (vs : List Int) (f : Int → Nat → Bool) (n : Int) : A.fin σ (.int .i64 n) (usH σ vs f) = some (.int .i64 n, σ) := fin_int _ _ _ _
theorem CheckRig_eq (r : RigD) (hok : okRig r) (σ : Heap) : m_fixture_CheckRig [.agg (cRig r)] σ = some (.int .i64 (rigF r), σ) := by
 refine wrap_eq rfl ?_ rfl
 show r_fixture_CheckRig (.agg (cRig r)) σ = _
 obtain ⟨hlib, hus⟩ := hok
 have hmx := hlib.1
 unfold r_fixture_CheckRig rigF
 simp only [MSb, reduceCtorEq, p1_cRig_0, p1_cRig_1, pA_cRig, ce_cRig, sp_cRig, CheckLibrary_eq _ hlib]
 by_cases hf : libF r.library = 0
 case neg => simp only [MSb, reduceCtorEq, hf]
 by_cases h4 : 400 < r.units.length
 ·have h4' : (400 : Int) < r.units.length := by omega
  simp only [MSb, reduceCtorEq, p1_cRig_0, p1_cRig_1, pA_cRig, ce_cRig, sp_cRig, hf, h4, h4']
 have h4' : ¬ (400 : Int) < r.units.length := by omega
 simp only [MSb, reduceCtorEq, p1_cRig_0, p1_cRig_1, pA_cRig, ce_cRig, sp_cRig, hf, h4, h4']
 have hsizes := libF_sizes hf
 generalize hlq : r.units = l at *
 refine (loop_pre (S := List Int × (Int → Nat → Bool)) (R := Int) l (fun pre u s => if withinB u.number 1 9999 = false then .out 1
    else if ordB (pre.map (·.number)) u.number = true then .out 7
    else if (profOf u.profile r.library).2 = false then .out 5
    else if withinB u.univ 1 64 = false ∨ withinB u.address 1 512 = false ∨ 512 < lastU r.library u then .out 1
    else if clashU r.library u pre = true then .out 12 else .go (if u.univ ∈ s.1 then s.1 else s.1 ++ [u.univ], markF s.2 u.univ u.address.toNat (profOf u.profile r.library).1.size.toNat))
  (fun pre _ => [.lbx (cRig r), .int .i64 0, .int .i64 (pre.length : Int)]) (fun pre s => usH σ s.1 s.2)
  (fun s => (.exit 0, [.lbx (cRig r), .int .i64 0, .int .i64 (l.length : Int)], usH σ s.1 s.2)) (fun pre s n => (.ret, [.lbx (cRig r), .int .i64 n, .int .i64 (pre.length : Int)], usH σ s.1 s.2))
  (fun pre s => UnitsOk r.library pre ∧ MarksP r.library pre s.2 ∧ s.1.Nodup ∧ ∀ v, v ∉ s.1 → ∀ k, s.2 v k = false) ([], fun _ _ => false) (fun _ => some (AV.int .i64 0, σ)) (fun n => some (AV.int .i64 n, σ)) ?_ ?_ ⟨(by intro x hx; simp at hx), MarksP.nil _, List.nodup_nil, fun _ _ _ => rfl⟩ ?_ ?_ ?_).trans ?_
 ·intro pre u rest s hl hP
  have hx := pre_get hl; have hlt := pre_lt hl; have hi1 : IntKind.i64.wrap ((pre.length : Int) + 1) = (pre.length : Int) + 1 := wrap64 (by unfold inI; omega); have hi2 : IntKind.i64.wrap ((pre.length : Int) - 1) = (pre.length : Int) - 1 := wrap64 (by unfold inI; omega); have hlt' : (pre.length : Int) < (l.length : Int) := by omega
  have hmp : pre.length ≤ mxl := by unfold mxl; omega
  have hia := iaddr_sl 4 cUnit l hx
  have hPr := profile_eq r.library hmx u.profile
  have ho := ordB_cases (·.number) hl u.number
  obtain ⟨vs, f⟩ := s
  obtain ⟨hP1, hP2, hP3, hP4⟩ := hP
  dsimp only at hP1 hP2 hP3 hP4 ⊢
  clear hus h4 h4' hl hx
  simp only [MSb, reduceCtorEq, p1_cUnit_0, p1_cUnit_1, p1_cUnit_2, p1_cUnit_3, pA_cUnit, ce_cUnit, sp_cUnit, p1_cRig_0, p1_cRig_1, pA_cRig, ce_cRig, sp_cRig, hlq, hlt', hia, hPr, p1_cProfile_0, p1_cProfile_1, p1_cProfile_2, pA_cProfile, ce_cProfile, sp_cProfile, Within_eq]
  cases h1 : withinB u.number 1 9999
  ·simp only [MSb, reduceCtorEq]
  simp only [MSb, reduceCtorEq]
  rcases ho with ⟨y, h0, hy, ho⟩ | ⟨h0, ho⟩
  case' inl =>
   have h0' : (0 : Int) < pre.length := by omega
   have hia2 := iaddr_pred 4 cUnit l h0 hy
   by_cases hq : u.number ≤ y.number
   ·simp only [MSb, reduceCtorEq, p1_cUnit_0, p1_cUnit_1, p1_cUnit_2, p1_cUnit_3, pA_cUnit, ce_cUnit, sp_cUnit, p1_cRig_0, p1_cRig_1, pA_cRig, ce_cRig, sp_cRig, hlq, h0', hi2, hia2, ho, hq]
   simp only [MSb, reduceCtorEq, p1_cUnit_0, p1_cUnit_1, p1_cUnit_2, p1_cUnit_3, pA_cUnit, ce_cUnit, sp_cUnit, p1_cRig_0, p1_cRig_1, pA_cRig, ce_cRig, sp_cRig, hlq, h0', hi2, hia2, ho, hq]
  case' inr =>
   have h0' : ¬ (0 : Int) < pre.length := by omega
   simp only [MSb, reduceCtorEq, h0', ho]
  all_goals
   try simp only [MSb, reduceCtorEq, p1_cUnit_0, p1_cUnit_1, p1_cUnit_2, p1_cUnit_3, pA_cUnit, ce_cUnit, sp_cUnit, p1_cRig_0, p1_cRig_1, pA_cRig, ce_cRig, sp_cRig, hlq, hPr]
   cases hp : (profOf u.profile r.library).2
   ·simp only [MSb, reduceCtorEq, p1_cProfile_0, p1_cProfile_1, p1_cProfile_2, pA_cProfile, ce_cProfile, sp_cProfile]
   have hsz := hsizes _ (profOf_mem _ _ hp)
   try simp only [MSb, reduceCtorEq, p1_cUnit_0, p1_cUnit_1, p1_cUnit_2, p1_cUnit_3, pA_cUnit, ce_cUnit, sp_cUnit, p1_cProfile_0, p1_cProfile_1, p1_cProfile_2, pA_cProfile, ce_cProfile, sp_cProfile, Within_eq]
   cases hu : withinB u.univ 1 64
   ·simp only [MSb, reduceCtorEq]
   cases ha : withinB u.address 1 512
   ·simp only [MSb, reduceCtorEq, p1_cUnit_0, p1_cUnit_1, p1_cUnit_2, p1_cUnit_3, pA_cUnit, ce_cUnit, sp_cUnit, Within_eq, ha]
   have ha' : 1 ≤ u.address ∧ u.address ≤ 512 := by simpa [withinB] using ha
   have hw1 : IntKind.i64.wrap (u.address + (profOf u.profile r.library).1.size) = u.address + (profOf u.profile r.library).1.size := wrap64 (by unfold inI; omega)
   have hw2 : IntKind.i64.wrap (u.address + (profOf u.profile r.library).1.size - 1) = lastU r.library u := wrap64 (by unfold inI; omega)
   have hlu : lastU r.library u = u.address + (profOf u.profile r.library).1.size - 1 := rfl
   by_cases h5 : 512 < lastU r.library u
   ·simp only [MSb, reduceCtorEq, p1_cUnit_0, p1_cUnit_1, p1_cUnit_2, p1_cUnit_3, pA_cUnit, ce_cUnit, sp_cUnit, p1_cProfile_0, p1_cProfile_1, p1_cProfile_2, pA_cProfile, ce_cProfile, sp_cProfile, Within_eq, ha, hw1, hw2, h5]
   obtain ⟨a, hae⟩ : ∃ a : Nat, u.address = a := ⟨u.address.toNat, by omega⟩
   obtain ⟨n, hne⟩ : ∃ n : Nat, (profOf u.profile r.library).1.size = n := ⟨(profOf u.profile r.library).1.size.toNat, by omega⟩
   have hfc := free_clash hP2 hP1 u a n hae (by omega) (by omega) (by omega)
   have hfree : m_fixture_slots_free [if u.univ ∈ vs then .op (σ.length + 1 + vs.idxOf u.univ) 0 else .np, .int .i64 (a : Int), .int .i64 (n : Int)] (usH σ vs f) = some (.bool (!clashU r.library u pre), usH σ vs f) := by
    by_cases hm : u.univ ∈ vs
    ·rw [if_pos hm, free_op (f u.univ) a n (by omega) (usH_box σ f hm), hfc]
    ·rw [if_neg hm, free_np a n (by unfold inI; omega) (by unfold inI; omega), ← hfc]
     have e : freeF (f u.univ) n a = true := (freeF_iff _ _ _).2 fun k h1 h2 => ⟨by omega, hP4 _ hm k⟩
     rw [e, show decide ((a : Int) + n - 1 ≤ 512) = true from decide_eq_true (by omega)]
   have htk := take_eq σ hP3 f u a n hae (by omega) (hP4 u.univ)
   simp only [MSb, reduceCtorEq, p1_cUnit_0, p1_cUnit_1, p1_cUnit_2, p1_cUnit_3, pA_cUnit, ce_cUnit, sp_cUnit, p1_cProfile_0, p1_cProfile_1, p1_cProfile_2, pA_cProfile, ce_cProfile, sp_cProfile, Within_eq, ha, hw1, hw2, h5, usH_look]
   rw [hae, hne]
   simp only [MSb, reduceCtorEq, hfree]
   cases hc : clashU r.library u pre
   ·simp only [MSb, reduceCtorEq, p1_cUnit_0, p1_cUnit_1, p1_cUnit_2, p1_cUnit_3, pA_cUnit, ce_cUnit, sp_cUnit, p1_cProfile_0, p1_cProfile_1, p1_cProfile_2, pA_cProfile, ce_cProfile, sp_cProfile, hne, htk, hi1, Int.toNat_natCast]
   ·simp only [MSb, reduceCtorEq]
 ·intro s _
  exact hend_lss _ _ _
 ·intro pre u rest s s' hl hP hb
  obtain ⟨vs, f⟩ := s
  obtain ⟨hP1, hP2, hP3, hP4⟩ := hP
  dsimp only at hP1 hP2 hP3 hP4 hb
  split at hb
  ·cases hb
  split at hb
  ·cases hb
  split at hb
  ·cases hb
  rename_i hp
  split at hb
  ·cases hb
  rename_i hw
  split at hb
  ·cases hb
  injection hb with hb
  subst hb
  simp only [not_or, Bool.not_eq_false, withinB, Bool.and_eq_true, decide_eq_true_eq] at hw hp
  have hsz := hsizes _ (profOf_mem _ _ (by simpa using hp))
  have hlu : lastU r.library u = u.address + (profOf u.profile r.library).1.size - 1 := rfl
  refine ⟨hP1.snoc ⟨hw.2.1.1, by omega, by omega⟩, hP2.snoc u u.address.toNat _ (by omega) (by omega), ?_, ?_⟩
  ·dsimp only
   split
   ·exact hP3
   ·rename_i hm
    rw [List.nodup_append]; exact ⟨hP3, by simp, fun x hx y hy e => hm (by simp at hy; rw [← hy, ← e]; exact hx)⟩
  ·intro v hv k
   dsimp only at hv ⊢
   have h1 : v ≠ u.univ ∧ v ∉ vs := by
    split at hv
    ·rename_i hm
     exact ⟨fun e => hv (e ▸ hm), hv⟩
    ·simp only [List.mem_append, List.mem_singleton, not_or] at hv
     exact ⟨hv.2, hv.1⟩
   unfold markF
   rw [if_neg (fun q => h1.1 q.1)]
   exact hP4 v h1.2 k
 ·intro s _; simp only [MSb, reduceCtorEq, fin_usH]
 ·intros; simp only [MSb, reduceCtorEq, fin_usH]
 ·refine (runP_state (chk := chkU r.library) ?_ ?_ (fun n => some (AV.int .i64 n, σ)) l [] _).trans ?_
  ·intro pre; rfl
  ·intro pre x rest s; rw [chkU]; simp only [el_ite, el_out, el_go]
  ·rfl
end Go.Proofs.YtkdafecbdncmiaaDoor

namespace Go.Proofs.YtkdafecbdncmiaaDoor
set_option linter.unusedSectionVars false
set_option linter.unusedVariables false
set_option linter.unusedSimpArgs false
def unitKeys (lib : List ProfileD) (u : UnitD) : List KeyD := (profOf u.profile lib).1.params.map fun x => ⟨u.number, x.name⟩
def keysOf (r : RigD) : List KeyD := r.units.flatMap (unitKeys r.library)
theorem profileF_params {p : ProfileD} (h : profileF p = 0) : p.params.length ≤ 40 := by
 unfold profileF at h
 repeat' split at h
 all_goals first | (simp at h; done) | omega
theorem chkL_right : ∀ (l pre : List ProfileD), chkL pre l = 0 → ∀ p ∈ l, profileF p = 0
 | [], pre, h, p, hp => by simp at hp
 | q :: rest, pre, h, p, hp => by
  rw [chkL] at h
  by_cases e : profileF q = 0
  ·rw [if_pos e] at h
   by_cases e2 : memB q.name (pre.map (·.name)) = true
   ·rw [if_pos e2] at h; simp at h
   ·rw [if_neg e2] at h
    simp only [List.mem_cons] at hp
    rcases hp with rfl | hp
    ·exact e
    ·exact chkL_right rest _ h p hp
  ·rw [if_neg e] at h; exact absurd h e
theorem rigF_lib {r : RigD} (h : rigF r = 0) : libF r.library = 0 := by
 unfold rigF at h
 split at h
 ·assumption
 ·rename_i h2; exact absurd h h2
theorem libF_right {l : List ProfileD} (h : libF l = 0) : ∀ p ∈ l, profileF p = 0 := by
 unfold libF at h
 by_cases e : 60 < l.length
 ·rw [if_pos e] at h; simp at h
 ·rw [if_neg e] at h; exact chkL_right l [] h
theorem params_len {r : RigD} (h : rigF r = 0) (nm : ByteArray) : (profOf nm r.library).1.params.length ≤ 40 := by
 rw [profOf_find]
 cases hf : r.library.find? (fun x : ProfileD => decide (x.name = nm)) with
 | none => exact Nat.zero_le _
 | some p => exact profileF_params (libF_right (rigF_lib h) p (List.mem_of_find?_eq_some hf))
theorem unitKeys_len {r : RigD} (h : rigF r = 0) : ∀ (l : List UnitD), (l.flatMap (unitKeys r.library)).length ≤ l.length * 40
 | [] => by simp
 | u :: l => by
  have h1 := params_len h u.profile
  have h2 := unitKeys_len h l
  rw [List.flatMap_cons, List.length_append, List.length_cons, Nat.succ_mul]
  have h3 : (unitKeys r.library u).length = (profOf u.profile r.library).1.params.length := by simp [unitKeys]
  omega
theorem nnKeys (l : List KeyD) (n : Int) : A.nn (.t [(.s 2), .k]) (.tup [if l = [] then .nsl else sl 2 cKey l, .int .i64 n]) = .tup [sl 2 cKey l, .int .i64 n] := by
 show AV.tup [A.nn (.s 2) (if l = [] then .nsl else sl 2 cKey l), .int .i64 n] = _
 rw [nn_own]
theorem rigF_units {r : RigD} (h : rigF r = 0) : r.units.length ≤ 400 := by
 unfold rigF at h
 split at h
 ·split at h
  ·cases h
  ·omega
 ·rename_i h2; exact absurd h h2
theorem Keys_eq (r : RigD) (hok : okRig r) (σ : Heap) : m_fixture_Keys [.agg (cRig r)] σ = some (.tup [sl 2 cKey (if rigF r = 0 then keysOf r else []), .int .i64 (rigF r)], σ) := by
 by_cases hf : rigF r = 0
 ·refine wrap_eq rfl (v := .tup [if keysOf r = [] then .nsl else sl 2 cKey (keysOf r), .int .i64 0]) ?_ (by rw [if_pos hf, hf]; exact nnKeys _ _)
  show r_fixture_Keys (.agg (cRig r)) σ = _
  unfold r_fixture_Keys
  have hu := rigF_units hf
  have hlib := hok.1.2
  simp only [MSb, reduceCtorEq, p1_cRig_0, p1_cRig_1, pA_cRig, ce_cRig, sp_cRig, CheckRig_eq r hok, hf]
  refine (loop_pre (S := Unit) (R := Unit) r.units (fun pre u _ => (Rd.go () : Rd Unit Unit))
   (fun pre _ => [.lbx (cRig r), ownV σ.length 2 (pre.flatMap (unitKeys r.library)), .int .i64 (pre.length : Int)]) (fun pre _ => σ ++ ownB 2 cKey (pre.flatMap (unitKeys r.library)))
   (fun _ => (.exit 0, [.lbx (cRig r), ownV σ.length 2 (keysOf r), .int .i64 (r.units.length : Int)], σ ++ ownB 2 cKey (keysOf r))) (fun pre _ _ => (.ret, [], σ))
   (fun _ _ => True) () (fun _ => some (AV.tup [if keysOf r = [] then .nsl else sl 2 cKey (keysOf r), .int .i64 0], σ)) (fun _ => none) ?_ ?_ trivial (fun _ _ _ _ _ _ _ _ => trivial) ?_ ?_ (hσ := by simp [ownB_nil])).trans (run_go _ _ _ _)
  ·intro pre u rest s hl _
   have hx := pre_get hl
   have hlt := pre_lt hl
   have hi1 : IntKind.i64.wrap ((pre.length : Int) + 1) = (pre.length : Int) + 1 := wrap64 (by unfold inI; omega)
   have hlt' : (pre.length : Int) < (r.units.length : Int) := by omega
   have hia := iaddr_sl 4 cUnit r.units hx
   have hPr := profile_eq r.library hok.1.1 u.profile
   have hps := params_len hf u.profile
   have hkl := unitKeys_len hf pre
   have hsn : (pre ++ [u]).flatMap (unitKeys r.library) = pre.flatMap (unitKeys r.library) ++ unitKeys r.library u := by simp
   have hpre4 : pre.length ≤ 399 := by omega
   generalize hK : pre.flatMap (unitKeys r.library) = K at *
   generalize hq : (profOf u.profile r.library).1 = p at *
   simp only [MSb, reduceCtorEq, p1_cUnit_0, p1_cUnit_1, p1_cUnit_2, p1_cUnit_3, pA_cUnit, ce_cUnit, sp_cUnit, p1_cRig_0, p1_cRig_1, pA_cRig, ce_cRig, sp_cRig, hlt', hia, hPr, hq, p1_cProfile_0, p1_cProfile_1, p1_cProfile_2, pA_cProfile, ce_cProfile, sp_cProfile]
   refine (loop_pre (S := Unit) (R := Unit) p.params (fun pre u _ => (Rd.go () : Rd Unit Unit))
    (fun qre _ => [.lbx (cRig r), ownV σ.length 2 (K ++ qre.map fun x => (⟨u.number, x.name⟩ : KeyD)), .lbx (cUnit u), .int .i64 (qre.length : Int)]) (fun qre _ => σ ++ ownB 2 cKey (K ++ qre.map fun x => (⟨u.number, x.name⟩ : KeyD)))
    (fun _ => (.exit 2, [.lbx (cRig r), ownV σ.length 2 (K ++ unitKeys r.library u), .lbx (cUnit u), .int .i64 (p.params.length : Int)], σ ++ ownB 2 cKey (K ++ unitKeys r.library u))) (fun pre _ _ => (.ret, [], σ))
    (fun _ _ => True) () (fun _ => some (.normal, [.lbx (cRig r), ownV σ.length 2 (K ++ unitKeys r.library u), .int .i64 ((pre.length : Int) + 1)], σ ++ ownB 2 cKey (K ++ unitKeys r.library u))) (fun _ => none) ?_ ?_ trivial (fun _ _ _ _ _ _ _ _ => trivial) ?_ ?_ (hv := by simp) (hσ := by simp)).trans ((run_go _ _ _ _).trans ?_)
   ·intro qre x rest' s hl' _
    have gx := pre_get hl'
    have glt := pre_lt hl'
    have gi1 : IntKind.i64.wrap ((qre.length : Int) + 1) = (qre.length : Int) + 1 := wrap64 (by unfold inI; omega)
    have glt' : (qre.length : Int) < (p.params.length : Int) := by omega
    have gia := iaddr_sl 7 cParam p.params gx
    have hap := own_append (most := 140737488355328 / 24) (sz := 2) cKey (K ++ qre.map fun x => (⟨u.number, x.name⟩ : KeyD)) ⟨u.number, x.name⟩ σ (by
     rw [List.length_append, List.length_map]
     omega)
    have hsn' : (K ++ (qre ++ [x]).map fun x => (⟨u.number, x.name⟩ : KeyD)) = (K ++ qre.map fun x => (⟨u.number, x.name⟩ : KeyD)) ++ [⟨u.number, x.name⟩] := by simp
    clear hl gx glt hx hlt hkl hl'
    rw [hsn']
    have hch : AV.sl 2 (chunks 2 1 [AV.int .i64 u.number, AV.str x.name]) = .sl 2 [cKey ⟨u.number, x.name⟩] := rfl
    simp only [MSb, reduceCtorEq, p1_cParam_0, p1_cParam_1, p1_cParam_2, p1_cParam_3, p1_cParam_4, p1_cParam_5, p1_cParam_6, pA_cParam, ce_cParam, sp_cParam, p1_cUnit_0, p1_cUnit_1, p1_cUnit_2, p1_cUnit_3, pA_cUnit, ce_cUnit, sp_cUnit, glt', gia, gi1]
    show (A.append 2 _ _ (AV.sl 2 [cKey ⟨u.number, x.name⟩]) _).bind _ = _
    rw [hap]
    simp only [MSb, reduceCtorEq, gi1]
   ·intro s _
    refine (hend_lss _ _ _).trans ?_
    subst hq
    rfl
   ·intro s _; simp only [MSb, reduceCtorEq, hi1]
   ·intros; rename_i hb; cases hb
   ·rw [hsn]
  ·intro s _
   exact hend_lss _ _ _
  ·intro s _
   simp only [MSb, reduceCtorEq, fin_own2 fz_cKey]
  ·intros; rename_i hb; cases hb
 ·refine wrap_eq rfl (v := .tup [.nsl, .int .i64 (rigF r)]) ?_ (by rw [if_neg hf]; rfl)
  show r_fixture_Keys (.agg (cRig r)) σ = _
  unfold r_fixture_Keys
  simp only [MSb, reduceCtorEq, p1_cRig_0, p1_cRig_1, pA_cRig, ce_cRig, sp_cRig, CheckRig_eq r hok, hf]
end Go.Proofs.YtkdafecbdncmiaaDoor

namespace Go.Proofs.YtkdafecbdncmiaaDoor
set_option linter.unusedSectionVars false
set_option linter.unusedVariables false
set_option linter.unusedSimpArgs false
theorem isLevelP_eq (n : Int) (σ : Heap) : m_pick_isLevel [.int .i64 n] σ = some (.bool (withinB n 0 65535), σ) := by
 refine wrap_eq rfl ?_ rfl
 show r_pick_isLevel (.int .i64 n) σ = _
 unfold r_pick_isLevel
 simp only [MSb, reduceCtorEq, Within_eq]
def blankB (s : ByteArray) : Bool := if s = ⟨#[]⟩ then true else titleB s
theorem blank_eq (s : ByteArray) (hs : okS s) (σ : Heap) : m_pick_blank [.str s] σ = some (.bool (blankB s), σ) := by
 refine wrap_eq rfl ?_ rfl
 show r_pick_blank (.str s) σ = _
 unfold r_pick_blank blankB
 by_cases h : s = ⟨#[]⟩
 ·simp only [MSb, reduceCtorEq, h]
 ·simp only [MSb, reduceCtorEq, h, Title_eq s hs]
end Go.Proofs.YtkdafecbdncmiaaDoor

namespace Go.Proofs.YtkdafecbdncmiaaDoor
set_option linter.unusedSectionVars false
set_option linter.unusedVariables false
set_option linter.unusedSimpArgs false
def zParam : ParamD := ⟨⟨#[]⟩, 0, 0, 0, 0, false, []⟩
def paramB (p : ProfileD) (nm : ByteArray) : ParamD × Bool := (p.params.find? fun x => decide (x.name = nm)).elim (zParam, false) fun x => (x, true)
def paramOf (r : RigD) (k : KeyD) : ParamD × Bool := (r.units.find? fun u => decide (u.number = k.unit)).elim (zParam, false) fun u => paramB (profOf u.profile r.library).1 k.param
end Go.Proofs.YtkdafecbdncmiaaDoor

namespace Go.Proofs.YtkdafecbdncmiaaDoor
set_option linter.unusedSectionVars false
set_option linter.unusedVariables false
set_option linter.unusedSimpArgs false
set_option maxRecDepth 100000
noncomputable def t_pick_keys (a0 : RigD) : Option (List (KeyD × Bool)) :=
 (tq (okRig a0) (((if rigF a0 = 0 then keysOf a0 else [] : List KeyD), rigF a0))).bind fun r1 =>
 forE r1.1 (fun (i11 : Nat) e10 (s4 : (List (KeyD × Bool))) => (show Option (Lr (List (KeyD × Bool)) (List (KeyD × Bool)) Unit) from
   some (.go (tupd e10 true s4)))) (fun s4 => some s4) ([] : List (KeyD × Bool)) (fun b5 =>
  some b5) (fun b5 =>
  none)
theorem h_pick_keys {a0 : RigD} {σ : Heap} {r : (List (KeyD × Bool))} (h : t_pick_keys a0 = some r) : m_pick_keys [(AV.agg (cRig a0))] σ = some ((fmE (fun x => (AV.agg (cKey x))) (fun x => (AV.bool x)) r), σ) := by
 refine rf_wrap1 (f := r_pick_keys) (y0 := (AV.agg (cRig a0))) (enc := fun r : (List (KeyD × Bool)) => (fmE (fun x => (AV.agg (cKey x))) (fun x => (AV.bool x)) r)) (T := t_pick_keys a0) rfl rfl ?_ r h
 unfold r_pick_keys t_pick_keys
 refine rf_s _ rfl <| rf_s _ rfl ?_
 refine rf_o (fun r1 : ((List KeyD) × Int) => ((AV.tup [(sl 2 cKey r1.1), (AV.int .i64 r1.2)]), σ)) (fun r1 hr1 => (tq_of (e := fun r : ((List KeyD) × Int) => ((AV.tup [(sl 2 cKey r.1), (AV.int .i64 r.2)]), σ)) (fun hs => Keys_eq a0 hs σ)) hr1) (fun r1 hr1 => ?_)
 refine rf_s (sl 2 cKey r1.1) rfl <| rf_s _ rfl ?_
 have hp2 : Hp σ σ [] := hp_nil σ
 have hp3 : Hp σ (σ ++ [Blk.map []]) [((AV.om σ.length), (Ct.m (List.map (fun p => ((fun x => (AV.agg (cKey x))) p.1, (fun x => (AV.bool x)) p.2)) ([] : List (KeyD × Bool)))))] := hp_om hp2
 refine rf_s _ (lenS_sl _ _ _) ?_
 refine rf_for (B := (List (KeyD × Bool))) (R := Unit) (fun (i11 : Nat) (s4 : (List (KeyD × Bool))) v w6 => v = [(AV.int .i64 (i11 : Int))] ∧ Hp σ w6 [((AV.om σ.length), (Ct.m (List.map (fun p => ((fun x => (AV.agg (cKey x))) p.1, (fun x => (AV.bool x)) p.2)) s4)))]) (fun (b5 : (List (KeyD × Bool))) (q : LS) => ∃ u16 w7, q = ((AX.exit 0), ([u16] : List AV), w7) ∧ Hp σ w7 [((AV.om σ.length), (Ct.m (List.map (fun p => ((fun x => (AV.agg (cKey x))) p.1, (fun x => (AV.bool x)) p.2)) b5)))]) (fun (b5 : Unit) (q : LS) => False) ?_ ?_ ⟨rfl, hp3⟩ ?_ ?_
 ·intro hle10 i11 e10 s4 v w6 he10 hI
  obtain ⟨rfl, hp8⟩ := hI
  refine rf_s _ (ix_lt he10) <| rf_ct <| rf_s _ (ix_for he10) <| rf_s _ rfl <| rf_s _ rfl <| rf_s _ (sp_cKey _ _ rfl) <| rf_s _ rfl ?_
  obtain ⟨w12, e14, hp13⟩ := hp_updT (ek := (.s [0, 2])) (eK := (fun x => (AV.agg (cKey x)))) (eV := (fun x => (AV.bool x))) hp8 0 rfl eqk_Key e10 true rfl
  change Hp σ w12 [((AV.om σ.length), (Ct.m (List.map (fun p => ((fun x => (AV.agg (cKey x))) p.1, (fun x => (AV.bool x)) p.2)) (tupd e10 true s4))))] at hp13
  refine rf_s w12 e14 <| rf_s _ (ix_inc he10 hle10) ?_
  exact rf_ret (rnd_go ⟨rfl, hp13⟩)
 ·intro hl s4 v w6 hI
  obtain ⟨rfl, hp8⟩ := hI
  refine rf_s _ (ix_end _) <| rf_cf ?_
  exact rf_ret ⟨by simp, ⟨_, _, rfl, hp8⟩⟩
 ·intro hl b5 q hq
  obtain ⟨u16, w7, rfl, hp9⟩ := hq
  refine rf_bt rfl ?_
  exact rf_fin _ (hp_fin hp9 (fzv_om hp9 (k := 0) rfl (by intro p hp; obtain ⟨x, _, rfl⟩ := List.mem_map.1 hp; exact ⟨(fz_agg (fz_cKey _)), (fz_bool _)⟩))) ⟨rfl, rfl⟩
 ·intro hl b5 q hq
  exact False.elim hq

noncomputable def t_pick_before (a0 : KeyD) (a1 : KeyD) : Option Bool :=
 if ¬ (a0.unit = a1.unit) then
  some (decide (a0.unit < a1.unit))
 else
 some (decide ((Lib.compareBytes a0.param.data.toList a1.param.data.toList) < 0))
theorem h_pick_before {a0 : KeyD} { a1 : KeyD} {σ : Heap} {r : Bool} (h : t_pick_before a0 a1 = some r) : m_pick_before [(AV.agg (cKey a0)), (AV.agg (cKey a1))] σ = some ((AV.bool r), σ) := by
 refine rf_wrap2 (f := r_pick_before) (y0 := (AV.agg (cKey a0))) (y1 := (AV.agg (cKey a1))) (enc := fun r : Bool => (AV.bool r)) (T := t_pick_before a0 a1) rfl rfl ?_ r h
 unfold r_pick_before t_pick_before
 refine rf_s _ rfl <| rf_s _ rfl <| rf_s _ rfl <| rf_s _ rfl <| rf_s _ (aNe _ _ _) ?_
 refine rf_c (p := ¬ (a0.unit = a1.unit)) (fun c1 => ?_) (fun c1 => ?_)
 ·refine rf_s _ rfl <| rf_s _ rfl <| rf_s _ rfl ?_
  exact rf_fin _ (fin_same _ _) ⟨rfl, rfl⟩
 refine rf_s _ rfl <| rf_s _ rfl <| rf_s _ rfl <| rf_s _ rfl ?_
 exact rf_fin _ (fin_same _ _) ⟨rfl, rfl⟩

noncomputable def t_pick_CheckPresets (a0 : RigD) (a1 : (List PresetD)) : Option Int :=
 (tq (okRig a0) (rigF a0)).bind fun r1 =>
 (tq (([r1, (if (decide (200 < (a1.length : Int))) = true then 2 else 0)] : (List Int)).length ≤ mxl) ((([r1, (if (decide (200 < (a1.length : Int))) = true then 2 else 0)] : (List Int)).find? fun n => decide (¬ n = 0)).getD 0)).bind fun r2 =>
 if ¬ (r2 = 0) then
  some r2
 else
 (t_pick_keys a0).bind fun r3 =>
 forE a1 (fun (i11 : Nat) e10 (s4 : Unit) => (show Option (Lr Unit Unit Int) from
   if (!(withinB e10.number 1 999)) = true then
    some (.ret 1)
   else
   (if decide (0 < (i11 : Int)) = true then tIx a1 (IntKind.i64.wrap ((i11 : Int) - 1)) else some default).bind fun x12 =>
   if ((decide (0 < (i11 : Int))) && (decide (e10.number ≤ x12.number))) = true then
    some (.ret 7)
   else
   (tq (okS e10.title) (blankB e10.title)).bind fun r13 =>
   if (!r13) = true then
    some (.ret 3)
   else
   if 2000 < (e10.settings.length : Int) then
    some (.ret 2)
   else
   forE e10.settings (fun (i21 : Nat) e20 (s14 : Unit) => (show Option (Lr Unit Unit Int) from
     if (!((tfind e20.key r3).getD false)) = true then
      some (.ret 8)
     else
     if (!(withinB e20.level 0 65535)) = true then
      some (.ret 1)
     else
     (if decide (0 < (i21 : Int)) = true then tIx e10.settings (IntKind.i64.wrap ((i21 : Int) - 1)) else some default).bind fun x22 =>
     (if decide (0 < (i21 : Int)) = true then t_pick_before x22.key e20.key else some default).bind fun r23 =>
     if ((decide (0 < (i21 : Int))) && (!r23)) = true then
      some (.ret 7)
     else
     some (.go ()))) (fun s14 => some ()) () (fun b15 =>
    some (.go ())) (fun b15 =>
    some (.ret b15)))) (fun s4 => some ()) () (fun b5 =>
  some 0) (fun b5 =>
  some b5)
theorem h_pick_CheckPresets {a0 : RigD} { a1 : (List PresetD)} {σ : Heap} {r : Int} (h : t_pick_CheckPresets a0 a1 = some r) : m_pick_CheckPresets [(AV.agg (cRig a0)), (sl 3 cPreset a1)] σ = some ((AV.int .i64 r), σ) := by
 refine rf_wrap2 (f := r_pick_CheckPresets) (y0 := (AV.agg (cRig a0))) (y1 := (sl 3 cPreset a1)) (enc := fun r : Int => (AV.int .i64 r)) (T := t_pick_CheckPresets a0 a1) rfl rfl ?_ r h
 unfold r_pick_CheckPresets t_pick_CheckPresets
 refine rf_s _ rfl <| rf_s _ rfl ?_
 refine rf_o (fun r1 : Int => ((AV.int .i64 r1), σ)) (fun r1 hr1 => (tq_of (e := fun r : Int => ((AV.int .i64 r), σ)) (fun hs => CheckRig_eq a0 hs σ)) hr1) (fun r1 hr1 => ?_)
 refine rf_s _ (lenS_sl _ _ _) <| rf_s _ rfl <| rf_s _ (When_eq (decide (200 < (a1.length : Int))) 2 σ) <| rf_s (sl 1 cInt ([r1, (if (decide (200 < (a1.length : Int))) = true then 2 else 0)] : (List Int))) rfl ?_
 refine rf_o (fun r2 : Int => ((AV.int .i64 r2), σ)) (fun r2 hr2 => (tq_of (e := fun r : Int => ((AV.int .i64 r), σ)) (fun hs => First_eq ([r1, (if (decide (200 < (a1.length : Int))) = true then 2 else 0)] : (List Int)) hs σ)) hr2) (fun r2 hr2 => ?_)
 refine rf_s _ (aNe _ _ _) ?_
 refine rf_c (p := ¬ (r2 = 0)) (fun c31 => ?_) (fun c31 => ?_)
 ·exact rf_fin _ (fin_same _ _) ⟨rfl, rfl⟩
 refine rf_s _ rfl ?_
 refine rf_o (fun r3 : (List (KeyD × Bool)) => ((fmE (fun x => (AV.agg (cKey x))) (fun x => (AV.bool x)) r3), σ)) (fun r3 hr3 => h_pick_keys hr3) (fun r3 hr3 => ?_)
 refine rf_s _ (lenS_sl _ _ _) ?_
 refine rf_for (B := Unit) (R := Int) (fun (i11 : Nat) (s4 : Unit) v w6 => ∃ u4, v = [u4, (AV.int .i64 (i11 : Int))] ∧ σ = w6) (fun (b5 : Unit) (q : LS) => ∃ u4 u26, q = ((AX.exit 0), ([u4, u26] : List AV), σ)) (fun (b5 : Int) (q : LS) => ∃ u26, q = (AX.ret, ([(AV.int .i64 b5), u26] : List AV), σ)) ?_ ?_ ⟨_, rfl, rfl⟩ ?_ ?_
 ·intro hle10 i11 e10 s4 v w6 he10 hI
  obtain ⟨u4, rfl, rfl⟩ := hI
  refine rf_s _ (ix_lt he10) <| rf_ct <| rf_s _ (ix_for he10) <| rf_s _ rfl <| rf_s _ rfl <| rf_s _ (sp_cPreset _ _ rfl) <| rf_s _ rfl <| rf_s _ (Within_eq e10.number 1 999 σ) <| rf_s _ rfl ?_
  refine rf_cb (c := (!(withinB e10.number 1 999))) (fun c30 => ?_) (fun c30 => ?_)
  ·exact rf_ret (rnd_ret (by simp) ⟨_, rfl⟩)
  refine rf_s _ rfl <| rf_gt (AV.int .i64 e10.number) (fun hg => rfl) <| rf_gt (sl 3 cPreset a1) (fun hg => rfl) <| rf_gt (AV.int .i64 (i11 : Int)) (fun hg => rfl) <| rf_gt (AV.int .i64 (IntKind.i64.wrap ((i11 : Int) - 1))) (fun hg => by (try rw [hg]); exact rfl) ?_
  refine rf_gto (ω := PresetD) (fun x12 => (AV.rp (cPreset x12))) (fun hg x12 hx12 => by (try rw [hg]); exact ix_at hx12) (fun x12 hx12 => ?_)
  refine rf_gt (AV.rp (cPreset x12)) (fun hg => by (try rw [hg]); exact rfl) <| rf_gt (AV.int .i64 x12.number) (fun hg => by (try rw [hg]); exact rfl) <| rf_gt (AV.bool (decide (e10.number ≤ x12.number))) (fun hg => by (try rw [hg]); exact rfl) <| rf_s _ (pk_and _ _) ?_
  refine rf_cb (c := ((decide (0 < (i11 : Int))) && (decide (e10.number ≤ x12.number)))) (fun c29 => ?_) (fun c29 => ?_)
  ·exact rf_ret (rnd_ret (by simp) ⟨_, rfl⟩)
  refine rf_s _ rfl ?_
  refine rf_o (fun r13 : Bool => ((AV.bool r13), σ)) (fun r13 hr13 => (tq_of (e := fun r : Bool => ((AV.bool r), σ)) (fun hs => blank_eq e10.title hs σ)) hr13) (fun r13 hr13 => ?_)
  refine rf_s _ rfl ?_
  refine rf_cb (c := (!r13)) (fun c28 => ?_) (fun c28 => ?_)
  ·exact rf_ret (rnd_ret (by simp) ⟨_, rfl⟩)
  refine rf_s (sl 3 cSetting e10.settings) rfl <| rf_s _ (lenS_sl _ _ _) <| rf_s _ rfl ?_
  refine rf_c (p := 2000 < (e10.settings.length : Int)) (fun c27 => ?_) (fun c27 => ?_)
  ·exact rf_ret (rnd_ret (by simp) ⟨_, rfl⟩)
  refine rf_s (sl 3 cSetting e10.settings) rfl <| rf_s _ (lenS_sl _ _ _) ?_
  refine rf_for (B := Unit) (R := Int) (fun (i21 : Nat) (s14 : Unit) v w16 => ∃ u4, v = [u4, (AV.lbx (cPreset e10)), (AV.int .i64 (i21 : Int))] ∧ σ = w16) (fun (b15 : Unit) (q : LS) => ∃ u4 u8 u63, q = ((AX.exit 3), ([u4, u8, u63] : List AV), σ)) (fun (b15 : Int) (q : LS) => ∃ u8 u63, q = (AX.ret, ([(AV.int .i64 b15), u8, u63] : List AV), σ)) ?_ ?_ ⟨_, rfl, rfl⟩ ?_ ?_
  ·intro hle20 i21 e20 s14 v w16 he20 hI
   obtain ⟨u4, rfl, rfl⟩ := hI
   refine rf_s _ (ix_lt he20) <| rf_ct <| rf_s _ (ix_for he20) <| rf_s _ rfl <| rf_s _ rfl <| rf_s _ (sp_cSetting _ _ rfl) <| rf_s _ rfl <| rf_s _ (fm_lookT (ek := (.s [0, 2])) (eK := (fun x => (AV.agg (cKey x)))) (eV := (fun x => (AV.bool x))) eqk_Key e20.key false rfl) <| rf_s _ rfl ?_
   refine rf_cb (c := (!((tfind e20.key r3).getD false))) (fun c26 => ?_) (fun c26 => ?_)
   ·exact rf_ret (rnd_ret (by simp) ⟨_, _, rfl⟩)
   refine rf_s _ rfl <| rf_s _ (isLevelP_eq e20.level σ) <| rf_s _ rfl ?_
   refine rf_cb (c := (!(withinB e20.level 0 65535))) (fun c25 => ?_) (fun c25 => ?_)
   ·exact rf_ret (rnd_ret (by simp) ⟨_, _, rfl⟩)
   refine rf_s _ rfl <| rf_s _ rfl <| rf_gt (sl 3 cSetting e10.settings) (fun hg => rfl) <| rf_gt (AV.int .i64 (i21 : Int)) (fun hg => rfl) <| rf_gt (AV.int .i64 (IntKind.i64.wrap ((i21 : Int) - 1))) (fun hg => by (try rw [hg]); exact rfl) ?_
   refine rf_gto (ω := SettingD) (fun x22 => (AV.rp (cSetting x22))) (fun hg x22 hx22 => by (try rw [hg]); exact ix_at hx22) (fun x22 hx22 => ?_)
   refine rf_gt (AV.rp (cSetting x22)) (fun hg => by (try rw [hg]); exact rfl) <| rf_gt (AV.agg (cKey x22.key)) (fun hg => by (try rw [hg]); exact rfl) <| rf_gt (AV.agg (cKey e20.key)) (fun hg => rfl) ?_
   refine rf_gto (ω := Bool) (fun r23 => (AV.bool r23)) (fun hg r23 hr23 => by (try rw [hg]); exact (quiet_of (h_pick_before hr23))) (fun r23 hr23 => ?_)
   refine rf_gt (AV.bool (!r23)) (fun hg => by (try rw [hg]); exact rfl) <| rf_s _ (pk_and _ _) ?_
   refine rf_cb (c := ((decide (0 < (i21 : Int))) && (!r23))) (fun c24 => ?_) (fun c24 => ?_)
   ·exact rf_ret (rnd_ret (by simp) ⟨_, _, rfl⟩)
   refine rf_s _ (ix_inc he20 hle20) ?_
   exact rf_ret (rnd_go ⟨_, rfl, rfl⟩)
  ·intro hl s14 v w16 hI
   obtain ⟨u4, rfl, rfl⟩ := hI
   refine rf_s _ (ix_end _) <| rf_cf ?_
   exact rf_ret ⟨by simp, ⟨_, _, _, rfl⟩⟩
  ·intro hl b15 q hq
   obtain ⟨u4, u8, u63, rfl⟩ := hq
   refine rf_bt rfl <| rf_s _ (ix_inc he10 hle10) ?_
   exact rf_ret (rnd_go ⟨_, rfl, rfl⟩)
  ·intro hl b15 q hq
   obtain ⟨u8, u63, rfl⟩ := hq
   refine rf_bf rfl <| rf_bt rfl ?_
   exact rf_ret (rnd_ret (by simp) ⟨_, rfl⟩)
 ·intro hl s4 v w6 hI
  obtain ⟨u4, rfl, rfl⟩ := hI
  refine rf_s _ (ix_end _) <| rf_cf ?_
  exact rf_ret ⟨by simp, ⟨_, _, rfl⟩⟩
 ·intro hl b5 q hq
  obtain ⟨u4, u26, rfl⟩ := hq
  refine rf_bt rfl ?_
  exact rf_fin _ (fin_same _ _) ⟨rfl, rfl⟩
 ·intro hl b5 q hq
  obtain ⟨u26, rfl⟩ := hq
  refine rf_bf rfl <| rf_bt rfl ?_
  exact rf_fin _ (fin_same _ _) ⟨rfl, rfl⟩

end Go.Proofs.YtkdafecbdncmiaaDoor

namespace Go.Proofs.YtkdafecbdncmiaaDoor
set_option linter.unusedSectionVars false
set_option linter.unusedSimpArgs false
set_option linter.unusedVariables false
abbrev SmK := { k : KeyD // 0 ≤ k.unit ∧ k.unit ≤ 1000000 }
instance : Inhabited SmK := ⟨⟨⟨0, ⟨#[]⟩⟩, by decide⟩⟩
end Go.Proofs.YtkdafecbdncmiaaDoor

namespace Go.Proofs.YtkdafecbdncmiaaDoor
set_option linter.unusedSectionVars false
set_option linter.unusedVariables false
set_option linter.unusedSimpArgs false
section
variable {κ ν : Type} [DecidableEq κ]
theorem tfind_tupd (k a : κ) (v : ν) : ∀ (l : List (κ × ν)), tfind k (tupd a v l) = if k = a then some v else tfind k l
 | [] => by simp [tupd, tfind]
 | (b, w) :: l => by
  rw [tupd]
  by_cases h : a = b
  ·subst h
   rw [if_pos rfl, tfind, tfind]
   split <;> rfl
  ·rw [if_neg h, tfind, tfind, tfind_tupd k a v l]
   by_cases h2 : k = b
   ·subst h2; rw [if_pos rfl, if_pos rfl, if_neg (fun e => h e.symm)]
   ·rw [if_neg h2, if_neg h2]
theorem tfind_set (k : κ) : ∀ (l : List κ) (s : List (κ × Bool)), (tfind k (l.foldl (fun s x => tupd x true s) s)).getD false = (decide (k ∈ l) || (tfind k s).getD false)
 | [], s => by simp
 | x :: l, s => by
  rw [List.foldl_cons, tfind_set k l, tfind_tupd]
  by_cases h : k = x
  ·simp [h]
  ·simp [h]
end
theorem sorted_snoc {l : List Int} {n : Int} (h : l.Pairwise (· < ·)) (k : ordB l n = false) : (l ++ [n]).Pairwise (· < ·) := by
 rw [List.pairwise_append]
 refine ⟨h, by simp, fun a ha b hb => ?_⟩
 simp at hb
 subst hb
 unfold ordB at k
 cases hl : l.getLast? with
 | none => rw [List.getLast?_eq_none_iff] at hl; subst hl; simp at ha
 | some m =>
  rw [hl] at k
  simp at k
  obtain ⟨ys, rfl⟩ := List.getLast?_eq_some_iff.1 hl
  rw [List.pairwise_append] at h
  rcases List.mem_append.1 ha with ha | ha
  ·have := h.2.2 a ha m (by simp); omega
  ·simp at ha; omega
theorem chkU_sorted {lib : List ProfileD} : ∀ (rest pre : List UnitD), chkU lib pre rest = 0 → (pre.map (·.number)).Pairwise (· < ·) → ((pre ++ rest).map (·.number)).Pairwise (· < ·)
 | [], pre, _, h => by simpa using h
 | u :: rest, pre, hc, h => by
  rw [chkU] at hc
  split at hc
  ·cases hc
  split at hc
  ·cases hc
  rename_i ho
  split at hc
  ·cases hc
  split at hc
  ·cases hc
  split at hc
  ·cases hc
  have := chkU_sorted rest (pre ++ [u]) hc (by rw [List.map_append]; exact sorted_snoc h (by simpa using ho))
  simpa using this
theorem rigF_sorted {r : RigD} (h : rigF r = 0) : (r.units.map (·.number)).Pairwise (· < ·) := by
 unfold rigF at h
 split at h
 ·split at h
  ·cases h
  ·simpa using chkU_sorted r.units [] h (by simp)
 ·rename_i h2; exact absurd h h2
theorem paramB_mem (p : ProfileD) (nm : ByteArray) : (paramB p nm).2 = true ↔ ∃ x ∈ p.params, x.name = nm := by
 unfold paramB
 cases h : p.params.find? fun x => decide (x.name = nm) with
 | none =>
  simp only [Option.elim_none, Bool.false_eq_true, false_iff]
  rintro ⟨x, hx, e⟩
  have := List.find?_eq_none.1 h x hx
  simp [e] at this
 | some x =>
  simp only [Option.elim_some, true_iff]
  exact ⟨x, List.mem_of_find?_eq_some h, by simpa using List.find?_some h⟩
theorem uniq_unit {l : List UnitD} (h : (l.map (·.number)).Pairwise (· < ·)) {u v : UnitD} (hu : u ∈ l) (hv : v ∈ l) (e : u.number = v.number) : u = v := by
 induction l with
 | nil => simp at hu
 | cons x l ih =>
  rw [List.map_cons, List.pairwise_cons] at h
  rcases List.mem_cons.1 hu with hu1 | hu1 <;> rcases List.mem_cons.1 hv with hv1 | hv1
  ·rw [hu1, hv1]
  ·have := h.1 v.number (List.mem_map.2 ⟨v, hv1, rfl⟩); rw [← hu1] at this; omega
  ·have := h.1 u.number (List.mem_map.2 ⟨u, hu1, rfl⟩); rw [← hv1] at this; omega
  ·exact ih h.2 hu1 hv1
def hasK (r : RigD) (k : KeyD) : Bool := (paramOf r k).2
theorem hasK_mem {r : RigD} (h : rigF r = 0) (k : KeyD) : hasK r k = decide (k ∈ keysOf r) := by
 rw [Bool.eq_iff_iff, decide_eq_true_iff]
 unfold hasK paramOf keysOf
 rw [List.mem_flatMap]
 cases hf : r.units.find? fun u => decide (u.number = k.unit) with
 | none =>
  simp only [Option.elim_none, Bool.false_eq_true, false_iff]
  rintro ⟨u, hu, hk⟩
  obtain ⟨x, _, rfl⟩ := List.mem_map.1 hk
  have := List.find?_eq_none.1 hf u hu
  simp at this
 | some u =>
  have hu := List.mem_of_find?_eq_some hf
  have hn : u.number = k.unit := by simpa using List.find?_some hf
  simp only [Option.elim_some, paramB_mem]
  constructor
  ·rintro ⟨x, hx, e⟩
   exact ⟨u, hu, List.mem_map.2 ⟨x, hx, by rw [hn, e]⟩⟩
  ·rintro ⟨v, hv, hk⟩
   obtain ⟨x, hx, rfl⟩ := List.mem_map.1 hk
   obtain rfl := uniq_unit (rigF_sorted h) hu hv hn
   exact ⟨x, hx, rfl⟩
theorem keys_len {r : RigD} (h : rigF r = 0) : (keysOf r).length ≤ 16000 := by
 have h1 := unitKeys_len h r.units
 have h2 := rigF_units h
 show (r.units.flatMap (unitKeys r.library)).length ≤ _
 omega
theorem bind_ite2 {α β : Type} {p : Prop} [Decidable p] (a b : α) (f : α → Option β) : (if p then some a else some b).bind f = f (if p then a else b) := by split <;> rfl
theorem before_eq (a b : KeyD) : t_pick_before a b = some (ltK a b) := by
 unfold t_pick_before ltK
 by_cases h : a.unit = b.unit
 ·simp [h, toList_d, cmpB_lt]
 ·by_cases h2 : a.unit < b.unit <;> simp [h, h2]
def settF (has : KeyD → Bool) (l : List SettingD) (i : Nat) (x : SettingD) : Int :=
 if (!has x.key) = true then 8
 else if (!(withinB x.level 0 65535)) = true then 1
 else if (decide (0 < (i : Int)) && !ltK (pv l i).key x.key) = true then 7 else 0
def presetF (has : KeyD → Bool) (l : List PresetD) (i : Nat) (p : PresetD) : Int :=
 if (!(withinB p.number 1 999)) = true then 1
 else if (decide (0 < (i : Int)) && decide (p.number ≤ (pv l i).number)) = true then 7
 else if (!(blankB p.title)) = true then 3
 else if 2000 < (p.settings.length : Int) then 2
 else chkE (settF has p.settings) p.settings 0
def presetsF (r : RigD) (l : List PresetD) : Int :=
 if ¬ (rigF r = 0) then rigF r else if 200 < (l.length : Int) then 2 else chkE (presetF (hasK r) l) l 0
theorem guard_before (c : Bool) (a b : KeyD) : (c && !(if c = true then ltK a b else (default : Bool))) = (c && !ltK a b) := by cases c <;> rfl
theorem CheckPresets_t (r : RigD) (l : List PresetD) (hr : okRig r) (hl : okL okPreset l) : t_pick_CheckPresets r l = some (presetsF r l) := by
 unfold t_pick_CheckPresets presetsF
 simp only [tq_pos hr, Option.bind_some]
 rw [tq_pos (by show 2 ≤ mxl; unfold mxl; omega)]
 simp only [find2, Option.bind_some]
 by_cases h0 : rigF r = 0
 case neg => simp [h0]
 by_cases h1 : 200 < (l.length : Int)
 ·simp [h0, h1]
 have hk : t_pick_keys r = some ((keysOf r).foldl (fun s x => tupd x true s) []) := by
  unfold t_pick_keys
  have := keys_len h0
  simp only [tq_pos hr, Option.bind_some, h0, if_true]
  rw [forE_fold (fun s x => tupd x true s) (fun _ _ => True) (by unfold mxl; omega) trivial (fun _ _ _ _ _ => trivial) (fun _ _ _ _ _ => rfl)]
  rfl
 simp only [h0, h1, not_true_eq_false, if_false, decide_false, Bool.false_eq_true, hk, Option.bind_some]
 have has : ∀ k, (tfind k ((keysOf r).foldl (fun s x => tupd x true s) [])).getD false = hasK r k := by
  intro k; rw [tfind_set, hasK_mem h0]; simp [tfind]
 rw [forE_chk (f := presetF (hasK r) l) hl.1 ?_]
 ·split
  ·rename_i h; rw [h]
  ·rfl
 intro i p hp
 have hpm := hl.2 p (List.mem_of_getElem? hp)
 obtain ⟨_, ht, hs⟩ := hpm
 simp only [prev_at hp hl.1, Option.bind_some, tq_pos ht, has]
 rw [forE_chk (f := settF (hasK r) p.settings) hs.1 ?_]
 ·unfold presetF
  repeat first | exact elim_ret _ | exact go_ret | refine ite_ret (by decide) ?_
 intro j x hx
 simp only [prev_at hx hs.1, Option.bind_some, before_eq, bind_ite2, guard_before]
 unfold settF
 repeat first | exact go_ret | refine ite_ret (by decide) ?_
end Go.Proofs.YtkdafecbdncmiaaDoor

namespace Go.Proofs.YtkdafecbdncmiaaDoor
set_option linter.unusedSectionVars false
set_option linter.unusedVariables false
set_option linter.unusedSimpArgs false
theorem tadd {a b : Nat} (h : a + b < 9223372036854775808) : A.add (.int .i64 (a : Int)) (.int .i64 (b : Int)) = some (.int .i64 ((a + b : Nat) : Int)) := by
 rw [aAdd, wrap64 (by unfold inI; omega)]; simp
theorem tadd1 {a : Nat} (h : a + 1 < 9223372036854775808) : A.add (.int .i64 (a : Int)) (.int .i64 1) = some (.int .i64 ((a + 1 : Nat) : Int)) := tadd (b := 1) h
theorem tlss (a b : Nat) : A.lss (.int .i64 (a : Int)) (.int .i64 (b : Int)) = some (.bool (decide (a < b))) := by
 rw [aLss]
 have : ((a : Int) < (b : Int)) = (a < b) := propext ⟨fun h => by omega, fun h => by omega⟩
 simp only [this]
theorem exb {α : Type} {X Y : α} : (bif (AX.exit 0 == AX.exit 0) then X else Y) = X := rfl
end Go.Proofs.YtkdafecbdncmiaaDoor

namespace Go.Proofs.YtkdafecbdncmiaaDoor
set_option linter.unusedSectionVars false
set_option linter.unusedVariables false
set_option linter.unusedSimpArgs false
def srtM (l : List MoveD) : Prop := l.Pairwise fun a b => ltK a.key b.key = true
structure Good (l : List CueD) : Prop where
 len : l.length ≤ 300
 num : ∀ c ∈ l, 1 ≤ c.number ∧ c.number ≤ 9999999
 srt : l.Pairwise fun a b => a.number < b.number
 mv : ∀ c ∈ l, c.moves.length ≤ 2000 ∧ srtM c.moves
 pts : ∀ c ∈ l, c.curve.points.length ≤ 20
end Go.Proofs.YtkdafecbdncmiaaDoor

namespace Go.Proofs.YtkdafecbdncmiaaDoor
set_option linter.unusedSectionVars false
set_option linter.unusedVariables false
set_option linter.unusedSimpArgs false
structure GoodN (l : List CueD) : Prop where
 len : l.length ≤ 300
 num : ∀ c ∈ l, 1 ≤ c.number ∧ c.number ≤ 9999999
 srt : l.Pairwise fun a b => a.number < b.number
section
variable {α R γ S B : Type}
end
end Go.Proofs.YtkdafecbdncmiaaDoor

namespace Go.Proofs.YtkdafecbdncmiaaDoor
set_option linter.unusedSectionVars false
set_option linter.unusedVariables false
set_option linter.unusedSimpArgs false
open HP
def Lt (σ : Heap) (sh : Sh) (v t : AV) : Prop := (∃ v', A.frz σ 0 8 v = some v' ∧ A.own v' = false ∧ A.nn sh v' = A.nn sh t) ∧ A.own t = false ∧ (A.own v = false → A.nn sh v = A.nn sh t)
def LtL (σ : Heap) : List Sh → List AV → List AV → Prop
 | _, [], [] => True
 | [], a :: aas, t :: ts => Lt σ .k a t ∧ LtL σ [] aas ts
 | s :: ss, a :: aas, t :: ts => Lt σ s a t ∧ LtL σ ss aas ts
 | _, _, _ => False
theorem nn_k (v : AV) : A.nn .k v = v := by simp [A.nn]
theorem ltL {σ : Heap} : ∀ {ss : List Sh} {aas ts : List AV}, LtL σ ss aas ts → (∃ aas', A.frzL σ 0 8 aas = some aas' ∧ aas'.any A.own = false ∧ A.nnL ss aas' = A.nnL ss ts) ∧ ts.any A.own = false ∧ (aas.any A.own = false → A.nnL ss aas = A.nnL ss ts)
 | ss, [], [], _ => ⟨⟨[], by simp [A.frzL], rfl, rfl⟩, rfl, fun _ => rfl⟩
 | [], a :: aas, t :: ts, h => by
  obtain ⟨⟨⟨v', h1, h2, h3⟩, h4, h5⟩, h6⟩ := h
  obtain ⟨⟨aas', k1, k2, k3⟩, k4, k5⟩ := ltL h6
  rw [nn_k, nn_k] at h3
  simp only [A.nnL] at k3 k5
  refine ⟨⟨v' :: aas', by simp [A.frzL, h1, k1], by simp [h2, k2], by simp [A.nnL, h3, k3]⟩, by simp [h4, k4], fun h => ?_⟩
  simp only [List.any_cons, Bool.or_eq_false_iff] at h
  have := h5 h.1
  rw [nn_k, nn_k] at this
  simp [A.nnL, this, k5 h.2]
 | s :: ss, a :: aas, t :: ts, h => by
  obtain ⟨⟨⟨v', h1, h2, h3⟩, h4, h5⟩, h6⟩ := h
  obtain ⟨⟨aas', k1, k2, k3⟩, k4, k5⟩ := ltL h6
  refine ⟨⟨v' :: aas', by simp [A.frzL, h1, k1], by simp [h2, k2], by simp [A.nnL, h3, k3]⟩, by simp [h4, k4], fun h => ?_⟩
  simp only [List.any_cons, Bool.or_eq_false_iff] at h
  simp [A.nnL, h5 h.1, k5 h.2]
 | _, [], _ :: _, h => by cases h
 | [], _ :: _, [], h => by cases h
 | _ :: _, _ :: _, [], h => by cases h
theorem lent {ain : List Sh} {rout : Sh} {r : List AV → Heap → Option (AV × Heap)} {aas ts : List AV} {σ : Heap} {v : AV} (h : LtL σ ain aas ts) (e : ∀ σ, A.wrap true ain rout r ts σ = some (v, σ)) (hs : A.scal v = true) : A.wrap true ain rout r aas σ = some (v, σ) := by
 obtain ⟨⟨aas', k1, k2, k3⟩, k4, k5⟩ := ltL h
 cases ho : aas.any A.own
 ·rw [wrap_nn (k5 ho) ho k4]; exact e σ
 ·exact wrap_own ho k1 k2 (by rw [wrap_nn k3 k2 k4]; exact e []) hs
theorem lt_fz {σ : Heap} {sh : Sh} {v : AV} (h : Fz v) (ho : A.own v = false) : Lt σ sh v v := ⟨⟨v, h σ 0 8, ho, rfl⟩, ho, fun _ => rfl⟩
theorem lt_int {σ : Heap} (n : Int) : Lt σ .k (.int .i64 n) (.int .i64 n) := lt_fz (fz_int _ _) rfl
section
variable {α : Type} {c : α → List AV} {sz : Nat} {B : Blk → Prop} {σ0 σ : Heap} {R : HP} {v : AV} {l : List α}
theorem slf_cases (H : Hs B σ0 σ (Sl (fl c) sz v l * R)) : (l = [] ∧ (v = .nsl ∨ v = .ez) ∧ Hs B σ0 σ R) ∨ ∃ id g, v = .os id g sz 0 l.length ∧ Hs B σ0 σ (blk id (.arr g sz (l.map c)) * R) := by
 rcases sl_cases H with h | ⟨id, g, seg, rfl, hl, H⟩
 ·exact .inl h
 ·have K := els_fl.1 (hs_eq (show _ = els (fl c) seg l * (blk id (.arr g sz seg) * R) by ac_rfl) H)
  obtain ⟨rfl, K⟩ := K
  exact .inr ⟨id, g, rfl, K⟩
theorem slf_os {id g : Nat} {n : Nat} (H : Hs B σ0 σ (blk id (.arr g sz (l.map c)) * R)) (hn : n = l.length := by rfl) : Hs B σ0 σ (Sl (fl c) sz (.os id g sz 0 n) l * R) :=
 sl_os (id := id) (g := g) (seg := l.map c) (hs_eq (show els (fl c) (l.map c) l * (blk id (.arr g sz (l.map c)) * R) = _ by ac_rfl) (els_fl.2 ⟨rfl, H⟩)) hn
theorem frz_os (hc : ∀ x, FzL (c x)) {id g : Nat} (h : σ[id]? = some (.arr g sz (l.map c))) {n : Nat} (hn : ¬ id < n) (d : Nat) : A.frz σ n (d + 1) (.os id g sz 0 l.length) = some (sl sz c l) := by
 simp only [A.frz, if_neg hn, h]
 rw [if_pos (by simp), List.drop_zero, List.take_of_length_le (by simp), frzLL_eq, fzLL hc]
 rfl
theorem slf_fz (H : Hs B σ0 σ (Sl (fl c) sz v l * R)) (hc : ∀ x, FzL (c x)) {n : Nat} (hn : n ≤ σ0.length) (d : Nat) : ∃ v', A.frz σ n (d + 1) v = some v' ∧ A.own1 v' = false ∧ A.nn (.s sz) v' = sl sz c l := by
 rcases slf_cases H with ⟨rfl, rfl | rfl, _⟩ | ⟨id, g, rfl, K⟩
 ·exact ⟨.nsl, by simp [A.frz], rfl, rfl⟩
 ·exact ⟨.ez, by simp [A.frz], rfl, rfl⟩
 ·obtain ⟨h1, h2⟩ := hs_get K
  exact ⟨_, frz_os hc h2 (by omega) d, rfl, rfl⟩
structure Cl (p : AV) (F : List AV → HP) : Prop where
 nc : A.nilck p = some p
 ow : A.own p = true
 ld : ∀ {σ0 σ : Heap} {e : List AV} {R : HP}, Hs anyB σ0 σ (F e * R) → A.deref p σ = some e
 fa : ∀ (o : Nat), ∃ q, A.faddr o p = some q ∧ (∀ {σ0 σ : Heap} {e : List AV} {R : HP}, Hs anyB σ0 σ (F e * R) → A.deref q σ = some (e.drop o)) ∧
  ∀ {σ0 σ : Heap} {e : List AV} {R : HP} {new e' : List AV}, Hs anyB σ0 σ (F e * R) → A.splice o new e = some e' → ∃ σ', A.storeAt q new σ = some σ' ∧ Hs anyB σ0 σ' (F e' * R)
 st : ∀ {σ0 σ : Heap} {e : List AV} {R : HP} {new e' : List AV}, Hs anyB σ0 σ (F e * R) → A.splice 0 new e = some e' → ∃ σ', A.storeAt p new σ = some σ' ∧ Hs anyB σ0 σ' (F e' * R)
 fc : ∀ (o o' : Nat) (q : AV), A.faddr o p = some q → A.faddr o' q = A.faddr (o + o') p
theorem hs_any {P : HP} (H : Hs B σ0 σ P) : Hs anyB σ0 σ P := ⟨by obtain ⟨bs, h, _⟩ := H.pre; exact ⟨bs, h, fun _ _ => trivial⟩, H.own⟩
end
section
variable {α : Type} {E : List AV → α → HP} {sz : Nat} {σ0 σ : Heap} {R : HP} {v : AV} {l : List α}
theorem sl_cell (H : Hs anyB σ0 σ (Sl E sz v l * R)) {i : Nat} {x : α} (hx : l[i]? = some x) : ∃ p F e, A.iaddr sz v (.int .i64 (i : Int)) = some p ∧ Cl p F ∧ Hs anyB σ0 σ (F e * (E e x * R)) ∧
  ∀ {σ : Heap} {e : List AV} {y : α} {R : HP}, Hs anyB σ0 σ (F e * (E e y * R)) → Hs anyB σ0 σ (Sl E sz v (l.set i y) * R) := by
 have hi := (List.getElem?_eq_some_iff.1 hx).1
 rcases sl_cases H with ⟨rfl, _, _⟩ | ⟨id, g, seg, rfl, hl, H⟩
 ·simp at hx
 ·have he : seg[i]? = some seg[i] := List.getElem?_eq_getElem (by omega)
  have rd : ∀ {σ0 σ : Heap} {e : List AV} {R : HP} (o : Nat), Hs anyB σ0 σ (blk id (.arr g sz (seg.set i e)) * els E (seg.eraseIdx i) (l.eraseIdx i) * R) → A.deref (.oe id g i o) σ = some (e.drop o) := by
   intro σ0 σ e R o K
   obtain ⟨_, k2⟩ := hs_get (hs_eq (star_assoc _ _ _) K)
   simp only [A.deref, k2, if_true]
   rw [List.getElem?_set_self (by omega)]
   rfl
  have wr : ∀ {σ0 σ : Heap} {e : List AV} {R : HP} {new e' : List AV} (o : Nat), Hs anyB σ0 σ (blk id (.arr g sz (seg.set i e)) * els E (seg.eraseIdx i) (l.eraseIdx i) * R) → A.splice o new e = some e' →
    ∃ σ', A.storeAt (.oe id g i o) new σ = some σ' ∧ Hs anyB σ0 σ' (blk id (.arr g sz (seg.set i e')) * els E (seg.eraseIdx i) (l.eraseIdx i) * R) := by
   intro σ0 σ e R new e' o K hs
   have K' := hs_eq (star_assoc _ _ _) K
   obtain ⟨_, k2⟩ := hs_get K'
   refine ⟨σ.set id (.arr g sz (seg.set i e')), ?_, ?_⟩
   ·simp only [A.storeAt, k2, if_true]
    rw [List.getElem?_set_self (by omega), Option.bind_some, hs, Option.map_some, List.set_set]
   ·exact hs_eq (star_assoc _ _ _).symm (hs_set (b' := .arr g sz (seg.set i e')) K' trivial)
  refine ⟨.oe id g i 0, fun e => blk id (.arr g sz (seg.set i e)) * els E (seg.eraseIdx i) (l.eraseIdx i), seg[i], ?_, ⟨rfl, rfl, fun K => by have := rd 0 K; simpa using this, fun o => ⟨.oe id g i o, by simp [A.faddr], fun K => rd o K, fun K hs => wr o K hs⟩, fun K hs => wr 0 K hs, fun o o' q hq => by simp [A.faddr] at hq; subst hq; simp [A.faddr]⟩, ?_, ?_⟩
  ·have hi' : ((i : Int) < (l.length : Int)) := by omega
   simp [A.iaddr, A.idx, hi']
  ·refine hs_eq ?_ H
   have e1 : seg.set i seg[i] = seg := List.set_getElem_self (by omega)
   simp only [e1]
   rw [els_at hl he hx]
   ac_rfl
  ·intro σ e y R K
   refine sl_os (id := id) (g := g) (seg := seg.set i e) (hs_eq ?_ K) (by simp)
   have e1 : els E (seg.set i e) (l.set i y) = els E (seg.eraseIdx i) (l.eraseIdx i) * E e y := by
    rw [els_at (i := i) (e := e) (x := y) (by simp [hl]) (by rw [List.getElem?_set_self (by omega)]) (by rw [List.getElem?_set_self hi])]
    rw [List.eraseIdx_set_eq, List.eraseIdx_set_eq]
   rw [e1]
   ac_rfl
end
def cCueH (x : CueD) (vp vm : AV) : List AV := [.int .i64 x.number, .str x.title, .int .i64 x.delay, .int .i64 x.up, .int .i64 x.down, .int .i64 x.other, .int .i64 x.curve.kind, vp, .bool x.block, .int .i64 x.follow, vm]
section
variable {B : Blk → Prop} {σ0 σ : Heap} {R : HP} {M : AV → List MoveD → HP} {e : List AV} {x : CueD}
variable {v : AV} {l : List CueD}
end
end Go.Proofs.YtkdafecbdncmiaaDoor

namespace Go.Proofs.YtkdafecbdncmiaaDoor
set_option linter.unusedSectionVars false
set_option linter.unusedVariables false
set_option linter.unusedSimpArgs false
open HP
theorem loop_hs {α : Type} {f : List AV → Heap → Option LS} {Q : LS → Prop} (l : List α) (I : Nat → List AV → Heap → Prop) {v0 : List AV} {σ : Heap}
  (hstep : ∀ i x v σ, l[i]? = some x → I i v σ → ∃ v' σ', f v σ = some (.normal, v', σ') ∧ I (i + 1) v' σ')
  (hend : ∀ v σ, I l.length v σ → ∃ q, f v σ = some q ∧ q.1 ≠ .normal ∧ Q q) (h0 : I 0 v0 σ) : ∃ q, A.loop f v0 σ = some q ∧ Q q := by
 have key : ∀ (k i : Nat) v σ, l.length - i ≤ k → i ≤ l.length → I i v σ → ∃ q, (∃ n, A.iter f n v σ = some q) ∧ Q q := by
  intro k
  induction k with
  | zero =>
   intro i v σ hk hle hI
   have : i = l.length := by omega
   subst this
   obtain ⟨q, h1, h2, h3⟩ := hend v σ hI
   exact ⟨q, loop_done h1 h2, h3⟩
  | succ k ih =>
   intro i v σ hk hle hI
   by_cases hi : i < l.length
   ·obtain ⟨v', σ', h1, h2⟩ := hstep i _ v σ (List.getElem?_eq_getElem hi) hI
    obtain ⟨q, hq, hQ⟩ := ih (i + 1) v' σ' (by omega) (by omega) h2
    exact ⟨q, loop_step h1 hq, hQ⟩
   ·have : i = l.length := by omega
    subst this
    obtain ⟨q, h1, h2, h3⟩ := hend v σ hI
    exact ⟨q, loop_done h1 h2, h3⟩
 obtain ⟨q, ⟨n, hn⟩, hQ⟩ := key _ 0 v0 σ (Nat.le_refl _) (Nat.zero_le _) h0
 exact ⟨q, loop_of_iter hn, hQ⟩
theorem loop_k {β : Type} {f : List AV → Heap → Option LS} {K : LS → Option β} {v0 : List AV} {σ : Heap} {P : β → Prop} {Q : LS → Prop} (h : ∃ q, A.loop f v0 σ = some q ∧ Q q) (k : ∀ q, Q q → ∃ b, K q = some b ∧ P b) : ∃ b, (A.loop f v0 σ).bind K = some b ∧ P b := by
 obtain ⟨q, h1, h2⟩ := h
 obtain ⟨b, h3, h4⟩ := k q h2
 exact ⟨b, by rw [h1]; exact h3, h4⟩
section
variable {α : Type} {c : α → List AV} {sz : Nat} {B : Blk → Prop} {σ0 σ : Heap} {R : HP} {v : AV} {l : List α}
theorem slf_at (H : Hs B σ0 σ (Sl (fl c) sz v l * R)) {i : Nat} {x : α} (hx : l[i]? = some x) : ∃ p, A.iaddr sz v (.int .i64 (i : Int)) = some p ∧ A.deref p σ = some (c x) := by
 have hi := (List.getElem?_eq_some_iff.1 hx).1
 rcases slf_cases H with ⟨rfl, _, _⟩ | ⟨id, g, rfl, K⟩
 ·simp at hx
 ·obtain ⟨h1, h2⟩ := hs_get K
  have hi' : ((i : Int) < (l.length : Int)) := by omega
  exact ⟨.oe id g i 0, by simp [A.iaddr, A.idx, hi'], by simp [A.deref, h2, hx]⟩
theorem clo_gen {most : Nat} {m r : List AV → Heap → Option (AV × Heap)} {r0 : AV → Heap → Option (AV × Heap)} (hm : m = A.cloneZ (A.wrap true [(.s sz)] .k (A.ar1 r0))) (hr : ∀ a σ, r0 a σ = (A.eqN a .nsl).bind fun x1 => A.cond x1 (some (.nsl, σ)) ((A.append sz most .ez a σ).bind fun r2 => some (r2.1, r2.2)))
  (hl : l.length ≤ most) (hB : ∀ g g' seg, (seg = [] ∨ B (.arr g sz seg)) → B (.arr g' sz (seg ++ l.map c))) (H : Hs B σ0 σ R) : ∃ v σ', m [sl sz c l] σ = some (v, σ') ∧ A.cell v = some v ∧ Hs B σ0 σ' (Sl (fl c) sz v l * R) := by
 subst hm
 cases l with
 | nil => exact ⟨.ez, σ, rfl, rfl, slz H (.inr rfl)⟩
 | cons x l =>
  obtain ⟨v', σ', e1, H2⟩ := sl_app (B := B) (E := fl c) (sz := sz) (v := .ez) (l := []) (ys := (x :: l).map c) (xs := x :: l) (most := most) (slz (els_fl.2 ⟨rfl, H⟩) (.inr rfl)) (by simpa using hl) hB
  have hv : A.cell v' = some v' := by
   rcases slf_cases H2 with ⟨h, _, _⟩ | ⟨id, g, rfl, _⟩
   ·cases h
   ·rfl
  refine ⟨v', σ', ?_, hv, H2⟩
  show A.wrap true [(.s sz)] .k (A.ar1 r0) [sl sz c (x :: l)] σ = _
  refine wrap_eq rfl ?_ rfl
  show r0 (sl sz c (x :: l)) σ = _
  rw [hr, show A.eqN (sl sz c (x :: l)) .nsl = some (.bool false) from rfl, Option.bind_some, cnd_f, show sl sz c (x :: l) = .sl sz ((x :: l).map c) from rfl, e1]
  rfl
end
section
variable {σ0 σ : Heap} {R : HP}
theorem cell_sl {α : Type} {E : List AV → α → HP} {sz : Nat} {B : Blk → Prop} {v : AV} {l : List α} (H : Hs B σ0 σ (Sl E sz v l * R)) : A.cell v = some v := by
 rcases sl_cases H with ⟨_, rfl | rfl, _⟩ | ⟨id, g, seg, rfl, _⟩ <;> rfl
end
end Go.Proofs.YtkdafecbdncmiaaDoor

namespace Go.Proofs.YtkdafecbdncmiaaDoor
set_option linter.unusedSectionVars false
set_option linter.unusedVariables false
set_option linter.unusedSimpArgs false
open HP
section
variable {σ0 σ : Heap} {R : HP}
theorem fin_hs {v v' : AV} (H : Hs anyB σ0 σ R) (h : A.frz σ σ0.length 8 v = some v') (hv : σ = σ0 → v' = v) : A.fin σ0 v σ = some (v', σ0) := by
 obtain ⟨⟨bs, rfl, _⟩, _⟩ := H
 by_cases hbs : bs = []
 ·subst hbs
  rw [List.append_nil] at h ⊢
  rw [fin_same, hv (by simp)]
 ·unfold A.fin
  rw [if_neg (by simpa using hbs), if_pos (by simp), h]; rfl
end
end Go.Proofs.YtkdafecbdncmiaaDoor

namespace Go.Proofs.YtkdafecbdncmiaaDoor
set_option linter.unusedSectionVars false
set_option linter.unusedVariables false
set_option linter.unusedSimpArgs false
open HP
def Inv (k : Nat) (l : List CueD) : Prop := l.length ≤ 1000 ∧ ∀ c ∈ l, srtM c.moves ∧ c.moves.length ≤ 2000 + k
section
variable {σ0 σ : Heap} {R : HP}
end
end Go.Proofs.YtkdafecbdncmiaaDoor

namespace Go.Proofs.YtkdafecbdncmiaaDoor
set_option linter.unusedSectionVars false
set_option linter.unusedVariables false
set_option linter.unusedSimpArgs false
open HP
section
variable {α β : Type} {E : List AV → β → HP} {f : α → β} {B : Blk → Prop} {σ0 σ : Heap} {R : HP} {sz : Nat} {v : AV}
end
section
variable {σ0 σ : Heap} {R : HP} {v : AV}
theorem lt_slf {α : Type} {c : α → List AV} {sz : Nat} {l : List α} {vm : AV} (hc : ∀ x, FzL (c x)) (H : Hs anyB σ0 σ (Sl (fl c) sz vm l * R)) : Lt σ (.s sz) vm (sl sz c l) := by
 obtain ⟨v', h1, h2, h3⟩ := slf_fz H hc (Nat.zero_le _) 7
 refine ⟨⟨v', h1, ?_, by rw [h3]; rfl⟩, rfl, fun ho => ?_⟩
 ·rcases slf_cases H with ⟨rfl, rfl | rfl, _⟩ | ⟨id, g, rfl, K⟩
  ·simp [A.frz] at h1; subst h1; rfl
  ·simp [A.frz] at h1; subst h1; rfl
  ·cases v' <;> first | rfl | (cases h2; done) | (simp only [A.nn] at h3; cases h3)
 ·rcases slf_cases H with ⟨rfl, rfl | rfl, _⟩ | ⟨id, g, rfl, K⟩
  ·rfl
  ·rfl
  ·cases ho
end
end Go.Proofs.YtkdafecbdncmiaaDoor

namespace Go.Proofs.YtkdafecbdncmiaaDoor
set_option linter.unusedSectionVars false
set_option linter.unusedVariables false
set_option linter.unusedSimpArgs false
open HP
theorem ext0 (a b : AV) : A.ext 0 (.tup [a, b]) = some a := rfl
theorem ext1 (a b : AV) : A.ext 1 (.tup [a, b]) = some b := rfl
theorem aNeI (a : Int) : A.neq .i (.int .i64 a) (.int .i64 0) = some (.bool (decide (¬ (a = 0)))) := by rw [aNe]
end Go.Proofs.YtkdafecbdncmiaaDoor

namespace Go.Proofs.YtkdafecbdncmiaaDoor
set_option linter.unusedSectionVars false
set_option linter.unusedVariables false
set_option linter.unusedSimpArgs false
open HP
def frB : Blk → Prop := fun b => A.freshB b = true
section
variable {α : Type} {c : α → List AV} {sz : Nat} {σ0 σ : Heap} {R : HP}
theorem hs_ext {B : Blk → Prop} (H : Hs B σ0 σ R) (bs : Heap) (hbs : ∀ b ∈ bs, B b) : Hs B σ0 (σ ++ bs) R := by
 obtain ⟨⟨b0, rfl, hb0⟩, h, hr, h2⟩ := H
 exact ⟨⟨b0 ++ bs, by simp, fun b hb => (List.mem_append.1 hb).elim (hb0 b) (hbs b)⟩, h, hr, fun i b hb => ⟨(h2 i b hb).1, by rw [List.getElem?_append_left (List.getElem?_eq_some_iff.1 (h2 i b hb).2).1]; exact (h2 i b hb).2⟩⟩
theorem hs_add {B : Blk → Prop} (H : Hs B σ0 σ R) {bs : Heap} (hbs : ∀ b ∈ bs, B b) {j : Nat} {b : Blk} (hj : σ.length ≤ j) (hb : (σ ++ bs)[j]? = some b) : Hs B σ0 (σ ++ bs) (blk j b * R) := by
 have hl := hs_len H
 have H2 := hs_ext H bs hbs
 obtain ⟨_, h, hr, h2⟩ := H
 have hn : h j = none := by
  cases hh : h j with
  | none => rfl
  | some x => have := (List.getElem?_eq_some_iff.1 (h2 j x hh).2).1; omega
 refine ⟨H2.pre, fun i => if i = j then some b else h i, ⟨fun i => if i = j then some b else none, h, fun i => rfl, hr, fun i => ?_, fun i => ?_⟩, fun i x hx => ?_⟩
 ·by_cases e : i = j
  ·subst e; exact .inr hn
  ·simp [e]
 ·by_cases e : i = j <;> simp [e]
 ·by_cases e : i = j
  ·subst e
   simp only [if_true, Option.some.injEq] at hx
   subst hx
   exact ⟨by omega, hb⟩
  ·simp only [e, if_false] at hx
   obtain ⟨k1, k2⟩ := h2 i x hx
   exact ⟨k1, by rw [List.getElem?_append_left (List.getElem?_eq_some_iff.1 k2).1]; exact k2⟩
def KS (m : List AV → Heap → Option (AV × Heap)) (args : List AV) (c : α → List AV) (sz : Nat) (l : List α) : Prop :=
 ∀ (σ0 σ : Heap) (R : HP), Hs frB σ0 σ R → ∃ v σ', m args σ = some (v, σ') ∧ Hs frB σ0 σ' (Sl (fl c) sz v l * R)
theorem ks_at {B : Blk → Prop} (hBB : ∀ b, frB b → B b) {m : List AV → Heap → Option (AV × Heap)} {args : List AV} {l : List α} (h : KS m args c sz l) (H : Hs B σ0 σ R) : ∃ v σ', m args σ = some (v, σ') ∧ Hs B σ0 σ' (Sl (fl c) sz v l * R) := by
 obtain ⟨v, σ', e1, K⟩ := h σ σ emp (hs_nil σ)
 refine ⟨v, σ', e1, ?_⟩
 obtain ⟨⟨bs, hbs, hfr⟩, _⟩ := id K
 subst hbs
 have hbb : ∀ b ∈ bs, B b := fun b hb => hBB b (hfr b hb)
 rcases slf_cases K with ⟨rfl, hv, _⟩ | ⟨id, g, rfl, K2⟩
 ·exact slz (hs_ext H bs hbb) hv
 ·obtain ⟨k1, k2⟩ := hs_get K2
  exact slf_os (hs_add H hbb k1 k2)
theorem lentK {B : Blk → Prop} (hBB : ∀ b, frB b → B b) {ain : List Sh} {r : List AV → Heap → Option (AV × Heap)} {as0 ts : List AV} {l : List α} (h : LtL σ ain as0 ts) (e : KS (A.wrap true ain .k r) ts c sz l) (H : Hs B σ0 σ R) :
  ∃ v σ', A.wrap true ain .k r as0 σ = some (v, σ') ∧ Hs B σ0 σ' (Sl (fl c) sz v l * R) := by
 obtain ⟨⟨as', k1, k2, k3⟩, k4, k5⟩ := ltL h
 cases ho : as0.any A.own
 ·obtain ⟨v, σ', e1, K⟩ := ks_at hBB e H
  exact ⟨v, σ', by rw [wrap_nn (k5 ho) ho k4]; exact e1, K⟩
 ·obtain ⟨v, σ1, e1, K⟩ := e [] [] emp (hs_nil [])
  have e2 : r (A.nnL ain ts) [] = some (v, σ1) := by
   unfold A.wrap at e1
   rw [k4, Bool.and_false, cond_false] at e1
   obtain ⟨⟨q1, q2⟩, f1, f2⟩ := Option.map_eq_some_iff.1 e1
   simp only [Prod.mk.injEq, nn_k] at f2
   obtain ⟨rfl, rfl⟩ := f2
   exact f1
  have hfr : ∀ b ∈ σ1, frB b := by
   obtain ⟨⟨bs, hbs, hB⟩, _⟩ := K
   rw [List.nil_append] at hbs
   subst hbs
   exact hB
  have hb : σ1.all A.freshB = true := List.all_eq_true.2 hfr
  have hbb : ∀ b ∈ σ1, B b := fun b hb => hBB b (hfr b hb)
  have hw : ∀ v', A.freshT v = true → A.shiftT σ.length v = v' → A.wrap true ain .k r as0 σ = some (v', σ ++ σ1) := by
   intro v' h1 h2
   unfold A.wrap
   rw [ho, Bool.and_self, cond_true, k1, Option.bind_some, k3, e2, Option.bind_some, nn_k]
   simp only [h1, hb, Bool.and_self, cond_true, h2]
  rcases slf_cases K with ⟨rfl, rfl | rfl, _⟩ | ⟨id, g, rfl, K2⟩
  ·exact ⟨.nsl, _, hw _ rfl rfl, slz (hs_ext H σ1 hbb) (.inl rfl)⟩
  ·exact ⟨.ez, _, hw _ rfl rfl, slz (hs_ext H σ1 hbb) (.inr rfl)⟩
  ·obtain ⟨_, k2⟩ := hs_get K2
   refine ⟨.os (id + σ.length) g sz 0 l.length, _, hw _ rfl rfl, slf_os (hs_add H hbb (by omega) ?_)⟩
   rw [List.getElem?_append_right (by omega), Nat.add_sub_cancel]; exact k2
theorem frB_app {c : α → List AV} (hc : ∀ x, (c x).all A.scal1 = true) (l : List α) : ∀ g g' seg, (seg = [] ∨ frB (.arr g sz seg)) → frB (.arr g' sz (seg ++ l.map c)) := by
 intro g g' seg h
 show ((seg ++ l.map c).all fun e => e.all A.scal1) = true
 rw [List.all_append, Bool.and_eq_true]
 refine ⟨?_, ?_⟩
 ·rcases h with rfl | h
  ·rfl
  ·exact h
 ·rw [List.all_map, List.all_eq_true]; intro x _; exact hc x
end
end Go.Proofs.YtkdafecbdncmiaaDoor

namespace Go.Proofs.YtkdafecbdncmiaaDoor
set_option linter.unusedSectionVars false
set_option linter.unusedVariables false
set_option linter.unusedSimpArgs false
theorem grow_0I (σ : Heap) : m_slices_Grow_int [.nsl, .int .i64 0] σ = some (.nsl, σ) := by
 unfold m_slices_Grow_int A.wrap
 rw [Bool.false_and, cond_false]
 show (r_slices_Grow_int .nsl (.int .i64 0) σ).map _ = _
 rw [show r_slices_Grow_int .nsl (.int .i64 0) σ = some (.nsl, σ) from rfl]
 simp [A.nn]
def zsEI : List AV := [(AV.int .i64 0)]
theorem grow_nI {n : Nat} (h0 : 0 < n) (h1 : n ≤ 4398046511104) (σ : Heap) : m_slices_Grow_int [.nsl, .int .i64 (n : Int)] σ = some (.os σ.length n 1 0 0, σ ++ [.arr n 1 (List.replicate n zsEI)]) := by
 unfold m_slices_Grow_int A.wrap
 rw [Bool.false_and, cond_false]
 show (r_slices_Grow_int .nsl (.int .i64 (n : Int)) σ).map _ = _
 have run : r_slices_Grow_int .nsl (.int .i64 (n : Int)) σ = some (.os σ.length n 1 0 0, σ ++ [.arr n 1 (List.replicate n zsEI)]) := by
  unfold r_slices_Grow_int
  have hc : ∀ {k : AV → Option (AV × Heap)} {u : Option (AV × Heap)}, A.capM (A.capN .nsl) k u = k (.int .i64 0) := rfl
  have hc2 : ∀ {k : AV → Option (List AV × Heap)} {u : Option (List AV × Heap)}, A.capM (A.capN .nsl) k u = k (.int .i64 0) := rfl
  have e1 : A.lss (.int .i64 (n : Int)) (.int .i64 0) = some (.bool false) := by rw [aLss, decide_eq_false (by omega)]
  have e2 : A.sub (.int .i64 (n : Int)) (.int .i64 0) = some (.int .i64 (n : Int)) := by rw [aSub, Int.sub_zero, wrap64 (by unfold inI; omega)]
  have e3 : A.gtr (.int .i64 (n : Int)) (.int .i64 0) = some (.bool true) := by simp [A.gtr]; omega
  rw [e1, Option.bind_some, cnd_f, Option.bind_some, hc, show A.lenS .nsl = some (.int .i64 0) from rfl, Option.bind_some, show A.sub (.int .i64 0) (.int .i64 0) = some (.int .i64 0) from rfl, Option.bind_some, e2, Option.bind_some, e3, Option.bind_some, cnd_t, hc2]
  have e4 : A.sliceS 1 .nsl none (some (.int .i64 0)) σ = some .nsl := by simp [A.sliceS, A.bound]
  have e5 : A.appendZ 1 (140737488355328 / 8) zsEI .nsl (.int .i64 (n : Int)) σ = some (.os σ.length n 1 0 n, σ ++ [.arr n 1 (List.replicate n zsEI)]) := by
   have q : (0 : Int) ≤ (n : Int) ∧ (n : Int) ≤ ((140737488355328 / 8 : Nat) : Int) := by omega
   simp only [A.appendZ, if_pos q, A.appendL, Int.toNat_natCast, List.length_replicate]
   rw [if_neg (by intro h; have := congrArg List.length h; simp at this; omega), if_pos (by omega)]
  have e6 : (σ ++ [Blk.arr n 1 (List.replicate n zsEI)])[σ.length]? = some (.arr n 1 (List.replicate n zsEI)) := by simp
  simp only
  rw [e4, Option.bind_some, show [(AV.int .i64 0)] = zsEI from rfl, e5, Option.bind_some, Option.bind_some, show (.int .i64 0 : AV) = .int .i64 ((0 : Nat) : Int) from rfl, slo (room_arr e6 (by simp)) (bnd_s (k := 0) (by omega)) bnd_n, Option.bind_some]
  rfl
 rw [run]
 simp [A.nn]
abbrev RowP := AV × List (List AV)
def RowA (p : RowP) : Prop := A.lenS p.1 = some (.int .i64 (p.2.length : Int)) ∧ (∀ σ, A.elems 1 p.1 σ = some p.2) ∧ A.cell p.1 = some p.1
def cRowI (p : RowP) : List AV := [p.1]
theorem p1_row {p : RowP} (h : RowA p) : A.part1 0 (cRowI p) = some p.1 := h.2.2
abbrev flI (L : List RowP) : List (List AV) := (L.map (·.2)).flatten
def totI (L : List RowP) : Nat := (flI L).length
theorem tot_takeI {L : List RowP} {i : Nat} {x : RowP} (h : L[i]? = some x) : flI (L.take (i + 1)) = flI (L.take i) ++ x.2 := by
 rw [List.take_add_one, h]; simp [flI]
theorem tot_leI {L : List RowP} (i : Nat) : totI (L.take i) ≤ totI L := by
 have : L = L.take i ++ L.drop i := (List.take_append_drop _ _).symm
 unfold totI
 conv => rhs; rw [this]
 simp only [flI, List.map_append, List.flatten_append, List.length_append]
 omega
theorem concat_rI {L : List RowP} (hr : ∀ p ∈ L, RowA p) (hl : L.length ≤ mxl) (h : totI L ≤ 4398046511104) (σ : Heap) : ∃ b : AV × Heap, r_slices_Concat_int (sl 1 cRowI L) σ = some b ∧ ((b.1 = .nsl ∧ b.2 = σ ∧ flI L = []) ∨ (b.1 = .os σ.length (totI L) 1 0 (totI L) ∧ b.2 = σ ++ [.arr (totI L) 1 (flI L)])) := by
 unfold r_slices_Concat_int
 rw [lenS_sl, Option.bind_some]
 refine loop_k (Q := fun q => ∃ w, q = (.exit 0, [.int .i64 (totI L : Int), w], σ)) (loop_hs L (fun i v s => v = [.int .i64 (totI (L.take i) : Int), .int .i64 (i : Int)] ∧ s = σ) ?_ ?_ ⟨rfl, rfl⟩) ?_
 ·rintro i x v s hx ⟨rfl, rfl⟩
  have hle := tot_leI (L := L) (i + 1)
  have hs : totI (L.take (i + 1)) = totI (L.take i) + x.2.length := by unfold totI; rw [tot_takeI hx, List.length_append]
  simp only [List.getD_cons_zero, List.getD_cons_succ]
  rw [ix_lt hx, Option.bind_some, cnd_t, ix_for hx, Option.bind_some]
  simp only [A.deref, Option.bind_some]
  rw [p1_row (hr x (List.mem_of_getElem? hx)), Option.bind_some, (hr x (List.mem_of_getElem? hx)).1, Option.bind_some, tadd (by omega), Option.bind_some]
  rw [show A.lss (.int .i64 ((totI (L.take i) + x.2.length : Nat) : Int)) (.int .i64 0) = some (.bool false) by rw [aLss, decide_eq_false (by omega)], Option.bind_some, cnd_f, Option.bind_some, ix_inc hx hl, Option.bind_some]
  exact ⟨_, _, rfl, by rw [hs], rfl⟩
 ·rintro v s ⟨rfl, rfl⟩
  simp only [List.getD_cons_zero, List.getD_cons_succ]
  rw [ix_end, Option.bind_some, cnd_f]
  refine ⟨_, rfl, by simp, .int .i64 (L.length : Int), ?_⟩
  rw [List.take_length]
 ·rintro q ⟨w, rfl⟩
  simp only [exb, List.getD_cons_zero]
  by_cases h0 : totI L = 0
  ·have hnil : (flI L) = [] := List.eq_nil_of_length_eq_zero h0
   rw [h0, show (((0 : Nat) : Int)) = 0 from rfl, grow_0I, Option.bind_some, Option.bind_some]
   refine loop_k (Q := fun q => ∃ w, q = (.exit 2, [.nsl, w], σ)) (loop_hs L (fun i v s => v = [.nsl, .int .i64 (i : Int)] ∧ s = σ) ?_ ?_ ⟨rfl, rfl⟩) ?_
   ·rintro i x v s hx ⟨rfl, rfl⟩
    have hxn : x.2 = [] := List.flatten_eq_nil_iff.1 hnil x.2 (List.mem_map.2 ⟨x, List.mem_of_getElem? hx, rfl⟩)
    have hrx := hr x (List.mem_of_getElem? hx)
    simp only [List.getD_cons_zero, List.getD_cons_succ]
    rw [ix_lt hx, Option.bind_some, cnd_t, ix_for hx, Option.bind_some]
    simp only [A.deref, Option.bind_some]
    rw [p1_row hrx, Option.bind_some, show A.append 1 (140737488355328 / 8) .nsl x.1 s = some (.nsl, s) by simp [A.append, hrx.2.1, hxn, A.appendL], Option.bind_some, ix_inc hx hl, Option.bind_some]
    exact ⟨_, _, rfl, rfl, rfl⟩
   ·rintro v s ⟨rfl, rfl⟩
    simp only [List.getD_cons_zero, List.getD_cons_succ]
    rw [ix_end, Option.bind_some, cnd_f]
    exact ⟨_, rfl, by simp, _, rfl⟩
   ·rintro q ⟨w, rfl⟩
    exact ⟨_, rfl, .inl ⟨rfl, rfl, hnil⟩⟩
  ·have hpos : 0 < totI L := by omega
   rw [grow_nI hpos (by omega), Option.bind_some, Option.bind_some]
   obtain ⟨n, hn⟩ : ∃ n, n = totI L := ⟨_, rfl⟩
   rw [← hn] at hpos h ⊢
   refine loop_k (Q := fun q => ∃ w, q = (.exit 2, [.os σ.length n 1 0 n, w], σ ++ [.arr n 1 (flI L)])) (loop_hs L (fun i v s => v = [.os σ.length n 1 0 (totI (L.take i)), .int .i64 (i : Int)] ∧ s = σ ++ [.arr n 1 ((flI (L.take i)) ++ List.replicate (n - totI (L.take i)) zsEI)]) ?_ ?_ ⟨rfl, by simp [totI]⟩) ?_
   ·rintro i x v s hx ⟨rfl, rfl⟩
    have hle := tot_leI (L := L) (i + 1)
    have hs : totI (L.take (i + 1)) = totI (L.take i) + x.2.length := by unfold totI; rw [tot_takeI hx, List.length_append]
    obtain ⟨k, hk⟩ : ∃ k, k = totI (L.take i) := ⟨_, rfl⟩
    have hfl : (flI (L.take i)).length = k := hk.symm
    simp only [List.getD_cons_zero, List.getD_cons_succ]
    rw [ix_lt hx, Option.bind_some, cnd_t, ix_for hx, Option.bind_some]
    simp only [A.deref, Option.bind_some]
    have hrx := hr x (List.mem_of_getElem? hx)
    rw [p1_row hrx, Option.bind_some]
    rw [hs, tot_takeI hx, ← hk]
    have hg : (σ ++ [Blk.arr n 1 ((flI (L.take i)) ++ List.replicate (n - k) zsEI)])[σ.length]? = some (.arr n 1 ((flI (L.take i)) ++ List.replicate (n - k) zsEI)) := by simp
    have happ : A.append 1 (140737488355328 / 8) (.os σ.length n 1 0 k) x.1 (σ ++ [.arr n 1 ((flI (L.take i)) ++ List.replicate (n - k) zsEI)]) = some (.os σ.length n 1 0 (k + x.2.length), σ ++ [.arr n 1 ((flI (L.take i)) ++ x.2 ++ List.replicate (n - (k + x.2.length)) zsEI)]) := by
     simp only [A.append, hrx.2.1, if_true, Option.bind_some, A.appendL, hg]
     rw [if_pos (by simp [hfl]; omega)]
     by_cases hx0 : x.2 = []
     ·rw [hx0]; simp
     ·rw [if_neg hx0, if_pos (by simp [hfl]; omega)]
      congr 2
      rw [List.set_append_right _ _ (Nat.le_refl _), Nat.sub_self]
      simp only [List.set_cons_zero, Nat.zero_add]
      congr 3
      rw [List.take_append_of_le_length (by omega), List.take_of_length_le (by omega)]
      congr 1
      rw [List.drop_append, List.drop_of_length_le (by omega), List.nil_append, hfl, List.drop_replicate]
      congr 1; omega
    rw [happ, Option.bind_some, ix_inc hx hl, Option.bind_some]
    exact ⟨_, _, rfl, rfl, rfl⟩
   ·rintro v s ⟨rfl, rfl⟩
    simp only [List.getD_cons_zero, List.getD_cons_succ]
    rw [ix_end, Option.bind_some, cnd_f]
    refine ⟨_, rfl, by simp, .int .i64 (L.length : Int), ?_⟩
    rw [List.take_length, ← hn]; simp
   ·rintro q ⟨w, rfl⟩
    refine ⟨(.os σ.length n 1 0 n, σ ++ [.arr n 1 (flI L)]), rfl, .inr ⟨?_, ?_⟩⟩
    ·rfl
    ·rfl
theorem con_ks {L : List RowP} {l : List Int} (hr : ∀ p ∈ L, RowA p) (hl : L.length ≤ mxl) (h : l.length ≤ 4398046511104) (hf : flI L = l.map cInt) : KS (A.wrap true [(.s 1)] .k (A.ar1 r_slices_Concat_int)) [sl 1 cRowI L] cInt 1 l := by
 intro σ0 σ R H
 have ht : totI L = l.length := by unfold totI; rw [hf, List.length_map]
 obtain ⟨⟨b1, b2⟩, h1, h2⟩ := concat_rI hr hl (by omega) σ
 have hw : A.wrap true [(.s 1)] .k (A.ar1 r_slices_Concat_int) [sl 1 cRowI L] σ = some (b1, b2) := wrap_eq rfl h1 (nn_k _)
 rcases h2 with ⟨rfl, rfl, h3⟩ | ⟨rfl, rfl⟩
 ·have : l = [] := by rw [hf] at h3; simpa using h3
  subst this
  exact ⟨_, _, hw, slz H (.inl rfl)⟩
 ·refine ⟨_, _, hw, ?_⟩
  rw [ht, hf]
  refine slf_os (hs_new H ?_) rfl
  show ((l.map cInt).all fun e => e.all A.scal1) = true
  rw [List.all_map, List.all_eq_true]; intro x _; rfl
end Go.Proofs.YtkdafecbdncmiaaDoor

namespace Go.Proofs.YtkdafecbdncmiaaDoor
set_option linter.unusedSectionVars false
set_option linter.unusedVariables false
set_option linter.unusedSimpArgs false
open HP
def newCue (n : Int) : CueD := ⟨n, ⟨#[]⟩, 0, 0, 0, 0, ⟨1, []⟩, false, -1, []⟩
def newRow (n : Int) : List AV := cCueH (newCue n) .nsl .nsl
section
variable {σ0 σ : Heap} {R : HP}
end
end Go.Proofs.YtkdafecbdncmiaaDoor

namespace Go.Proofs.YtkdafecbdncmiaaDoor
set_option linter.unusedSectionVars false
set_option linter.unusedVariables false
set_option linter.unusedSimpArgs false
open HP
theorem renew_pre {id g sz k : Nat} {es : List (List AV)} {σ σ' : Heap} {args : List AV} (h : σ'[id]? = some (.arr g sz es)) (hk : k ≤ es.length) (hid : id < σ.length) (hg : g < A.gen args + 1) : A.renew args σ (.os id g sz 0 k) σ' = some (.os id (A.gen args + 1) sz 0 k, σ'.set id (.arr (A.gen args + 1) sz (es.take k))) := by
 simp only [A.renew, h]
 rw [if_pos ⟨trivial, trivial, by omega, hg⟩, if_pos (.inl hid), List.drop_zero]
theorem renew_own {α : Type} {c : α → List AV} {sz id g k : Nat} {l : List α} {σ0 σ σ' : Heap} {R : HP} {fnv : AV} (hid : id < σ.length) (hk : k ≤ l.length) (hk0 : k ≤ l.length) (hg : A.gen [AV.os id g sz 0 l.length, fnv] = g + l.length) (H : Hs anyB σ0 σ' (blk id (.arr g sz (l.map c)) * R)) :
  ∃ v' s, A.renew [.os id g sz 0 l.length, fnv] σ (.os id g sz 0 k) σ' = some (v', s) ∧ Hs anyB σ0 s (Sl (fl c) sz v' (l.take k) * R) := by
 obtain ⟨h1, h2⟩ := hs_get H
 refine ⟨_, _, renew_pre h2 (by simp; omega) hid (by rw [hg]; omega), ?_⟩
 have H2 := hs_set (b' := .arr (A.gen [AV.os id g sz 0 l.length, fnv] + 1) sz ((l.map c).take k)) H trivial
 have e : (l.map c).take k = (l.take k).map c := List.map_take.symm
 rw [e] at H2 ⊢
 exact slf_os H2 (by simp; omega)
section
variable {σ0 σ : Heap} {R : HP}
end
end Go.Proofs.YtkdafecbdncmiaaDoor

namespace Go.Proofs.YtkdafecbdncmiaaDoor
set_option linter.unusedSectionVars false
set_option linter.unusedVariables false
set_option linter.unusedSimpArgs false
open HP
theorem loop_ms {f : List AV → Heap → Option LS} {Q : LS → Prop} (I : Nat → List AV → Heap → Prop) (hstep : ∀ n v σ, I n v σ → (∃ m v' σ', m < n ∧ f v σ = some (.normal, v', σ') ∧ I m v' σ') ∨ ∃ q, f v σ = some q ∧ q.1 ≠ .normal ∧ Q q) {n : Nat} {v0 : List AV} {σ : Heap} (h0 : I n v0 σ) : ∃ q, A.loop f v0 σ = some q ∧ Q q := by
 have key : ∀ (k n : Nat) v σ, n ≤ k → I n v σ → ∃ q, (∃ m, A.iter f m v σ = some q) ∧ Q q := by
  intro k
  induction k with
  | zero =>
   intro n v σ hn hI
   rcases hstep n v σ hI with ⟨m, _, _, hm, _⟩ | ⟨q, h1, h2, h3⟩
   ·omega
   ·exact ⟨q, loop_done h1 h2, h3⟩
  | succ k ih =>
   intro n v σ hn hI
   rcases hstep n v σ hI with ⟨m, v', σ', hm, h1, h2⟩ | ⟨q, h1, h2, h3⟩
   ·obtain ⟨q, hq, hQ⟩ := ih m v' σ' (by omega) h2
    exact ⟨q, loop_step h1 hq, hQ⟩
   ·exact ⟨q, loop_done h1 h2, h3⟩
 obtain ⟨q, ⟨m, hm⟩, hQ⟩ := key n n v0 σ (Nat.le_refl _) h0
 exact ⟨q, loop_of_iter hm, hQ⟩
theorem gT (X d : Option AV) : A.guard (.bool true) true X d = X := by have h : A.guard (.bool true) true X d = X := rfl; exact h.trans (Eq.refl X)
theorem gF (X d : Option AV) : A.guard (.bool false) false X d = X := by have h : A.guard (.bool false) false X d = X := rfl; exact h.trans (Eq.refl X)
theorem gTx (X d : Option AV) : A.guard (.bool false) true X d = d := by have h : A.guard (.bool false) true X d = d := rfl; exact h.trans (Eq.refl d)
theorem gFx (X d : Option AV) : A.guard (.bool true) false X d = d := by have h : A.guard (.bool true) false X d = d := rfl; exact h.trans (Eq.refl d)
theorem bS {α β : Type} (a : α) (f : α → Option β) : (some a).bind f = f a := by have h : (some a).bind f = f a := rfl; exact h.trans (Eq.refl (f a))
theorem dRp (cs : List AV) (σ : Heap) : A.deref (.rp cs) σ = some cs := by have h : A.deref (.rp cs) σ = some cs := rfl; exact h.trans (Eq.refl _)
theorem exE (n : Nat) {α : Type} {X Y : α} : (bif (AX.exit n == AX.exit n) then X else Y) = X := by rw [show (AX.exit n == AX.exit n) = true from beq_self_eq_true _]; rfl
theorem pkF (x y : AV) : A.pick (.bool false) x y = some y := rfl
theorem pkT (x y : AV) : A.pick (.bool true) x y = some x := rfl
theorem notT : A.not (.bool true) = some (.bool false) := rfl
theorem notF : A.not (.bool false) = some (.bool true) := rfl
end Go.Proofs.YtkdafecbdncmiaaDoor

namespace Go.Proofs.YtkdafecbdncmiaaDoor
set_option linter.unusedSectionVars false
set_option linter.unusedVariables false
set_option linter.unusedSimpArgs false
def nslE {α : Type} (sz : Nat) (c : α → List AV) : List α → AV
 | [] => .nsl
 | x :: l => .sl sz ((x :: l).map c)
theorem nslE_ne {α : Type} {sz : Nat} {c : α → List AV} {l : List α} (h : l ≠ []) : nslE sz c l = sl sz c l := by
 cases l with
 | nil => exact absurd rfl h
 | cons x l => rfl
theorem lenS_ns {α : Type} (sz : Nat) (c : α → List AV) (l : List α) : A.lenS (nslE sz c l) = some (.int .i64 (l.length : Int)) := by
 cases l with
 | nil => rfl
 | cons x l => exact lenS_sl sz c (x :: l)
theorem ix_forN {α : Type} {sz : Nat} {c : α → List AV} {l : List α} {i : Nat} {x : α} (h : l[i]? = some x) : A.iaddr sz (nslE sz c l) (.int .i64 (i : Int)) = some (.rp (c x)) := by
 cases l with
 | nil => simp at h
 | cons y l => exact ix_for h
end Go.Proofs.YtkdafecbdncmiaaDoor

namespace Go.Proofs.YtkdafecbdncmiaaDoor
set_option linter.unusedSectionVars false
set_option linter.unusedVariables false
set_option linter.unusedSimpArgs false
inductive PickD where
 | mk (kind from_ to_ : Int) (args : List PickD)
namespace PickD
set_option linter.unusedSectionVars false
def kind : PickD → Int | .mk k _ _ _ => k
def from_ : PickD → Int | .mk _ f _ _ => f
def to_ : PickD → Int | .mk _ _ t _ => t
def args : PickD → List PickD | .mk _ _ _ l => l
end PickD
mutual
def pSize : PickD → Nat
 | .mk _ _ _ l => 1 + pSizes l
def pSizes : List PickD → Nat
 | [] => 0
 | p :: l => pSize p + pSizes l
end
mutual
def pDeep : PickD → Nat
 | .mk _ _ _ l => 1 + pDeeps l
def pDeeps : List PickD → Nat
 | [] => 0
 | p :: l => max (pDeep p) (pDeeps l)
end
theorem pSize_eq (p : PickD) : pSize p = 1 + pSizes p.args := by cases p; rw [pSize]; rfl
theorem pDeep_eq (p : PickD) : pDeep p = 1 + pDeeps p.args := by cases p; rw [pDeep]; rfl
theorem pSizes_mem {p : PickD} : ∀ {l : List PickD}, p ∈ l → pSize p ≤ pSizes l
 | q :: l, h => by
  rw [pSizes]
  rcases List.mem_cons.1 h with rfl | h
  ·omega
  ·have := pSizes_mem h; omega
theorem pSizes_sum : ∀ l : List PickD, pSizes l = (l.map pSize).sum
 | [] => by rw [pSizes]; rfl
 | p :: l => by rw [pSizes, List.map_cons, List.sum_cons, pSizes_sum l]
theorem pSize_arg {p q : PickD} (h : q ∈ p.args) : pSize q < pSize p := by
 rw [pSize_eq p]
 have := pSizes_mem h
 omega
namespace PickD
set_option linter.unusedSectionVars false
def frm : PickD → Int := from_
def to : PickD → Int := to_
end PickD
mutual
def cPick : PickD → List AV
 | .mk k f t l => [.int .i64 k, .int .i64 f, .int .i64 t, .sl 4 (cPicks l)]
def cPicks : List PickD → List (List AV)
 | [] => []
 | p :: l => cPick p :: cPicks l
end
theorem cPicks_eq : ∀ l : List PickD, cPicks l = l.map cPick
 | [] => by rw [cPicks]; rfl
 | p :: l => by rw [cPicks, cPicks_eq l]; rfl
theorem cPick_eq (p : PickD) : cPick p = [.int .i64 p.kind, .int .i64 p.frm, .int .i64 p.to, sl 4 cPick p.args] := by
 cases p; rw [cPick, cPicks_eq]; rfl
theorem cPick_len (p : PickD) : (cPick p).length = 4 := by rw [cPick_eq]; rfl
structure GroupD where
 number : Int
 pick : PickD
instance : Inhabited PickD := ⟨.mk 0 0 0 []⟩
instance : Inhabited GroupD := ⟨⟨0, default⟩⟩
def cGroup (g : GroupD) : List AV := [.int .i64 g.number, .int .i64 g.pick.kind, .int .i64 g.pick.frm, .int .i64 g.pick.to, sl 4 cPick g.pick.args]
theorem cGroup_len (g : GroupD) : (cGroup g).length = 5 := rfl
theorem cGroup_pick (g : GroupD) : cGroup g = .int .i64 g.number :: cPick g.pick := by rw [cPick_eq]; rfl
theorem ce_cPick (p : PickD) : A.cells 4 (.agg (cPick p)) = some (cPick p) := by rw [cPick_eq]; rfl
theorem pA_cPick (p : PickD) : A.partA 0 4 (cPick p) = some (.agg (cPick p)) := by rw [cPick_eq]; rfl
theorem sp_cPick (x : PickD) (l : List AV) (h : l.length = 4) : A.splice 0 (cPick x) l = some (cPick x) := by
 simp [A.splice, cPick_len, h]
theorem sp_cGroup (x : GroupD) (l : List AV) (h : l.length = 5) : A.splice 0 (cGroup x) l = some (cGroup x) := by
 simp [A.splice, cGroup_len, h]
end Go.Proofs.YtkdafecbdncmiaaDoor

