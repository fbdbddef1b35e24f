/- Proved: PickGroupsMatchSpec returns true for every input whose reading is of bulk at most 1048576, and every argument reads afterwards as it read before. -/
import Derived.JoinedCond
import Derived.Test.YtgjglkakhmikjaaKPickGroupsMatchSpec5
namespace Go.Proofs.Ytgjglkakhmikjaa.pickGroupsMatchSpec
open Go.ChangeShapes Go.WideShapes Go.ChangeAt Go.RowKit
set_option linter.unusedVariables false

set_option maxRecDepth 100000 in
theorem lifted (os : Os) (started : os.Started) (H : Type) (enc : TypeId × Value → H) (F : Stop.Interp) :
    ReturnsInHanded {} Try.checked os 3 .any ((Rows.OpenSpec.upto Rows.pickGroupsMatchSpecSpec).pre6 enc Try.prog Try.f3 Rows.pickGroupsMatchSpecUptoRow.domain false) (((Rows.OpenSpec.upto Rows.pickGroupsMatchSpecSpec).at F).post enc Try.prog Try.f3 false true false false) := by
  refine returnsInHanded_of_cond (C := Try.checked) (s := (Rows.OpenSpec.upto Rows.pickGroupsMatchSpecSpec)) (k := Rows.uptoSmall) rfl own started (by kernel_rfl) Try.func3
    (OpenSpec.witness (enc := enc) (C := Try.checked) (s := (Rows.OpenSpec.upto Rows.pickGroupsMatchSpecSpec)) (k := Rows.uptoSmall) rfl false ⟨#[], #[.slice none 0 0, .int .i64 0], []⟩ 8 (by kernel_rfl) (by kernel_rfl) (by kernel_rfl)
      (x := ([.nil, .lit (.int .i64 0)], [], [])) (by kernel_rfl) rfl (by kernel_rfl)) ?_
  intro W base0 args ds gs before hval0 hW _ hk _
  show Calls Try.prog 3 args W fun e W' => ∃ v, e = .returned v ∧ Rows.pickGroupsMatchSpecSpec.post enc Try.prog Try.f3 false true false false W args v W'
  have hk : Rows.uptoBulkAll (ds ++ gs) ≤ 1048576 := of_decide_eq_true hk
  have hval : ∀ (j : Nat) t v, Try.f3.params[j]? = some t → args[j]? = some v → Value.okWide Try.prog W .any base0 t v := hval0
  have hW' := hW
  obtain ⟨p, q, hA0, hV, rfl, hfz, hnd⟩ := hW
  have hA : DataW.TrodAll enc Try.prog W 0 (fun _ => true) true Try.f3.params.toList args.toList ds p := hA0
  rw [Try.params3] at hA hval
  obtain ⟨v0, vs0, d0, ds0, p0, q0, hargs, rfl, rfl, h0, r0⟩ := trodAll_cons hA
  obtain ⟨v1, vs1, d1, ds1, p1, q1, rfl, rfl, rfl, h1, r1⟩ := trodAll_cons r0
  obtain ⟨rfl, rfl, rfl⟩ := trodAll_nil r1
  obtain rfl : args = #[v0, v1] := by cases args; simp_all
  obtain ⟨rfl, rfl⟩ := trodVars_none hV
  simp only [List.append_nil, Rows.uptoBulkAll] at hk
  obtain ⟨sa0, sl0, sc0, rfl⟩ := okWide_slice Try.underlying22 (hval 0 22 v0 rfl rfl)
  obtain ⟨fu0, hf0⟩ := h0
  obtain ⟨a0, kk0, bb0⟩ := reads_groups fu0 (Nat.le_refl _) hf0
  obtain ⟨rr0, oo0, _⟩ := rp_slice (c := base W) (base_X W) (rp_group (base_X W) fu0) (sz := 5) rfl (by decide) kk0
  have gg0 : okG a0 := okG_of oo0.1 (Nat.le_trans (Nat.le_trans (groups_bulk kk0) bb0) (show Rows.uptoBulk d0 ≤ 1048576 by omega))
  obtain ⟨a1, rfl, rfl, rfl, w1⟩ := open_int Try.underlying3 (hval 1 3 v1 rfl rfl) h1
  refine (law_run s_W4_PickGroupsMatchSpec Try.call3 W _ (repL_cons rr0 (repL_cons (rep_int _ _) repL_nil)) (h_W4_PickGroupsMatchSpec (pickGroupsMatchSpec_true a0 a1 gg0 (wf_i64 w1)))).mono fun e W' ⟨he, hb⟩ => ⟨_, he, ?_⟩
  exact law_post (by kernel_rfl) (by kernel_rfl) Try.underlying4 rfl hW' hb rfl

theorem proved : Rows.PickGroupsMatchSpecUptoSaid :=
  OpenClaim.holds_of_cond 3 Try.f3 rfl rfl rfl rfl rfl rfl rfl ⟨rfl, rfl, rfl, rfl, rfl⟩ rfl rfl rfl rfl rfl (by kernel_rfl) Try.func3 (by kernel_rfl)
    (of_decide_eq_true (by kernel_rfl)) (by unfold Func.isWrapper; first | (rw [if_pos (by decide +kernel)]; kernel_rfl) | (rw [if_neg (by decide +kernel)]; exact ⟨rfl, rfl⟩))
    (fun os started H enc _ F => lifted os started H enc F)
#print axioms proved
end Go.Proofs.Ytgjglkakhmikjaa.pickGroupsMatchSpec
