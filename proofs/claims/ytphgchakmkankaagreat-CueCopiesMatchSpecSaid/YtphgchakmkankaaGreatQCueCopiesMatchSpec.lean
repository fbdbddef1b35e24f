/- Proved: CueCopiesMatchSpec returns true for every input, and every argument reads afterwards as it read before. No condition. -/
import Derived.Test.YtphgchakmkankaaGreatKCueCopiesMatchSpec6
namespace Go.Proofs.YtphgchakmkankaaGreat.cueCopiesMatchSpec
open Go.ChangeShapes Go.WideShapes Go.ChangeAt Go.RowKit
set_option linter.unusedVariables false

set_option maxRecDepth 100000 in
theorem lifted (os : Os) (started : os.Started) (H : Type) (enc : TypeId × Value → H) :
    ReturnsInHanded {} Tryz.checked os 4 .any (Rows.cueCopiesMatchSpecSpec.pre6 enc Tryz.prog Tryz.f4 Rows.cueCopiesMatchSpecRow.domain false) (Rows.cueCopiesMatchSpecSpec.post enc Tryz.prog Tryz.f4 false true false false) := by
  refine returnsInHanded_of_change (C := Tryz.checked) own started (by kernel_rfl) Tryz.func4
    (ChangeSpec.witness6 (enc := enc) (C := Tryz.checked) false ⟨#[], #[.slice none 0 0, .int .i64 0, .int .i64 0], []⟩ 8 (by kernel_rfl) (by kernel_rfl) (by kernel_rfl) (by kernel_rfl)) ?_
  intro W base0 args ds gs before hval0 hW hcnd _
  have hval : ∀ (j : Nat) t v, Tryz.f4.params[j]? = some t → args[j]? = some v → Value.okWide Tryz.prog W .any base0 t v := hval0
  have hW' := hW
  obtain ⟨p, q, hA0, hV, rfl, hfz, hnd⟩ := hW
  have hA : DataW.TrodAll enc Tryz.prog W 0 (fun _ => true) true Tryz.f4.params.toList args.toList ds p := hA0
  rw [Tryz.params4] at hA hval
  obtain ⟨v0, vs0, d0, ds0, p0, q0, hargs, rfl, rfl, h0, r0⟩ := trodAll_cons hA
  obtain ⟨v1, vs1, d1, ds1, p1, q1, rfl, rfl, rfl, h1, r1⟩ := trodAll_cons r0
  obtain ⟨v2, vs2, d2, ds2, p2, q2, rfl, rfl, rfl, h2, r2⟩ := trodAll_cons r1
  obtain ⟨rfl, rfl, rfl⟩ := trodAll_nil r2
  obtain rfl : args = #[v0, v1, v2] := by cases args; simp_all
  obtain ⟨rfl, rfl⟩ := trodVars_none hV
  obtain ⟨sa0, sl0, sc0, rfl⟩ := okWide_slice Tryz.underlying27 (hval 0 27 v0 rfl rfl)
  obtain ⟨fu0, hf0⟩ := h0
  obtain ⟨a0, kk0, bb0⟩ := reads_cues trivial hf0
  obtain ⟨rr0, oo0, _⟩ := rp_slice (c := base W) (base_X W) (rp_Cue (base_X W)) (sz := 11) rfl (by decide) kk0
  obtain ⟨a1, rfl, rfl, rfl, w1⟩ := open_int Tryz.underlying3 (hval 1 3 v1 rfl rfl) h1
  obtain ⟨a2, rfl, rfl, rfl, w2⟩ := open_int Tryz.underlying3 (hval 2 3 v2 rfl rfl) h2
  refine (law_run s_W5_CueCopiesMatchSpec Tryz.call4 W _ (repL_cons rr0 (repL_cons (rep_int _ _) (repL_cons (rep_int _ _) repL_nil))) (h_W5_CueCopiesMatchSpec (cueCopiesMatchSpec_true a0 a1 a2 oo0 (wf_i64 w1) (wf_i64 w2)))).mono fun e W' ⟨he, hb⟩ => ⟨_, he, ?_⟩
  exact law_post (by kernel_rfl) (by kernel_rfl) Tryz.underlying4 rfl hW' hb rfl

theorem proved : Rows.CueCopiesMatchSpecSaid :=
  OpenClaim.holds_of_wide 4 Tryz.f4 rfl rfl rfl rfl rfl rfl rfl ⟨rfl, rfl, rfl, rfl, rfl⟩ rfl rfl rfl rfl rfl (by kernel_rfl) Tryz.func4 (by kernel_rfl)
    (of_decide_eq_true (by kernel_rfl)) (by unfold Func.isWrapper; first | (rw [if_pos (by decide +kernel)]; kernel_rfl) | (rw [if_neg (by decide +kernel)]; exact ⟨rfl, rfl⟩))
    (fun os started H enc _ => lifted os started H enc)
#print axioms proved
end Go.Proofs.YtphgchakmkankaaGreat.cueCopiesMatchSpec
