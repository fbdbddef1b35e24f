/- Proved: PlayGoesToTheCue returns true for every input, and every argument reads afterwards as it read before. No condition. -/
import Derived.Test.YtooknfkholjpbaaGreatKPlayGoesToTheCue6
namespace Go.Proofs.YtooknfkholjpbaaGreat.playGoesToTheCue
open Go.ChangeShapes Go.WideShapes Go.ChangeAt Go.RowKit
set_option linter.unusedVariables false

set_option maxRecDepth 100000 in
theorem lifted (os : Os) (started : os.Started) (H : Type) (enc : TypeId × Value → H) :
    ReturnsInHanded {} Tryz.checked os 7 .any (Rows.playGoesToTheCueSpec.pre6 enc Tryz.prog Tryz.f7 Rows.playGoesToTheCueRow.domain false) (Rows.playGoesToTheCueSpec.post enc Tryz.prog Tryz.f7 false true false false) := by
  refine returnsInHanded_of_change (C := Tryz.checked) own started (by kernel_rfl) Tryz.func7
    (ChangeSpec.witness6 (enc := enc) (C := Tryz.checked) false ⟨#[], #[.agg #[.slice none 0 0, .slice none 0 0, .slice none 0 0, .slice none 0 0, .slice none 0 0], .int .i64 0], []⟩ 8 (by kernel_rfl) (by kernel_rfl) (by kernel_rfl) (by kernel_rfl)) ?_
  intro W au6 args ds gs before hval0 hW hcnd _
  have hval : ∀ (j : Nat) t v, Tryz.f7.params[j]? = some t → args[j]? = some v → Value.okWide Tryz.prog W .any au6 t v := hval0
  have SR := hW
  obtain ⟨p, q, hA0, hV, rfl, hfz, hnd⟩ := hW
  have hA : DataW.TrodAll enc Tryz.prog W 0 (fun _ => true) true Tryz.f7.params.toList args.toList ds p := hA0
  rw [Tryz.params7] at hA hval
  obtain ⟨v0, F3, d0, ds0, p0, q0, hargs, rfl, rfl, h0, r0⟩ := trodAll_cons hA
  obtain ⟨v1, vs1, d1, ds1, p1, q1, rfl, rfl, rfl, h1, r1⟩ := trodAll_cons r0
  obtain ⟨rfl, rfl, rfl⟩ := trodAll_nil r1
  obtain rfl : args = #[v0, v1] := by cases args; simp_all
  obtain ⟨rfl, rfl⟩ := trodVars_none hV
  obtain ⟨cs0, rfl, axH⟩ := okWide_struct Tryz.underlying30 (hval 0 30 v0 rfl rfl)
  obtain ⟨fu0, OG⟩ := h0
  obtain ⟨a0, kk0, bb0⟩ := amW trivial OG
  obtain ⟨rr0, oo0⟩ := auK (c := base W) (arq (atX W)) kk0
  obtain ⟨a1, rfl, rfl, rfl, w1⟩ := open_int Tryz.underlying3 (hval 1 3 v1 rfl rfl) h1
  refine (asT ajE Tryz.call7 W _ (gq rr0 (gq (lH _ _) yh)) (ajB (ajD a0 a1 oo0 (wf_i64 w1)))).mono fun e W' ⟨he, hb⟩ => ⟨_, he, ?_⟩
  exact aqU (by kernel_rfl) (by kernel_rfl) Tryz.underlying4 rfl SR hb rfl

set_option maxRecDepth 100000 in
set_option maxHeartbeats 8000000 in
theorem facts : joinedFacts Tryz.checked.prog 7 Tryz.f7 Rows.playGoesToTheCueSpec Rows.playGoesToTheCueRow = true := by
  unfold joinedFacts
  simp only [Bool.and_eq_true]
  repeat' apply And.intro
  all_goals (as_aux_lemma => kernel_rfl)

theorem proved : Rows.PlayGoesToTheCueSaid :=
  OpenClaim.holds_of_wide 7 Tryz.f7 rfl rfl rfl rfl rfl rfl rfl ⟨rfl, rfl, rfl, rfl, rfl⟩ rfl rfl rfl rfl rfl (by kernel_rfl) Tryz.func7 facts
    (of_decide_eq_true (by kernel_rfl)) (by unfold Func.isWrapper; first | (rw [if_pos (by decide +kernel)]; kernel_rfl) | (rw [if_neg (by decide +kernel)]; exact ⟨rfl, rfl⟩))
    (fun os started H enc _ => lifted os started H enc)
#print axioms proved
end Go.Proofs.YtooknfkholjpbaaGreat.playGoesToTheCue
