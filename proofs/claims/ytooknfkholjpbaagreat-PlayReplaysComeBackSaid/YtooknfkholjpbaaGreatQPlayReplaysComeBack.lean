/- Proved: PlayReplaysComeBack returns true for every input, and every argument reads afterwards as it read before. No condition. -/
import Derived.Test.YtooknfkholjpbaaGreatKPlayReplaysComeBack6
namespace Go.Proofs.YtooknfkholjpbaaGreat.playReplaysComeBack
open Go.ChangeShapes Go.WideShapes Go.ChangeAt Go.RowKit
set_option linter.unusedVariables false

set_option maxRecDepth 100000 in
theorem lifted (os : Os) (started : os.Started) (H : Type) (enc : TypeId × Value → H) :
    ReturnsInHanded {} Tryz.checked os 5 .any (Rows.playReplaysComeBackSpec.pre6 enc Tryz.prog Tryz.f5 Rows.playReplaysComeBackRow.domain false) (Rows.playReplaysComeBackSpec.post enc Tryz.prog Tryz.f5 false true false false) := by
  refine returnsInHanded_of_change (C := Tryz.checked) own started (by kernel_rfl) Tryz.func5
    (ChangeSpec.witness6 (enc := enc) (C := Tryz.checked) false ⟨#[], #[.agg #[.slice none 0 0, .slice none 0 0, .slice none 0 0, .slice none 0 0, .slice none 0 0], .slice none 0 0, .int .i64 0], []⟩ 8 (by kernel_rfl) (by kernel_rfl) (by kernel_rfl) (by kernel_rfl)) ?_
  intro W al0 args ds gs before hval0 hW hcnd _
  have hval : ∀ (j : Nat) t v, Tryz.f5.params[j]? = some t → args[j]? = some v → Value.okWide Tryz.prog W .any al0 t v := hval0
  have Na := hW
  obtain ⟨p, q, hA0, hV, rfl, hfz, hnd⟩ := hW
  have hA : DataW.TrodAll enc Tryz.prog W 0 (fun _ => true) true Tryz.f5.params.toList args.toList ds p := hA0
  rw [Tryz.params5] at hA hval
  obtain ⟨v0, CE, d0, ds0, p0, q0, hargs, rfl, rfl, h0, r0⟩ := trodAll_cons hA
  obtain ⟨v1, vs1, d1, ds1, p1, q1, rfl, rfl, rfl, h1, r1⟩ := trodAll_cons r0
  obtain ⟨v2, vs2, d2, ds2, p2, q2, rfl, rfl, rfl, h2, r2⟩ := trodAll_cons r1
  obtain ⟨rfl, rfl, rfl⟩ := trodAll_nil r2
  obtain rfl : args = #[v0, v1, v2] := by cases args; simp_all
  obtain ⟨rfl, rfl⟩ := trodVars_none hV
  obtain ⟨cs0, rfl, apV⟩ := okWide_struct Tryz.underlying30 (hval 0 30 v0 rfl rfl)
  obtain ⟨fu0, Je⟩ := h0
  obtain ⟨a0, kk0, bb0⟩ := afi trivial Je
  obtain ⟨rr0, oo0⟩ := alJ (c := base W) (ai9 (Zl W)) kk0
  obtain ⟨sa1, sl1, sc1, rfl⟩ := okWide_slice Tryz.underlying31 (hval 1 31 v1 rfl rfl)
  obtain ⟨fu1, Gy⟩ := h1
  obtain ⟨a1, kk1, bb1⟩ := ad2 trivial Gy
  obtain ⟨rr1, oo1, _⟩ := uS (c := base W) (Zl W) ahM (sz := 5) rfl (by decide) kk1
  obtain ⟨a2, rfl, rfl, rfl, w2⟩ := open_int Tryz.underlying3 (hval 2 3 v2 rfl rfl) h2
  refine (aka acd Tryz.call5 W _ (dH rr0 (dH rr1 (dH (gW _ _) sI))) (ab8 (ab9 a0 a1 a2 oo0 oo1 (wf_i64 w2)))).mono fun e W' ⟨he, hb⟩ => ⟨_, he, ?_⟩
  exact aiG (by kernel_rfl) (by kernel_rfl) Tryz.underlying4 rfl Na hb rfl

set_option maxRecDepth 100000 in
set_option maxHeartbeats 8000000 in
theorem facts : joinedFacts Tryz.checked.prog 5 Tryz.f5 Rows.playReplaysComeBackSpec Rows.playReplaysComeBackRow = true := by
  unfold joinedFacts
  simp only [Bool.and_eq_true]
  repeat' apply And.intro
  all_goals (as_aux_lemma => kernel_rfl)

theorem proved : Rows.PlayReplaysComeBackSaid :=
  OpenClaim.holds_of_wide 5 Tryz.f5 rfl rfl rfl rfl rfl rfl rfl ⟨rfl, rfl, rfl, rfl, rfl⟩ rfl rfl rfl rfl rfl (by kernel_rfl) Tryz.func5 facts
    (of_decide_eq_true (by kernel_rfl)) (by unfold Func.isWrapper; first | (rw [if_pos (by decide +kernel)]; kernel_rfl) | (rw [if_neg (by decide +kernel)]; exact ⟨rfl, rfl⟩))
    (fun os started H enc _ => lifted os started H enc)
#print axioms proved
end Go.Proofs.YtooknfkholjpbaaGreat.playReplaysComeBack
