/- Proved: PlayPausesStandStill returns true for every input, and every argument reads afterwards as it read before. No condition. -/
import Derived.Test.YtooknfkholjpbaaGreatKPlayPausesStandStill6
namespace Go.Proofs.YtooknfkholjpbaaGreat.playPausesStandStill
open Go.ChangeShapes Go.WideShapes Go.ChangeAt Go.RowKit
set_option linter.unusedVariables false

set_option maxRecDepth 100000 in
theorem lifted (os : Os) (started : os.Started) (H : Type) (enc : TypeId × Value → H) :
    ReturnsInHanded {} Tryz.checked os 4 .any (Rows.playPausesStandStillSpec.pre6 enc Tryz.prog Tryz.f4 Rows.playPausesStandStillRow.domain false) (Rows.playPausesStandStillSpec.post enc Tryz.prog Tryz.f4 false true false false) := by
  refine returnsInHanded_of_change (C := Tryz.checked) own started (by kernel_rfl) Tryz.func4
    (ChangeSpec.witness6 (enc := enc) (C := Tryz.checked) false ⟨#[], #[.agg #[.slice none 0 0, .slice none 0 0, .slice none 0 0, .slice none 0 0, .slice none 0 0], .slice none 0 0, .int .i64 0], []⟩ 8 (by kernel_rfl) (by kernel_rfl) (by kernel_rfl) (by kernel_rfl)) ?_
  intro W alV args ds gs before hval0 hW hcnd _
  have hval : ∀ (j : Nat) t v, Tryz.f4.params[j]? = some t → args[j]? = some v → Value.okWide Tryz.prog W .any alV t v := hval0
  have Na := hW
  obtain ⟨p, q, hA0, hV, rfl, hfz, hnd⟩ := hW
  have hA : DataW.TrodAll enc Tryz.prog W 0 (fun _ => true) true Tryz.f4.params.toList args.toList ds p := hA0
  rw [Tryz.params4] at hA hval
  obtain ⟨v0, CF, d0, ds0, p0, q0, hargs, rfl, rfl, h0, r0⟩ := trodAll_cons hA
  obtain ⟨v1, vs1, d1, ds1, p1, q1, rfl, rfl, rfl, h1, r1⟩ := trodAll_cons r0
  obtain ⟨v2, vs2, d2, ds2, p2, q2, rfl, rfl, rfl, h2, r2⟩ := trodAll_cons r1
  obtain ⟨rfl, rfl, rfl⟩ := trodAll_nil r2
  obtain rfl : args = #[v0, v1, v2] := by cases args; simp_all
  obtain ⟨rfl, rfl⟩ := trodVars_none hV
  obtain ⟨cs0, rfl, apP⟩ := okWide_struct Tryz.underlying30 (hval 0 30 v0 rfl rfl)
  obtain ⟨fu0, Ja⟩ := h0
  obtain ⟨a0, kk0, bb0⟩ := afb trivial Ja
  obtain ⟨rr0, oo0⟩ := alE (c := base W) (ai1 (Zj W)) kk0
  obtain ⟨sa1, sl1, sc1, rfl⟩ := okWide_slice Tryz.underlying31 (hval 1 31 v1 rfl rfl)
  obtain ⟨fu1, Gv⟩ := h1
  obtain ⟨a1, kk1, bb1⟩ := adY trivial Gv
  obtain ⟨rr1, oo1, _⟩ := uR (c := base W) (Zj W) ahF (sz := 5) rfl (by decide) kk1
  obtain ⟨a2, rfl, rfl, rfl, w2⟩ := open_int Tryz.underlying3 (hval 2 3 v2 rfl rfl) h2
  refine (aj1 ab1 Tryz.call4 W _ (dG rr0 (dG rr1 (dG (gR _ _) sL))) (abZ (ab0 a0 a1 a2 oo0 oo1 (wf_i64 w2)))).mono fun e W' ⟨he, hb⟩ => ⟨_, he, ?_⟩
  exact aix (by kernel_rfl) (by kernel_rfl) Tryz.underlying4 rfl Na hb rfl

set_option maxRecDepth 100000 in
set_option maxHeartbeats 8000000 in
theorem facts : joinedFacts Tryz.checked.prog 4 Tryz.f4 Rows.playPausesStandStillSpec Rows.playPausesStandStillRow = true := by
  unfold joinedFacts
  simp only [Bool.and_eq_true]
  repeat' apply And.intro
  all_goals (as_aux_lemma => kernel_rfl)

theorem proved : Rows.PlayPausesStandStillSaid :=
  OpenClaim.holds_of_wide 4 Tryz.f4 rfl rfl rfl rfl rfl rfl rfl ⟨rfl, rfl, rfl, rfl, rfl⟩ rfl rfl rfl rfl rfl (by kernel_rfl) Tryz.func4 facts
    (of_decide_eq_true (by kernel_rfl)) (by unfold Func.isWrapper; first | (rw [if_pos (by decide +kernel)]; kernel_rfl) | (rw [if_neg (by decide +kernel)]; exact ⟨rfl, rfl⟩))
    (fun os started H enc _ => lifted os started H enc)
#print axioms proved
end Go.Proofs.YtooknfkholjpbaaGreat.playPausesStandStill
