/- Proved: PlayAskingDoesNotMatter returns true for every input, and every argument reads afterwards as it read before. No condition. -/
import Derived.Test.YtooknfkholjpbaaGreatKPlayAskingDoesNotMatter6
namespace Go.Proofs.YtooknfkholjpbaaGreat.playAskingDoesNotMatter
open Go.ChangeShapes Go.WideShapes Go.ChangeAt Go.RowKit
set_option linter.unusedVariables false

set_option maxRecDepth 100000 in
theorem lifted (os : Os) (started : os.Started) (H : Type) (enc : TypeId × Value → H) :
    ReturnsInHanded {} Tryz.checked os 6 .any (Rows.playAskingDoesNotMatterSpec.pre6 enc Tryz.prog Tryz.f6 Rows.playAskingDoesNotMatterRow.domain false) (Rows.playAskingDoesNotMatterSpec.post enc Tryz.prog Tryz.f6 false true false false) := by
  refine returnsInHanded_of_change (C := Tryz.checked) own started (by kernel_rfl) Tryz.func6
    (ChangeSpec.witness6 (enc := enc) (C := Tryz.checked) false ⟨#[], #[.agg #[.slice none 0 0, .slice none 0 0, .slice none 0 0, .slice none 0 0, .slice none 0 0], .slice none 0 0, .slice none 0 0, .int .i64 0], []⟩ 8 (by kernel_rfl) (by kernel_rfl) (by kernel_rfl) (by kernel_rfl)) ?_
  intro W apH args ds gs before hval0 hW hcnd _
  have hval : ∀ (j : Nat) t v, Tryz.f6.params[j]? = some t → args[j]? = some v → Value.okWide Tryz.prog W .any apH t v := hval0
  have PI := hW
  obtain ⟨p, q, hA0, hV, rfl, hfz, hnd⟩ := hW
  have hA : DataW.TrodAll enc Tryz.prog W 0 (fun _ => true) true Tryz.f6.params.toList args.toList ds p := hA0
  rw [Tryz.params6] at hA hval
  obtain ⟨v0, EL, d0, ds0, p0, q0, hargs, rfl, rfl, h0, r0⟩ := trodAll_cons hA
  obtain ⟨v1, vs1, d1, ds1, p1, q1, rfl, rfl, rfl, h1, r1⟩ := trodAll_cons r0
  obtain ⟨v2, vs2, d2, ds2, p2, q2, rfl, rfl, rfl, h2, r2⟩ := trodAll_cons r1
  obtain ⟨v3, vs3, d3, ds3, p3, q3, rfl, rfl, rfl, h3, r3⟩ := trodAll_cons r2
  obtain ⟨rfl, rfl, rfl⟩ := trodAll_nil r3
  obtain rfl : args = #[v0, v1, v2, v3] := by cases args; simp_all
  obtain ⟨rfl, rfl⟩ := trodVars_none hV
  obtain ⟨cs0, rfl, auf⟩ := okWide_struct Tryz.underlying30 (hval 0 30 v0 rfl rfl)
  obtain ⟨fu0, LR⟩ := h0
  obtain ⟨a0, kk0, bb0⟩ := aiw trivial LR
  obtain ⟨rr0, oo0⟩ := apq (c := base W) (amu (TL W)) kk0
  obtain ⟨sa1, sl1, sc1, rfl⟩ := okWide_slice Tryz.underlying31 (hval 1 31 v1 rfl rfl)
  obtain ⟨fu1, EC⟩ := h1
  obtain ⟨a1, kk1, bb1⟩ := ahf trivial EC
  obtain ⟨rr1, oo1, _⟩ := wQ (c := base W) (TL W) ak6 (sz := 5) rfl (by decide) kk1
  obtain ⟨sa2, sl2, sc2, rfl⟩ := okWide_slice Tryz.underlying61 (hval 2 61 v2 rfl rfl)
  obtain ⟨fu2, vu⟩ := h2
  obtain ⟨a2, kk2, bb2⟩ := ajG trivial vu
  obtain ⟨rr2, oo2, _⟩ := wQ (c := base W) (TL W) apo (sz := 1) rfl (by decide) kk2
  obtain ⟨a3, rfl, rfl, rfl, w3⟩ := open_int Tryz.underlying3 (hval 3 3 v3 rfl rfl) h3
  refine (anG aeY Tryz.call6 W _ (eD rr0 (eD rr1 (eD rr2 (eD (jt _ _) uM)))) (aeW (aeX a0 a1 a2 a3 oo0 oo1 oo2 (wf_i64 w3)))).mono fun e W' ⟨he, hb⟩ => ⟨_, he, ?_⟩
  exact al2 (by kernel_rfl) (by kernel_rfl) Tryz.underlying4 rfl PI hb rfl

set_option maxRecDepth 100000 in
set_option maxHeartbeats 8000000 in
theorem facts : joinedFacts Tryz.checked.prog 6 Tryz.f6 Rows.playAskingDoesNotMatterSpec Rows.playAskingDoesNotMatterRow = true := by
  unfold joinedFacts
  simp only [Bool.and_eq_true]
  repeat' apply And.intro
  all_goals (as_aux_lemma => kernel_rfl)

theorem proved : Rows.PlayAskingDoesNotMatterSaid :=
  OpenClaim.holds_of_wide 6 Tryz.f6 rfl rfl rfl rfl rfl rfl rfl ⟨rfl, rfl, rfl, rfl, rfl⟩ rfl rfl rfl rfl rfl (by kernel_rfl) Tryz.func6 facts
    (of_decide_eq_true (by kernel_rfl)) (by unfold Func.isWrapper; first | (rw [if_pos (by decide +kernel)]; kernel_rfl) | (rw [if_neg (by decide +kernel)]; exact ⟨rfl, rfl⟩))
    (fun os started H enc _ => lifted os started H enc)
#print axioms proved
end Go.Proofs.YtooknfkholjpbaaGreat.playAskingDoesNotMatter
