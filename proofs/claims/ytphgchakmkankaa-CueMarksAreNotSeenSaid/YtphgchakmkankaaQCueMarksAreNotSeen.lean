/- Proved: CueMarksAreNotSeen returns true for every input, and every argument reads afterwards as it read before. No condition. -/
import Derived.Test.YtphgchakmkankaaKCueMarksAreNotSeen5
namespace Go.Proofs.Ytphgchakmkankaa.cueMarksAreNotSeen
open Go.ChangeShapes Go.WideShapes Go.ChangeAt Go.RowKit
set_option linter.unusedVariables false

set_option maxRecDepth 100000 in
theorem lifted (os : Os) (started : os.Started) (H : Type) (enc : TypeId × Value → H) :
    ReturnsInHanded {} Try.checked os 6 .any (Rows.cueMarksAreNotSeenSpec.pre6 enc Try.prog Try.f6 Rows.cueMarksAreNotSeenRow.domain false) (Rows.cueMarksAreNotSeenSpec.post enc Try.prog Try.f6 false true false false) := by
  refine returnsInHanded_of_change (C := Try.checked) own started (by kernel_rfl) Try.func6
    (ChangeSpec.witness6 (enc := enc) (C := Try.checked) false ⟨#[], #[.agg #[.slice none 0 0, .slice none 0 0], .slice none 0 0, .slice none 0 0], []⟩ 8 (by kernel_rfl) (by kernel_rfl) (by kernel_rfl) (by kernel_rfl)) ?_
  intro W abZ args ds gs before hval0 hW hcnd _
  have hval : ∀ (j : Nat) t v, Try.f6.params[j]? = some t → args[j]? = some v → Value.okWide Try.prog W .any abZ t v := hval0
  have GS := hW
  obtain ⟨p, q, hA0, hV, rfl, hfz, hnd⟩ := hW
  have hA : DataW.TrodAll enc Try.prog W 0 (fun _ => true) true Try.f6.params.toList args.toList ds p := hA0
  rw [Try.params6] at hA hval
  obtain ⟨v0, xx, d0, ds0, p0, q0, hargs, rfl, rfl, h0, r0⟩ := trodAll_cons hA
  obtain ⟨v1, vs1, d1, ds1, p1, q1, rfl, rfl, rfl, h1, r1⟩ := trodAll_cons r0
  obtain ⟨v2, vs2, d2, ds2, p2, q2, rfl, rfl, rfl, h2, r2⟩ := trodAll_cons r1
  obtain ⟨rfl, rfl, rfl⟩ := trodAll_nil r2
  obtain rfl : args = #[v0, v1, v2] := by cases args; simp_all
  obtain ⟨rfl, rfl⟩ := trodVars_none hV
  obtain ⟨cs0, rfl, adw⟩ := okWide_struct Try.underlying37 (hval 0 37 v0 rfl rfl)
  obtain ⟨fu0, Dj⟩ := h0
  obtain ⟨a0, kk0, bb0⟩ := Yu trivial Dj
  obtain ⟨rr0, oo0⟩ := abP (c := base W) (abO (Cf W)) kk0
  obtain ⟨sa1, sl1, sc1, rfl⟩ := okWide_slice Try.underlying38 (hval 1 38 v1 rfl rfl)
  obtain ⟨fu1, hf1⟩ := h1
  obtain ⟨a1, kk1, bb1⟩ := VO trivial hf1
  obtain ⟨rr1, oo1, _⟩ := uk (c := base W) (Cf W) (Yw (Cf W)) (sz := 3) rfl (by decide) kk1
  obtain ⟨sa2, sl2, sc2, rfl⟩ := okWide_slice Try.underlying22 (hval 2 22 v2 rfl rfl)
  obtain ⟨fu2, vc⟩ := h2
  obtain ⟨a2, kk2, bb2⟩ := Xx trivial vc
  obtain ⟨rr2, oo2, _⟩ := uk (c := base W) (Cf W) (abN (Cf W)) (sz := 11) rfl (by decide) kk2
  refine (aar UZ Try.call6 W _ (dg rr0 (dg rr1 (dg rr2 qZ))) (UY (UX a0 a1 a2 oo0 oo1 oo2))).mono fun e W' ⟨he, hb⟩ => ⟨_, he, ?_⟩
  exact Zg (by kernel_rfl) (by kernel_rfl) Try.underlying4 rfl GS hb rfl

theorem proved : Rows.CueMarksAreNotSeenSaid :=
  OpenClaim.holds_of_wide 6 Try.f6 rfl rfl rfl rfl rfl rfl rfl ⟨rfl, rfl, rfl, rfl, rfl⟩ rfl rfl rfl rfl rfl (by kernel_rfl) Try.func6 (by kernel_rfl)
    (of_decide_eq_true (by kernel_rfl)) (by unfold Func.isWrapper; first | (rw [if_pos (by decide +kernel)]; kernel_rfl) | (rw [if_neg (by decide +kernel)]; exact ⟨rfl, rfl⟩))
    (fun os started H enc _ => lifted os started H enc)
#print axioms proved
end Go.Proofs.Ytphgchakmkankaa.cueMarksAreNotSeen
