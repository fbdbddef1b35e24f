/- Proved: PickPresetsKeepWhatIsRecorded returns true for every input, and every argument reads afterwards as it read before. No condition. -/
import Derived.Test.YtjjjjbgohkklnaaKPickPresetsKeepWhatIsRecorded4
namespace Go.Proofs.Ytjjjjbgohkklnaa.pickPresetsKeepWhatIsRecorded
open Go.ChangeShapes Go.WideShapes Go.ChangeAt Go.RowKit
set_option linter.unusedVariables false

set_option maxRecDepth 100000 in
theorem lifted (os : Os) (started : os.Started) (H : Type) (enc : TypeId × Value → H) :
    ReturnsInHanded {} Try.checked os 5 .any (Rows.pickPresetsKeepWhatIsRecordedSpec.pre6 enc Try.prog Try.f5 Rows.pickPresetsKeepWhatIsRecordedRow.domain false) (Rows.pickPresetsKeepWhatIsRecordedSpec.post enc Try.prog Try.f5 false true false false) := by
  refine returnsInHanded_of_change (C := Try.checked) own started (by kernel_rfl) Try.func5
    (ChangeSpec.witness6 (enc := enc) (C := Try.checked) false ⟨#[], #[.agg #[.slice none 0 0, .slice none 0 0], .slice none 0 0, .int .i64 0, .string ByteArray.empty, .slice none 0 0, .bool false], []⟩ 8 (by kernel_rfl) (by kernel_rfl) (by kernel_rfl) (by kernel_rfl)) ?_
  intro W V2 args ds gs before hval0 hW hcnd _
  have hval : ∀ (j : Nat) t v, Try.f5.params[j]? = some t → args[j]? = some v → Value.okWide Try.prog W .any V2 t v := hval0
  have Dd := hW
  obtain ⟨p, q, hA0, hV, rfl, hfz, hnd⟩ := hW
  have hA : DataW.TrodAll enc Try.prog W 0 (fun _ => true) true Try.f5.params.toList args.toList ds p := hA0
  rw [Try.params5] at hA hval
  obtain ⟨v0, uh, d0, ds0, p0, q0, hargs, rfl, rfl, h0, r0⟩ := trodAll_cons hA
  obtain ⟨v1, vs1, d1, ds1, p1, q1, rfl, rfl, rfl, h1, r1⟩ := trodAll_cons r0
  obtain ⟨v2, vs2, d2, ds2, p2, q2, rfl, rfl, rfl, h2, r2⟩ := trodAll_cons r1
  obtain ⟨v3, vs3, d3, ds3, p3, q3, rfl, rfl, rfl, h3, r3⟩ := trodAll_cons r2
  obtain ⟨v4, vs4, d4, ds4, p4, q4, rfl, rfl, rfl, h4, r4⟩ := trodAll_cons r3
  obtain ⟨v5, vs5, d5, ds5, p5, q5, rfl, rfl, rfl, h5, r5⟩ := trodAll_cons r4
  obtain ⟨rfl, rfl, rfl⟩ := trodAll_nil r5
  obtain rfl : args = #[v0, v1, v2, v3, v4, v5] := by cases args; simp_all
  obtain ⟨rfl, rfl⟩ := trodVars_none hV
  obtain ⟨cs0, rfl, W9⟩ := okWide_struct Try.underlying25 (hval 0 25 v0 rfl rfl)
  obtain ⟨fu0, Ae⟩ := h0
  obtain ⟨a0, Y4, bb0⟩ := SY trivial Ae
  obtain ⟨Zu, Zd⟩ := VT (c := base W) (VS (Cj W)) Y4
  obtain ⟨sa1, sl1, sc1, rfl⟩ := okWide_slice Try.underlying40 (hval 1 40 v1 rfl rfl)
  obtain ⟨fu1, Yo⟩ := h1
  obtain ⟨a1, Y5, bb1⟩ := QD trivial Yo
  obtain ⟨Zv, Ze, _⟩ := uA (c := base W) (Cj W) (SZ (Cj W)) (sz := 3) rfl (by decide) Y5
  obtain ⟨a2, rfl, rfl, rfl, w2⟩ := open_int Try.underlying3 (hval 2 3 v2 rfl rfl) h2
  obtain ⟨a3, rfl, rfl, rfl, w3⟩ := Go.ChangeMaps.open_string Try.underlying9 (hval 3 9 v3 rfl rfl) h3
  obtain ⟨sa4, sl4, sc4, rfl⟩ := okWide_slice Try.underlying29 (hval 4 29 v4 rfl rfl)
  obtain ⟨fu4, Yp⟩ := h4
  obtain ⟨a4, Y6, bb4⟩ := IT trivial Yp
  obtain ⟨Zw, Zf, _⟩ := uA (c := base W) (Cj W) JI (sz := 3) rfl (by decide) Y6
  obtain ⟨a5, rfl, rfl, rfl⟩ := open_bool Try.underlying4 (hval 5 4 v5 rfl rfl) h5
  refine (UC O8 Try.call5 W _ (eR Zu (eR Zv (eR (mg _ _) (eR (uD _) (eR Zw (eR (KX _) sR)))))) (O6 (O7 a0 a1 a2 a3 a4 a5 Zd Ze (wf_i64 w2) (VO w3) Zf))).mono fun e W' ⟨he, hb⟩ => ⟨_, he, ?_⟩
  exact Tv (by kernel_rfl) (by kernel_rfl) Try.underlying4 rfl Dd hb rfl

theorem proved : Rows.PickPresetsKeepWhatIsRecordedSaid :=
  OpenClaim.holds_of_wide 5 Try.f5 rfl rfl rfl rfl rfl rfl rfl ⟨rfl, rfl, rfl, rfl, rfl⟩ rfl rfl rfl rfl rfl (by kernel_rfl) Try.func5 (by kernel_rfl)
    (of_decide_eq_true (by kernel_rfl)) (by unfold Func.isWrapper; first | (rw [if_pos (by decide +kernel)]; kernel_rfl) | (rw [if_neg (by decide +kernel)]; exact ⟨rfl, rfl⟩))
    (fun os started H enc _ => lifted os started H enc)
#print axioms proved
end Go.Proofs.Ytjjjjbgohkklnaa.pickPresetsKeepWhatIsRecorded
