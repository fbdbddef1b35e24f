/- Proved: PickPresetsMatchSpec returns true for every input, and every argument reads afterwards as it read before. No condition. -/
import Derived.Test.YtjjjjbgohkklnaaKPickPresetsMatchSpec4
namespace Go.Proofs.Ytjjjjbgohkklnaa.pickPresetsMatchSpec
open Go.ChangeShapes Go.WideShapes Go.ChangeAt Go.RowKit
set_option linter.unusedVariables false

set_option maxRecDepth 100000 in
theorem lifted (os : Os) (started : os.Started) (H : Type) (enc : TypeId × Value → H) :
    ReturnsInHanded {} Try.checked os 4 .any (Rows.pickPresetsMatchSpecSpec.pre6 enc Try.prog Try.f4 Rows.pickPresetsMatchSpecRow.domain false) (Rows.pickPresetsMatchSpecSpec.post enc Try.prog Try.f4 false true false false) := by
  refine returnsInHanded_of_change (C := Try.checked) own started (by kernel_rfl) Try.func4
    (ChangeSpec.witness6 (enc := enc) (C := Try.checked) false ⟨#[], #[.agg #[.slice none 0 0, .slice none 0 0], .slice none 0 0, .int .i64 0, .string ByteArray.empty, .slice none 0 0, .bool false], []⟩ 8 (by kernel_rfl) (by kernel_rfl) (by kernel_rfl) (by kernel_rfl)) ?_
  intro W YM args ds gs before hval0 hW hcnd _
  have hval : ∀ (j : Nat) t v, Try.f4.params[j]? = some t → args[j]? = some v → Value.okWide Try.prog W .any YM t v := hval0
  have Ft := hW
  obtain ⟨p, q, hA0, hV, rfl, hfz, hnd⟩ := hW
  have hA : DataW.TrodAll enc Try.prog W 0 (fun _ => true) true Try.f4.params.toList args.toList ds p := hA0
  rw [Try.params4] at hA hval
  obtain ⟨v0, wY, d0, ds0, p0, q0, hargs, rfl, rfl, h0, r0⟩ := trodAll_cons hA
  obtain ⟨v1, vs1, d1, ds1, p1, q1, rfl, rfl, rfl, h1, r1⟩ := trodAll_cons r0
  obtain ⟨v2, vs2, d2, ds2, p2, q2, rfl, rfl, rfl, h2, r2⟩ := trodAll_cons r1
  obtain ⟨v3, vs3, d3, ds3, p3, q3, rfl, rfl, rfl, h3, r3⟩ := trodAll_cons r2
  obtain ⟨v4, vs4, d4, ds4, p4, q4, rfl, rfl, rfl, h4, r4⟩ := trodAll_cons r3
  obtain ⟨v5, vs5, d5, ds5, p5, q5, rfl, rfl, rfl, h5, r5⟩ := trodAll_cons r4
  obtain ⟨rfl, rfl, rfl⟩ := trodAll_nil r5
  obtain rfl : args = #[v0, v1, v2, v3, v4, v5] := by cases args; simp_all
  obtain ⟨rfl, rfl⟩ := trodVars_none hV
  obtain ⟨cs0, rfl, ZM⟩ := okWide_struct Try.underlying25 (hval 0 25 v0 rfl rfl)
  obtain ⟨fu0, CQ⟩ := h0
  obtain ⟨a0, kk0, bb0⟩ := VP trivial CQ
  obtain ⟨rr0, oo0⟩ := YC (c := base W) (YB (EO W)) kk0
  obtain ⟨sa1, sl1, sc1, rfl⟩ := okWide_slice Try.underlying40 (hval 1 40 v1 rfl rfl)
  obtain ⟨fu1, hf1⟩ := h1
  obtain ⟨a1, kk1, bb1⟩ := TD trivial hf1
  obtain ⟨rr1, oo1, _⟩ := xu (c := base W) (EO W) (VQ (EO W)) (sz := 3) rfl (by decide) kk1
  obtain ⟨a2, rfl, rfl, rfl, w2⟩ := open_int Try.underlying3 (hval 2 3 v2 rfl rfl) h2
  obtain ⟨a3, rfl, rfl, rfl, w3⟩ := Go.ChangeMaps.open_string Try.underlying9 (hval 3 9 v3 rfl rfl) h3
  obtain ⟨sa4, sl4, sc4, rfl⟩ := okWide_slice Try.underlying29 (hval 4 29 v4 rfl rfl)
  obtain ⟨fu4, hf4⟩ := h4
  obtain ⟨a4, kk4, bb4⟩ := La trivial hf4
  obtain ⟨rr4, oo4, _⟩ := xu (c := base W) (EO W) Mf (sz := 3) rfl (by decide) kk4
  obtain ⟨a5, rfl, rfl, rfl⟩ := open_bool Try.underlying4 (hval 5 4 v5 rfl rfl) h5
  refine (Xo SP Try.call4 W _ (fN rr0 (fN rr1 (fN (n9 _ _) (fN (xy _) (fN rr4 (fN (NA _) vL)))))) (SN (SO a0 a1 a2 a3 a4 a5 oo0 oo1 (wf_i64 w2) (Yx w3) oo4))).mono fun e W' ⟨he, hb⟩ => ⟨_, he, ?_⟩
  exact Wi (by kernel_rfl) (by kernel_rfl) Try.underlying4 rfl Ft hb rfl

theorem proved : Rows.PickPresetsMatchSpecSaid :=
  OpenClaim.holds_of_wide 4 Try.f4 rfl rfl rfl rfl rfl rfl rfl ⟨rfl, rfl, rfl, rfl, rfl⟩ rfl rfl rfl rfl rfl (by kernel_rfl) Try.func4 (by kernel_rfl)
    (of_decide_eq_true (by kernel_rfl)) (by unfold Func.isWrapper; first | (rw [if_pos (by decide +kernel)]; kernel_rfl) | (rw [if_neg (by decide +kernel)]; exact ⟨rfl, rfl⟩))
    (fun os started H enc _ => lifted os started H enc)
#print axioms proved
end Go.Proofs.Ytjjjjbgohkklnaa.pickPresetsMatchSpec
