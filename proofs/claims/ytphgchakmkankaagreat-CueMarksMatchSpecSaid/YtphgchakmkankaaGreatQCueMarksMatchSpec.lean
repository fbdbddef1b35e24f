/- Proved: CueMarksMatchSpec returns true for every input, and every argument reads afterwards as it read before. No condition. -/
import Derived.Test.YtphgchakmkankaaGreatKCueMarksMatchSpec6
namespace Go.Proofs.YtphgchakmkankaaGreat.cueMarksMatchSpec
open Go.ChangeShapes Go.WideShapes Go.ChangeAt Go.RowKit
set_option linter.unusedVariables false

set_option maxRecDepth 100000 in
theorem lifted (os : Os) (started : os.Started) (H : Type) (enc : TypeId × Value → H) :
    ReturnsInHanded {} Tryz.checked os 3 .any (Rows.cueMarksMatchSpecSpec.pre6 enc Tryz.prog Tryz.f3 Rows.cueMarksMatchSpecRow.domain false) (Rows.cueMarksMatchSpecSpec.post enc Tryz.prog Tryz.f3 false true false false) := by
  refine returnsInHanded_of_change (C := Tryz.checked) own started (by kernel_rfl) Tryz.func3
    (ChangeSpec.witness6 (enc := enc) (C := Tryz.checked) false ⟨#[], #[.agg #[.slice none 0 0, .slice none 0 0], .slice none 0 0, .slice none 0 0], []⟩ 8 (by kernel_rfl) (by kernel_rfl) (by kernel_rfl) (by kernel_rfl)) ?_
  intro W ajB args ds gs before hval0 hW hcnd _
  have hval : ∀ (j : Nat) t v, Tryz.f3.params[j]? = some t → args[j]? = some v → Value.okWide Tryz.prog W .any ajB t v := hval0
  have LB := hW
  obtain ⟨p, q, hA0, hV, rfl, hfz, hnd⟩ := hW
  have hA : DataW.TrodAll enc Tryz.prog W 0 (fun _ => true) true Tryz.f3.params.toList args.toList ds p := hA0
  rw [Tryz.params3] at hA hval
  obtain ⟨v0, Bm, d0, ds0, p0, q0, hargs, rfl, rfl, h0, r0⟩ := trodAll_cons hA
  obtain ⟨v1, vs1, d1, ds1, p1, q1, rfl, rfl, rfl, h1, r1⟩ := trodAll_cons r0
  obtain ⟨v2, vs2, d2, ds2, p2, q2, rfl, rfl, rfl, h2, r2⟩ := trodAll_cons r1
  obtain ⟨rfl, rfl, rfl⟩ := trodAll_nil r2
  obtain rfl : args = #[v0, v1, v2] := by cases args; simp_all
  obtain ⟨rfl, rfl⟩ := trodVars_none hV
  obtain ⟨cs0, rfl, akS⟩ := okWide_struct Tryz.underlying25 (hval 0 25 v0 rfl rfl)
  obtain ⟨fu0, Hz⟩ := h0
  obtain ⟨a0, kk0, bb0⟩ := afW trivial Hz
  obtain ⟨rr0, oo0⟩ := ajr (c := base W) (ajq (Gc W)) kk0
  obtain ⟨sa1, sl1, sc1, rfl⟩ := okWide_slice Tryz.underlying26 (hval 1 26 v1 rfl rfl)
  obtain ⟨fu1, hf1⟩ := h1
  obtain ⟨a1, kk1, bb1⟩ := acq trivial hf1
  obtain ⟨rr1, oo1, _⟩ := yB (c := base W) (Gc W) (afY (Gc W)) (sz := 3) rfl (by decide) kk1
  obtain ⟨sa2, sl2, sc2, rfl⟩ := okWide_slice Tryz.underlying27 (hval 2 27 v2 rfl rfl)
  obtain ⟨fu2, zF⟩ := h2
  obtain ⟨a2, kk2, bb2⟩ := aeL trivial zF
  obtain ⟨rr2, oo2, _⟩ := yB (c := base W) (Gc W) (ajp (Gc W)) (sz := 11) rfl (by decide) kk2
  refine (ah1 abd Tryz.call3 W _ (fD rr0 (fD rr1 (fD rr2 vk))) (abc (abb a0 a1 a2 oo0 oo1 oo2))).mono fun e W' ⟨he, hb⟩ => ⟨_, he, ?_⟩
  exact agR (by kernel_rfl) (by kernel_rfl) Tryz.underlying4 rfl LB hb rfl

theorem proved : Rows.CueMarksMatchSpecSaid :=
  OpenClaim.holds_of_wide 3 Tryz.f3 rfl rfl rfl rfl rfl rfl rfl ⟨rfl, rfl, rfl, rfl, rfl⟩ rfl rfl rfl rfl rfl (by kernel_rfl) Tryz.func3 (by kernel_rfl)
    (of_decide_eq_true (by kernel_rfl)) (by unfold Func.isWrapper; first | (rw [if_pos (by decide +kernel)]; kernel_rfl) | (rw [if_neg (by decide +kernel)]; exact ⟨rfl, rfl⟩))
    (fun os started H enc _ => lifted os started H enc)
#print axioms proved
end Go.Proofs.YtphgchakmkankaaGreat.cueMarksMatchSpec
