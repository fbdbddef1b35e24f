/- Proved: PickSpreadsMatchSpec returns true for every input, and every argument reads afterwards as it read before. No condition. -/
import Derived.Test.YtjjjjbgohkklnaaKPickSpreadsMatchSpec5
namespace Go.Proofs.Ytjjjjbgohkklnaa.pickSpreadsMatchSpec
open Go.ChangeShapes Go.WideShapes Go.ChangeAt Go.RowKit
set_option linter.unusedVariables false

set_option maxRecDepth 100000 in
theorem lifted (os : Os) (started : os.Started) (H : Type) (enc : TypeId × Value → H) :
    ReturnsInHanded {} Try.checked os 3 .any (Rows.pickSpreadsMatchSpecSpec.pre6 enc Try.prog Try.f3 Rows.pickSpreadsMatchSpecRow.domain false) (Rows.pickSpreadsMatchSpecSpec.post enc Try.prog Try.f3 false true false false) := by
  refine returnsInHanded_of_change (C := Try.checked) own started (by kernel_rfl) Try.func3
    (ChangeSpec.witness6 (enc := enc) (C := Try.checked) false ⟨#[], #[.agg #[.slice none 0 0, .slice none 0 0], .slice none 0 0, .string ByteArray.empty, .agg #[.slice none 0 0, .int .i64 0, .int .i64 0], .slice none 0 0], []⟩ 8 (by kernel_rfl) (by kernel_rfl) (by kernel_rfl) (by kernel_rfl)) ?_
  intro W abe args ds gs before hval0 hW hcnd _
  have hval : ∀ (j : Nat) t v, Try.f3.params[j]? = some t → args[j]? = some v → Value.okWide Try.prog W .any abe t v := hval0
  have FG := hW
  obtain ⟨p, q, hA0, hV, rfl, hfz, hnd⟩ := hW
  have hA : DataW.TrodAll enc Try.prog W 0 (fun _ => true) true Try.f3.params.toList args.toList ds p := hA0
  rw [Try.params3] at hA hval
  obtain ⟨v0, wS, d0, ds0, p0, q0, hargs, rfl, rfl, h0, r0⟩ := trodAll_cons hA
  obtain ⟨v1, vs1, d1, ds1, p1, q1, rfl, rfl, rfl, h1, r1⟩ := trodAll_cons r0
  obtain ⟨v2, vs2, d2, ds2, p2, q2, rfl, rfl, rfl, h2, r2⟩ := trodAll_cons r1
  obtain ⟨v3, vs3, d3, ds3, p3, q3, rfl, rfl, rfl, h3, r3⟩ := trodAll_cons r2
  obtain ⟨v4, vs4, d4, ds4, p4, q4, rfl, rfl, rfl, h4, r4⟩ := trodAll_cons r3
  obtain ⟨rfl, rfl, rfl⟩ := trodAll_nil r4
  obtain rfl : args = #[v0, v1, v2, v3, v4] := by cases args; simp_all
  obtain ⟨rfl, rfl⟩ := trodVars_none hV
  obtain ⟨cs0, rfl, acr⟩ := okWide_struct Try.underlying25 (hval 0 25 v0 rfl rfl)
  obtain ⟨fu0, CO⟩ := h0
  obtain ⟨a0, kk0, bb0⟩ := XS trivial CO
  obtain ⟨rr0, oo0⟩ := Qx (c := base W) (aaZ (EI W)) kk0
  obtain ⟨sa1, sl1, sc1, rfl⟩ := okWide_slice Try.underlying26 (hval 1 26 v1 rfl rfl)
  obtain ⟨fu1, hf1⟩ := h1
  obtain ⟨a1, kk1, bb1⟩ := Nc trivial hf1
  obtain ⟨rr1, oo1, _⟩ := xk (c := base W) (EI W) Qw (sz := 1) rfl (by decide) kk1
  obtain ⟨a2, rfl, rfl, rfl, w2⟩ := Go.ChangeMaps.open_string Try.underlying9 (hval 2 9 v2 rfl rfl) h2
  obtain ⟨cs3, rfl, acs⟩ := okWide_struct Try.underlying28 (hval 3 28 v3 rfl rfl)
  obtain ⟨fu3, hf3⟩ := h3
  obtain ⟨a3, kk3, bb3⟩ := XQ trivial hf3
  obtain ⟨rr3, oo3⟩ := Qx (c := base W) (aaY (EI W)) kk3
  obtain ⟨sa4, sl4, sc4, rfl⟩ := okWide_slice Try.underlying29 (hval 4 29 v4 rfl rfl)
  obtain ⟨fu4, hf4⟩ := h4
  obtain ⟨a4, kk4, bb4⟩ := US trivial hf4
  obtain ⟨rr4, oo4, _⟩ := xk (c := base W) (EI W) WL (sz := 3) rfl (by decide) kk4
  refine (ZJ Uc Try.call3 W _ (fH rr0 (fH rr1 (fH (zZ _) (fH rr3 (fH rr4 tT))))) (T9 (Ub a0 a1 a2 a3 a4 oo0 oo1 (aaQ w2) oo3 oo4))).mono fun e W' ⟨he, hb⟩ => ⟨_, he, ?_⟩
  exact Yz (by kernel_rfl) (by kernel_rfl) Try.underlying4 rfl FG hb rfl

theorem proved : Rows.PickSpreadsMatchSpecSaid :=
  OpenClaim.holds_of_wide 3 Try.f3 rfl rfl rfl rfl rfl rfl rfl ⟨rfl, rfl, rfl, rfl, rfl⟩ rfl rfl rfl rfl rfl (by kernel_rfl) Try.func3 (by kernel_rfl)
    (of_decide_eq_true (by kernel_rfl)) (by unfold Func.isWrapper; first | (rw [if_pos (by decide +kernel)]; kernel_rfl) | (rw [if_neg (by decide +kernel)]; exact ⟨rfl, rfl⟩))
    (fun os started H enc _ => lifted os started H enc)
#print axioms proved
end Go.Proofs.Ytjjjjbgohkklnaa.pickSpreadsMatchSpec
