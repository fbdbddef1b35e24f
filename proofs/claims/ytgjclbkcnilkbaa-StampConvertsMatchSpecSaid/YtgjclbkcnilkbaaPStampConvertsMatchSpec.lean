/- Proved: StampConvertsMatchSpec returns true for every input, and every argument reads afterwards as it read before. No condition. -/
import Derived.Test.YtgjclbkcnilkbaaLCvt
import Derived.Test.YtgjclbkcnilkbaaFr
namespace Go.Proofs.Ytgjclbkcnilkbaa.stampConvertsMatchSpec
open Go.ChangeShapes Go.WideShapes Go.ChangeAt Go.RowKit
set_option linter.unusedVariables false

set_option maxRecDepth 100000 in
theorem lifted (os : Os) (started : os.Started) (H : Type) (enc : TypeId × Value → H) :
    ReturnsInHanded {} Try.checked os 5 .any (Rows.stampConvertsMatchSpecSpec.pre6 enc Try.prog Try.f5 Rows.stampConvertsMatchSpecRow.domain false) (Rows.stampConvertsMatchSpecSpec.post enc Try.prog Try.f5 false true false false) := by
  refine returnsInHanded_of_change (C := Try.checked) own started (by kernel_rfl) Try.func5
    (ChangeSpec.witness6 (enc := enc) (C := Try.checked) false ⟨#[], #[.int .i64 0, .int .i64 0, .agg #[.int .i64 0, .int .i64 0, .int .i64 0, .int .i64 0]], []⟩ 8 (by kernel_rfl) (by kernel_rfl) (by kernel_rfl) (by kernel_rfl)) ?_
  intro W base args ds gs before hval0 hW hcnd _
  have hval : ∀ (j : Nat) t v, Try.f5.params[j]? = some t → args[j]? = some v → Value.okWide Try.prog W .any base t v := hval0
  have hW' := hW
  obtain ⟨p, q, hA0, hV, rfl, hfz, hnd⟩ := hW
  have hA : DataW.TrodAll enc Try.prog W 0 (fun _ => true) true Try.f5.params.toList args.toList ds p := hA0
  rw [Try.params5] at hA hval
  obtain ⟨v0, vs0, d0, ds0, p0, q0, hargs, rfl, rfl, h0, r0⟩ := trodAll_cons hA
  obtain ⟨v1, vs1, d1, ds1, p1, q1, rfl, rfl, rfl, h1, r1⟩ := trodAll_cons r0
  obtain ⟨v2, vs2, d2, ds2, p2, q2, rfl, rfl, rfl, h2, r2⟩ := trodAll_cons r1
  obtain ⟨rfl, rfl, rfl⟩ := trodAll_nil r2
  obtain rfl : args = #[v0, v1, v2] := by cases args; simp_all
  obtain ⟨rfl, rfl⟩ := trodVars_none hV
  obtain ⟨a0, rfl, rfl, rfl, w0⟩ := open_int Try.underlying3 (hval 0 3 v0 rfl rfl) h0
  obtain ⟨a1, rfl, rfl, rfl, w1⟩ := open_int Try.underlying3 (hval 1 3 v1 rfl rfl) h1
  obtain ⟨c20, c21, c22, c23, y20, y21, y22, y23, m2, rfl, rfl, rfl, hy20, hy21, hy22, hy23⟩ := Go.Joins.open_agg4 Try.underlying29 (by kernel_rfl) (show Try.prog.cellsOf 29 = 4 by kernel_rfl) (hval 2 29 v2 rfl rfl) h2
  obtain ⟨a20, e20, rfl, w20⟩ := DataW.trod_int Try.underlying3 hy20; simp at e20; subst e20
  obtain ⟨a21, e21, rfl, w21⟩ := DataW.trod_int Try.underlying3 hy21; simp at e21; subst e21
  obtain ⟨a22, e22, rfl, w22⟩ := DataW.trod_int Try.underlying3 hy22; simp at e22; subst e22
  obtain ⟨a23, e23, rfl, w23⟩ := DataW.trod_int Try.underlying3 hy23; simp at e23; subst e23
  refine (stampConvertsMatchSpec_walk a0 a1 a20 a21 a22 a23 W).mono fun e W' ⟨he, hb⟩ => ⟨_, he, ?_⟩
  exact law_post (by kernel_rfl) (by kernel_rfl) Try.underlying4 rfl hW' hb rfl

theorem proved : Rows.StampConvertsMatchSpecSaid :=
  OpenClaim.holds_of_wide 5 Try.f5 rfl rfl rfl rfl rfl rfl rfl ⟨rfl, rfl, rfl, rfl, rfl⟩ rfl rfl rfl rfl rfl (by kernel_rfl) Try.func5 (by kernel_rfl)
    (of_decide_eq_true (by kernel_rfl)) (by unfold Func.isWrapper; first | (rw [if_pos (by decide +kernel)]; kernel_rfl) | (rw [if_neg (by decide +kernel)]; exact ⟨rfl, rfl⟩))
    (fun os started H enc _ => lifted os started H enc)
#print axioms proved
end Go.Proofs.Ytgjclbkcnilkbaa.stampConvertsMatchSpec
