/- Proved: PickUnitsMatchSpec returns true for every input whose reading is of bulk at most 1048576, and every argument reads afterwards as it read before. -/
import Derived.JoinedCond
import Derived.Test.YtgjglkakhmikjaaKPickUnitsMatchSpec5
namespace Go.Proofs.Ytgjglkakhmikjaa.pickUnitsMatchSpec
open Go.ChangeShapes Go.WideShapes Go.ChangeAt Go.RowKit
set_option linter.unusedVariables false

set_option maxRecDepth 100000 in
theorem lifted (os : Os) (started : os.Started) (H : Type) (enc : TypeId × Value → H) (F : Stop.Interp) :
    ReturnsInHanded {} Try.checked os 4 .any ((Rows.OpenSpec.upto Rows.pickUnitsMatchSpecSpec).pre6 enc Try.prog Try.f4 Rows.pickUnitsMatchSpecUptoRow.domain false) (((Rows.OpenSpec.upto Rows.pickUnitsMatchSpecSpec).at F).post enc Try.prog Try.f4 false true false false) := by
  refine returnsInHanded_of_cond (C := Try.checked) (s := (Rows.OpenSpec.upto Rows.pickUnitsMatchSpecSpec)) (k := Rows.uptoSmall) rfl own started (by kernel_rfl) Try.func4
    (OpenSpec.witness (enc := enc) (C := Try.checked) (s := (Rows.OpenSpec.upto Rows.pickUnitsMatchSpecSpec)) (k := Rows.uptoSmall) rfl false ⟨#[], #[.agg #[.slice none 0 0, .slice none 0 0], .slice none 0 0, .slice none 0 0, .agg #[.int .i64 0, .int .i64 0, .int .i64 0, .slice none 0 0]], []⟩ 8 (by kernel_rfl) (by kernel_rfl) (by kernel_rfl)
      (x := ([.agg [.nil, .nil], .nil, .nil, .agg [.lit (.int .i64 0), .lit (.int .i64 0), .lit (.int .i64 0), .nil]], [], [])) (by kernel_rfl) rfl (by kernel_rfl)) ?_
  intro W ahc args ds gs before hval0 hW _ hk _
  show Calls Try.prog 4 args W fun e W' => ∃ v, e = .returned v ∧ Rows.pickUnitsMatchSpecSpec.post enc Try.prog Try.f4 false true false false W args v W'
  have hk : Rows.uptoBulkAll (ds ++ gs) ≤ 1048576 := of_decide_eq_true hk
  have hval : ∀ (j : Nat) t v, Try.f4.params[j]? = some t → args[j]? = some v → Value.okWide Try.prog W .any ahc t v := hval0
  have JB := hW
  obtain ⟨p, q, hA0, hV, rfl, hfz, hnd⟩ := hW
  have hA : DataW.TrodAll enc Try.prog W 0 (fun _ => true) true Try.f4.params.toList args.toList ds p := hA0
  rw [Try.params4] at hA hval
  obtain ⟨v0, za, d0, ds0, p0, q0, hargs, rfl, rfl, h0, r0⟩ := trodAll_cons hA
  obtain ⟨v1, vs1, d1, ds1, p1, q1, rfl, rfl, rfl, h1, r1⟩ := trodAll_cons r0
  obtain ⟨v2, vs2, d2, ds2, p2, q2, rfl, rfl, rfl, h2, r2⟩ := trodAll_cons r1
  obtain ⟨v3, vs3, d3, ds3, p3, q3, rfl, rfl, rfl, h3, r3⟩ := trodAll_cons r2
  obtain ⟨rfl, rfl, rfl⟩ := trodAll_nil r3
  obtain rfl : args = #[v0, v1, v2, v3] := by cases args; simp_all
  obtain ⟨rfl, rfl⟩ := trodVars_none hV
  simp only [List.append_nil, Rows.uptoBulkAll] at hk
  obtain ⟨cs0, rfl, am6⟩ := okWide_struct Try.underlying33 (hval 0 33 v0 rfl rfl)
  obtain ⟨fu0, F0⟩ := h0
  obtain ⟨a0, kk0, bb0⟩ := aei trivial F0
  obtain ⟨rr0, oo0⟩ := Wk (c := base W) (ag5 (Cw W)) kk0
  obtain ⟨sa1, sl1, sc1, rfl⟩ := okWide_slice Try.underlying22 (hval 1 22 v1 rfl rfl)
  obtain ⟨Yl, hf1⟩ := h1
  obtain ⟨a1, Y7, bb1⟩ := aba Yl (Nat.le_refl _) hf1
  obtain ⟨rr1, oo1, _⟩ := xL (c := base W) (Cw W) (aff (Cw W) Yl) (sz := 5) rfl (by decide) Y7
  have gg1 : sO a1 := agZ oo1.1 (Nat.le_trans (Nat.le_trans (abY Y7) bb1) (show Rows.uptoBulk d1 ≤ 1048576 by omega))
  obtain ⟨sa2, sl2, sc2, rfl⟩ := okWide_slice Try.underlying34 (hval 2 34 v2 rfl rfl)
  obtain ⟨fu2, qd⟩ := h2
  obtain ⟨a2, kk2, bb2⟩ := aaL trivial qd
  obtain ⟨rr2, oo2, _⟩ := xL (c := base W) (Cw W) (ael (Cw W)) (sz := 3) rfl (by decide) kk2
  obtain ⟨cs3, rfl, am7⟩ := okWide_struct Try.underlying37 (hval 3 37 v3 rfl rfl)
  obtain ⟨PU, hf3⟩ := h3
  obtain ⟨a3, Y8, bb3⟩ := Mb PU (Nat.le_refl _) hf3
  obtain ⟨rr3, oo3⟩ := Wk (c := base W) (M8 (Cw W) PU) Y8
  have gg3 : bH a3 ≤ 2000000 := Nat.le_trans (Nat.le_trans (Nat.le_trans (Mm PU Y8) bb3) (show Rows.uptoBulk d3 ≤ 1048576 by omega)) (by decide)
  refine (afX Zs Try.call4 W _ (gj rr0 (gj rr1 (gj rr2 (gj rr3 vT)))) (Zq (Zr a0 a1 a2 a3 oo0 gg1 oo2 gg3))).mono fun e W' ⟨he, hb⟩ => ⟨_, he, ?_⟩
  exact aeX (by kernel_rfl) (by kernel_rfl) Try.underlying4 rfl JB hb rfl

theorem proved : Rows.PickUnitsMatchSpecUptoSaid :=
  OpenClaim.holds_of_cond 4 Try.f4 rfl rfl rfl rfl rfl rfl rfl ⟨rfl, rfl, rfl, rfl, rfl⟩ rfl rfl rfl rfl rfl (by kernel_rfl) Try.func4 (by kernel_rfl)
    (of_decide_eq_true (by kernel_rfl)) (by unfold Func.isWrapper; first | (rw [if_pos (by decide +kernel)]; kernel_rfl) | (rw [if_neg (by decide +kernel)]; exact ⟨rfl, rfl⟩))
    (fun os started H enc _ F => lifted os started H enc F)
#print axioms proved
end Go.Proofs.Ytgjglkakhmikjaa.pickUnitsMatchSpec
