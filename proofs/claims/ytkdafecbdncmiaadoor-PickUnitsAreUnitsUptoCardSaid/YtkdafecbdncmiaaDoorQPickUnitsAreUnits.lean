/- Proved: PickUnitsAreUnits returns true for every input whose reading is of bulk at most 1048576, and every argument reads afterwards as it read before. -/
import Derived.Test.YtkdafecbdncmiaaDoorCards
import Derived.Test.YtkdafecbdncmiaaDoorTie
import Derived.Test.YtkdafecbdncmiaaDoorKPickUnitsAreUnits6
namespace Go.Proofs.YtkdafecbdncmiaaDoor.pickUnitsAreUnits
open Go.ChangeShapes Go.WideShapes Go.ChangeAt Go.RowKit
set_option linter.unusedVariables false

theorem table {W : World} (h : laidMetH Tryd.prog Rows.pickUnitsAreUnitsUptoRow.laid W) : Lib.TabIs Tryd.prog W "internal/strconv.uint64pow10" .u64 Lib.pow10Tab := by
  obtain ⟨ps, ⟨_, _, _, _, _, _, _, _, _, _, ⟨_, _, _, _, _, _, _, _, _, _, ⟨g', t', cs, fuel, p, q, hg', ht', hvar, hd, _, _⟩, _⟩, _⟩, _⟩ : laidMet Tryd.prog Rows.pickUnitsAreUnitsUptoRow.laid W := h
  obtain rfl := Option.some.inj (gPow.symm.trans hg')
  obtain rfl := Option.some.inj (typePow.symm.trans ht')
  unfold Lib.TabIs
  rw [hvar, ← Lib.cells_of_tab (zs := Lib.pow10Tab) (k := .u64) Tryd.underlying170 Tryd.underlying157 (by kernel_rfl) (by kernel_rfl) hd]
noncomputable def laidWorld (os : Os) : World :=
  { World.holding Tryd.prog os ⟨#[], #[], []⟩ with heap := (((World.holding Tryd.prog os ⟨#[], #[], []⟩).heap.modify 2 (layD Rows.laid_math_bits_deBruijn32tab)).modify 3 (layD Rows.laid_math_bits_deBruijn64tab)).modify 1 (layD Rows.laid_internal_strconv_uint64pow10) }
abbrev wArgs : Array Value := #[.agg #[.slice none 0 0, .slice none 0 0], .slice none 0 0, .slice none 0 0, .agg #[.int .i64 0, .int .i64 0, .int .i64 0, .slice none 0 0]]
theorem laid_met (os : Os) : laidMet Tryd.prog Rows.pickUnitsAreUnitsUptoRow.laid ((laidWorld os).forCall (fun _ _ => 0) ⟨#[], wArgs, []⟩).memory :=
  laidMet_of_run' 8 (by kernel_rfl) (by kernel_rfl)
set_option maxRecDepth 100000 in
theorem contract (H : Type) (enc : TypeId × Value → H) (W : World) (base0 : Nat) (args : Array Value) (ds gs : List (DataW H)) (before : List MemPlace)
    (hval0 : ∀ (j : Nat) t v, Tryd.f4.params[j]? = some t → args[j]? = some v → Value.okWide Tryd.prog W .any base0 t v)
    (hW : DataW.Whole enc Tryd.prog Tryd.f4.params.toList Rows.pickUnitsAreUnitsSpec.vars false W args.toList ds gs before) (hk : Rows.uptoSmall H (ds ++ gs) = true) (hL : laidMetH Tryd.prog Rows.pickUnitsAreUnitsUptoRow.laid W) :
    Calls Tryd.prog 4 args W fun e W' => ∃ v, e = .returned v ∧ Rows.pickUnitsAreUnitsSpec.post enc Tryd.prog Tryd.f4 false true false false W args v W' := by
  have hk : Rows.uptoBulkAll (ds ++ gs) ≤ 1048576 := of_decide_eq_true hk
  have hval : ∀ (j : Nat) t v, Tryd.f4.params[j]? = some t → args[j]? = some v → Value.okWide Tryd.prog W .any base0 t v := hval0
  have hW' := hW
  obtain ⟨p, q, hA0, hV, rfl, hfz, hnd⟩ := hW
  have hA : DataW.TrodAll enc Tryd.prog W 0 (fun _ => true) true Tryd.f4.params.toList args.toList ds p := hA0
  rw [Tryd.params4] at hA hval
  obtain ⟨v0, vs0, d0, ds0, p0, q0, hargs, rfl, rfl, h0, r0⟩ := trodAll_cons hA
  obtain ⟨v1, vs1, d1, ds1, p1, q1, rfl, rfl, rfl, h1, r1⟩ := trodAll_cons r0
  obtain ⟨v2, vs2, d2, ds2, p2, q2, rfl, rfl, rfl, h2, r2⟩ := trodAll_cons r1
  obtain ⟨v3, vs3, d3, ds3, p3, q3, rfl, rfl, rfl, h3, r3⟩ := trodAll_cons r2
  obtain ⟨rfl, rfl, rfl⟩ := trodAll_nil r3
  obtain rfl : args = #[v0, v1, v2, v3] := by cases args; simp_all
  obtain ⟨rfl, rfl⟩ := trodVars_none hV
  simp only [List.append_nil, Rows.uptoBulkAll] at hk
  obtain ⟨cs0, rfl, hsz0⟩ := okWide_struct Tryd.underlying33 (hval 0 33 v0 rfl rfl)
  obtain ⟨fu0, hf0⟩ := h0
  obtain ⟨a0, kk0, bb0⟩ := reads_rig trivial hf0
  obtain ⟨rr0, oo0⟩ := rp_agg (c := base W) (rp_Rig (base_X W)) kk0
  obtain ⟨sa1, sl1, sc1, rfl⟩ := okWide_slice Tryd.underlying34 (hval 1 34 v1 rfl rfl)
  obtain ⟨fu1, hf1⟩ := h1
  obtain ⟨a1, kk1, bb1⟩ := reads_groups fu1 (Nat.le_refl _) hf1
  obtain ⟨rr1, oo1, _⟩ := rp_slice (c := base W) (base_X W) (rp_group (base_X W) fu1) (sz := 5) rfl (by decide) kk1
  have gg1 : okG a1 := okG_of oo1.1 (Nat.le_trans (Nat.le_trans (groups_bulk kk1) bb1) (show Rows.uptoBulk d1 ≤ 1048576 by omega))
  obtain ⟨sa2, sl2, sc2, rfl⟩ := okWide_slice Tryd.underlying35 (hval 2 35 v2 rfl rfl)
  obtain ⟨fu2, hf2⟩ := h2
  obtain ⟨a2, kk2, bb2⟩ := reads_presets trivial hf2
  obtain ⟨rr2, oo2, _⟩ := rp_slice (c := base W) (base_X W) (rp_Preset (base_X W)) (sz := 3) rfl (by decide) kk2
  obtain ⟨cs3, rfl, hsz3⟩ := okWide_struct Tryd.underlying24 (hval 3 24 v3 rfl rfl)
  obtain ⟨fu3, hf3⟩ := h3
  obtain ⟨a3, kk3, bb3⟩ := reads_pick fu3 (Nat.le_refl _) hf3
  obtain ⟨rr3, oo3⟩ := rp_agg (c := base W) (rp_pick (base_X W) fu3) kk3
  have gg3 : pSize a3 ≤ 1500000 := Nat.le_trans (Nat.le_trans (Nat.le_trans (pick_bulk fu3 kk3) bb3) (show Rows.uptoBulk d3 ≤ 1048576 by omega)) (by decide)
  refine (law_runT s_W4_PickUnitsAreUnits Tryd.call4 W (tabOk_of (table hL)) _ (repL_cons rr0 (repL_cons rr1 (repL_cons rr2 (repL_cons rr3 repL_nil)))) (h_W4_PickUnitsAreUnits (pickUnitsAreUnits_true a0 a1 a2 a3 oo0 gg1 oo2 gg3))).mono fun e W' ⟨he, hb⟩ => ⟨_, he, ?_⟩
  exact law_post (by kernel_rfl) (by kernel_rfl) Tryd.underlying4 rfl hW' hb rfl

set_option maxRecDepth 100000 in
theorem lifted (os : Os) (started : os.Started) (H : Type) (enc : TypeId × Value → H) (F : Stop.Interp) :
    ReturnsInHanded {} Tryd.checked os 4 .any ((Rows.OpenSpec.upto Rows.pickUnitsAreUnitsSpec).preRow enc Tryd.prog Tryd.f4 Rows.pickUnitsAreUnitsUptoRow.domain false Rows.pickUnitsAreUnitsUptoRow.laid) (((Rows.OpenSpec.upto Rows.pickUnitsAreUnitsSpec).at F).post enc Tryd.prog Tryd.f4 false true false false) := by
  have hx : DataW.whole enc Tryd.prog ((laidWorld os).forCall (fun _ _ => 0) ⟨#[], wArgs, []⟩).memory Tryd.f4.params.toList Rows.pickUnitsAreUnitsSpec.vars false wArgs.toList 8 = some ([.agg [.nil, .nil], .nil, .nil, .agg [.lit (.int .i64 0), .lit (.int .i64 0), .lit (.int .i64 0), .nil]], [], []) := by kernel_rfl
  refine returnsInHanded_of_row (C := Tryd.checked) (s := (Rows.OpenSpec.upto Rows.pickUnitsAreUnitsSpec)) own started (by kernel_rfl) Tryd.func4
    (witness_row_at (enc := enc) (C := Tryd.checked) false (laidWorld os) wArgs rfl (by kernel_rfl) (by kernel_rfl) (by kernel_rfl)
      (OpenSpec.preRow_of_cond 8 hx (by kernel_rfl) (fun k hk => by cases hk; kernel_rfl) (by kernel_rfl) (laid_met os))) ?_
  intro W base args ds gs before hval hW _ hcond _ hL _ _
  exact contract H enc W base args ds gs before hval hW (hcond _ rfl) hL

theorem said : Rows.PickUnitsAreUnitsUptoSaid :=
  OpenClaim.holds_of_cond 4 Tryd.f4 rfl rfl rfl rfl rfl rfl rfl ⟨rfl, rfl, rfl, rfl, rfl⟩ rfl rfl rfl rfl rfl (by kernel_rfl) Tryd.func4 (by kernel_rfl)
    (of_decide_eq_true (by kernel_rfl)) (by unfold Func.isWrapper; first | (rw [if_pos (by decide +kernel)]; kernel_rfl) | (rw [if_neg (by decide +kernel)]; exact ⟨rfl, rfl⟩))
    (fun os started H enc _ F => by rw [OpenClaim.pre_eq_preRow]; exact lifted os started H enc F)

theorem plain (f : FuncId) (fn : Func) (hf : Tryd.pinned.checked.prog.funcNamed "cyclorama/cycloramalaw4.PickUnitsAreUnits" = some f) (hfn : Tryd.pinned.checked.prog.funcs[f]? = some fn) :
    true = Tryd.pinned.checked.prog.looks [] ∧ ∀ (j : Nat) t, fn.params[j]? = some t → Tryd.pinned.checked.prog.wantsStandIn t = false := by
  obtain rfl : f = 4 := Option.some.inj ((show Tryd.prog.funcNamed "cyclorama/cycloramalaw4.PickUnitsAreUnits" = some 4 by kernel_rfl).symm.trans hf) |>.symm
  obtain rfl : fn = Tryd.f4 := (Option.some.inj (Tryd.func4.symm.trans hfn)).symm
  refine ⟨by kernel_rfl, fun j t ht => ?_⟩
  rw [Tryd.params4] at ht
  have hm : t = 33 ∨ t = 34 ∨ t = 35 ∨ t = 24 := by simpa using Array.mem_of_getElem? ht
  rcases hm with rfl | rfl | rfl | rfl
  · exact (show Tryd.prog.wantsStandIn 33 = false by kernel_rfl)
  · exact (show Tryd.prog.wantsStandIn 34 = false by kernel_rfl)
  · exact (show Tryd.prog.wantsStandIn 35 = false by kernel_rfl)
  · exact (show Tryd.prog.wantsStandIn 24 = false by kernel_rfl)

theorem proved : Rows.PickUnitsAreUnitsUptoCardSaid :=
  Claim7.holds_tied_plain_at .later [] _ _ _ _ said (fun _ h => by cases h) (by kernel_rfl) (fun _ h => by cases h) pickUnitsAreUnitsUpto_row_tie rfl ⟨rfl, rfl⟩ (by kernel_rfl) rfl plain (by kernel_rfl)
#print axioms proved
end Go.Proofs.YtkdafecbdncmiaaDoor.pickUnitsAreUnits
