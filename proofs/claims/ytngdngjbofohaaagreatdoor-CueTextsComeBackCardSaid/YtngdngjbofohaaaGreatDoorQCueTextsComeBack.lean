/- Proved: CueTextsComeBack returns true for every input, and every argument reads afterwards as it read before. No condition. -/
import Derived.Test.YtngdngjbofohaaaGreatDoorCards
import Derived.Test.YtngdngjbofohaaaGreatDoorTie
import Derived.Deep.DeepLaidRun
import Derived.Test.YtngdngjbofohaaaGreatDoorKCueTextsComeBack5
namespace Go.Proofs.YtngdngjbofohaaaGreatDoor.cueTextsComeBack
open Go.ChangeShapes Go.WideShapes Go.ChangeAt Go.RowKit
set_option linter.unusedVariables false

theorem table {W : World} (h : laidMetH Tryz.prog Rows.cueTextsComeBackRow.laid W) : Lib.TabIs Tryz.prog W "internal/strconv.uint64pow10" .u64 Lib.pow10Tab := by
  obtain ⟨ps, ⟨_, _, _, _, _, _, _, _, _, _, ⟨_, _, _, _, _, _, _, _, _, _, ⟨g', t', cs, fuel, p, q, hg', ht', ajy, hd, _, _⟩, _⟩, _⟩, _⟩ : laidMet Tryz.prog Rows.cueTextsComeBackRow.laid W := h
  obtain rfl := Option.some.inj (OG.symm.trans hg')
  obtain rfl := Option.some.inj (afU.symm.trans ht')
  unfold Lib.TabIs
  rw [ajy, ← Lib.cells_of_tab (zs := Lib.pow10Tab) (k := .u64) Tryz.underlying207 Tryz.underlying187 (by kernel_rfl) (by kernel_rfl) hd]
noncomputable def low : Nat := (World.holding Tryz.prog default ⟨#[], #[], []⟩).heap.size
def XZ (t : TypeId) (b : Nat) : Obj → Obj
  | .cells _ t0 fr => .cells #[.iface t (.pointer (some ⟨b, 0, none⟩))] t0 fr
  | o => o
noncomputable def Mh (os : Os) : World :=
  { World.holding Tryz.prog os ⟨#[.cells #[.string ⟨#[118, 97, 108, 117, 101, 32, 111, 117, 116, 32, 111, 102, 32, 114, 97, 110, 103, 101]⟩] 236, .cells #[.string ⟨#[105, 110, 118, 97, 108, 105, 100, 32, 115, 121, 110, 116, 97, 120]⟩] 236], #[], []⟩ with heap := (((((((World.holding Tryz.prog os ⟨#[.cells #[.string ⟨#[118, 97, 108, 117, 101, 32, 111, 117, 116, 32, 111, 102, 32, 114, 97, 110, 103, 101]⟩] 236, .cells #[.string ⟨#[105, 110, 118, 97, 108, 105, 100, 32, 115, 121, 110, 116, 97, 120]⟩] 236], #[], []⟩).heap.modify 6 (D6 Rows.laid_math_bits_deBruijn32tab)).modify 7 (D6 Rows.laid_math_bits_deBruijn64tab)).modify 1 (D6 Rows.laid_internal_strconv_uint64pow10)).modify 5 (D6 Rows.laid_unicode_utf8_acceptRanges)).modify 4 (D6 Rows.laid_unicode_utf8_first)).modify 3 (XZ 234 (low + 0))).modify 2 (XZ 234 (low + 1)) }
abbrev IM : Array Value := #[.agg #[.slice none 0 0, .slice none 0 0], .slice none 0 0, .slice none 0 0]
theorem aei (os : Os) : laidMet Tryz.prog Rows.cueTextsComeBackRow.laid ((Mh os).forCall (fun _ _ => 0) ⟨#[], IM, []⟩).memory :=
  laidMet_of_run3 8 (by kernel_rfl) (by kernel_rfl) (by kernel_rfl)
set_option maxRecDepth 100000 in
theorem contract (H : Type) (enc : TypeId × Value → H) (W : World) (WG : Nat) (args : Array Value) (ds gs : List (DataW H)) (before : List MemPlace)
    (hval0 : ∀ (j : Nat) t v, Tryz.f3.params[j]? = some t → args[j]? = some v → Value.okWide Tryz.prog W .any WG t v)
    (hW : DataW.Whole enc Tryz.prog Tryz.f3.params.toList Rows.cueTextsComeBackSpec.vars false W args.toList ds gs before) (hL : laidMetH Tryz.prog Rows.cueTextsComeBackRow.laid W) (hsh : W.ShapedOpen Tryz.prog) :
    Calls Tryz.prog 3 args W fun e W' => ∃ v, e = .returned v ∧ Rows.cueTextsComeBackSpec.post enc Tryz.prog Tryz.f3 false true false false W args v W' := by
  have hval : ∀ (j : Nat) t v, Tryz.f3.params[j]? = some t → args[j]? = some v → Value.okWide Tryz.prog W .any WG t v := hval0
  have Jp := hW
  obtain ⟨p, q, hA0, hV, rfl, hfz, hnd⟩ := hW
  have hA : DataW.TrodAll enc Tryz.prog W 0 (fun _ => true) true Tryz.f3.params.toList args.toList ds p := hA0
  rw [Tryz.params3] at hA hval
  obtain ⟨v0, yq, d0, ds0, p0, q0, hargs, rfl, rfl, h0, r0⟩ := trodAll_cons hA
  obtain ⟨v1, vs1, d1, ds1, p1, q1, rfl, rfl, rfl, h1, r1⟩ := trodAll_cons r0
  obtain ⟨v2, vs2, d2, ds2, p2, q2, rfl, rfl, rfl, h2, r2⟩ := trodAll_cons r1
  obtain ⟨rfl, rfl, rfl⟩ := trodAll_nil r2
  obtain rfl : args = #[v0, v1, v2] := by cases args; simp_all
  obtain ⟨rfl, rfl⟩ := trodVars_none hV
  obtain ⟨cs0, rfl, amJ⟩ := okWide_struct Tryz.underlying25 (hval 0 25 v0 rfl rfl)
  obtain ⟨fu0, Fw⟩ := h0
  obtain ⟨a0, kk0, bb0⟩ := ady trivial Fw
  obtain ⟨rr0, oo0⟩ := agF (c := base W) (agE (Db W)) kk0
  obtain ⟨sa1, sl1, sc1, rfl⟩ := okWide_slice Tryz.underlying26 (hval 1 26 v1 rfl rfl)
  obtain ⟨fu1, hf1⟩ := h1
  obtain ⟨a1, kk1, bb1⟩ := aax trivial hf1
  obtain ⟨rr1, oo1, _⟩ := uJ (c := base W) (Db W) (adz (Db W)) (sz := 3) rfl (by decide) kk1
  obtain ⟨sa2, sl2, sc2, rfl⟩ := okWide_slice Tryz.underlying27 (hval 2 27 v2 rfl rfl)
  obtain ⟨fu2, vV⟩ := h2
  obtain ⟨a2, kk2, bb2⟩ := acu trivial vV
  obtain ⟨rr2, oo2, _⟩ := uJ (c := base W) (Db W) (agD (Db W)) (sz := 11) rfl (by decide) kk2
  refine (ael ZC Tryz.call3 W (aeF (table hL) hsh) _ (dN rr0 (dN rr1 (dN rr2 rF))) (ZB (ZA a0 a1 a2 oo0 oo1 oo2))).mono fun e W' ⟨he, hb⟩ => ⟨_, he, ?_⟩
  exact aek (by kernel_rfl) (by kernel_rfl) Tryz.underlying4 rfl Jp hb rfl

set_option maxRecDepth 100000 in
theorem lifted (os : Os) (started : os.Started) (H : Type) (enc : TypeId × Value → H) (F : Stop.Interp) :
    ReturnsInHanded {} Tryz.checked os 3 .any ((OpenSpec.ofChange Rows.cueTextsComeBackSpec).preRow enc Tryz.prog Tryz.f3 Rows.cueTextsComeBackRow.domain false Rows.cueTextsComeBackRow.laid) (((OpenSpec.ofChange Rows.cueTextsComeBackSpec).at F).post enc Tryz.prog Tryz.f3 false true false false) := by
  have hx : DataW.whole enc Tryz.prog ((Mh os).forCall (fun _ _ => 0) ⟨#[], IM, []⟩).memory Tryz.f3.params.toList Rows.cueTextsComeBackSpec.vars false IM.toList 8 = some ([.agg [.nil, .nil], .nil, .nil], [], []) := by kernel_rfl
  refine returnsInHanded_of_row (C := Tryz.checked) (s := (OpenSpec.ofChange Rows.cueTextsComeBackSpec)) own started (by kernel_rfl) Tryz.func3
    (witness_row_at (enc := enc) (C := Tryz.checked) false (Mh os) IM rfl (by kernel_rfl) (by kernel_rfl) (by kernel_rfl)
      (OpenSpec.preRow_of_cond 8 hx (by kernel_rfl) (fun k hk => by cases hk) (by kernel_rfl) (aei os))) ?_
  intro W base args ds gs before hval hW _ WM _ hL hsh _
  exact contract H enc W base args ds gs before hval hW hL hsh

theorem said : Rows.CueTextsComeBackSaid :=
  OpenClaim.holds_of_cond 3 Tryz.f3 rfl rfl rfl rfl rfl rfl rfl ⟨rfl, rfl, rfl, rfl, rfl⟩ rfl rfl rfl rfl rfl (by kernel_rfl) Tryz.func3 (by kernel_rfl)
    (of_decide_eq_true (by kernel_rfl)) (by unfold Func.isWrapper; first | (rw [if_pos (by decide +kernel)]; kernel_rfl) | (rw [if_neg (by decide +kernel)]; exact ⟨rfl, rfl⟩))
    (fun os started H enc _ F => by rw [OpenClaim.pre_eq_preRow]; exact lifted os started H enc F)

theorem plain (f : FuncId) (fn : Func) (hf : Tryz.pinned.checked.prog.funcNamed "cyclorama/cycloramalaw5.CueTextsComeBack" = some f) (hfn : Tryz.pinned.checked.prog.funcs[f]? = some fn) :
    true = Tryz.pinned.checked.prog.looks [] ∧ ∀ (j : Nat) t, fn.params[j]? = some t → Tryz.pinned.checked.prog.wantsStandIn t = false := by
  obtain rfl : f = 3 := Option.some.inj ((show Tryz.prog.funcNamed "cyclorama/cycloramalaw5.CueTextsComeBack" = some 3 by kernel_rfl).symm.trans hf) |>.symm
  obtain rfl : fn = Tryz.f3 := (Option.some.inj (Tryz.func3.symm.trans hfn)).symm
  refine ⟨by kernel_rfl, fun j t ht => ?_⟩
  rw [Tryz.params3] at ht
  have hm : t = 25 ∨ t = 26 ∨ t = 27 := by simpa using Array.mem_of_getElem? ht
  rcases hm with rfl | rfl | rfl
  · exact (show Tryz.prog.wantsStandIn 25 = false by kernel_rfl)
  · exact (show Tryz.prog.wantsStandIn 26 = false by kernel_rfl)
  · exact (show Tryz.prog.wantsStandIn 27 = false by kernel_rfl)

theorem proved : Rows.CueTextsComeBackCardSaid :=
  Claim7.holds_tied_plain_at .later [] _ _ _ _ said (fun _ h => by cases h) (by kernel_rfl) (fun _ h => by cases h) cueTextsComeBack_row_tie rfl ⟨rfl, rfl⟩ (by kernel_rfl) rfl plain (by kernel_rfl)
#print axioms proved
end Go.Proofs.YtngdngjbofohaaaGreatDoor.cueTextsComeBack
