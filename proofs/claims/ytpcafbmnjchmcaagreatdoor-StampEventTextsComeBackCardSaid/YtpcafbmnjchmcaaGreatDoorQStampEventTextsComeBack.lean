/- Proved: StampEventTextsComeBack returns true for every input, and every argument reads afterwards as it read before. No condition. -/
import Derived.Test.YtpcafbmnjchmcaaGreatDoorCards
import Derived.Test.YtpcafbmnjchmcaaGreatDoorTie
import Derived.Deep.DeepLaidRun
import Derived.Test.YtpcafbmnjchmcaaGreatDoorKStampEventTextsComeBack5
namespace Go.Proofs.YtpcafbmnjchmcaaGreatDoor.stampEventTextsComeBack
open Go.ChangeShapes Go.WideShapes Go.ChangeAt Go.RowKit
set_option linter.unusedVariables false

theorem table {W : World} (h : laidMetH Tryz.prog Rows.stampEventTextsComeBackRow.laid W) : Lib.TabIs Tryz.prog W "internal/strconv.uint64pow10" .u64 Lib.pow10Tab := by
  obtain ⟨ps, ⟨_, _, _, _, _, _, _, _, _, _, ⟨_, _, _, _, _, _, _, _, _, _, ⟨g', t', cs, fuel, p, q, hg', ht', aho, hd, _, _⟩, _⟩, _⟩, _⟩ : laidMet Tryz.prog Rows.stampEventTextsComeBackRow.laid W := h
  obtain rfl := Option.some.inj (Nj.symm.trans hg')
  obtain rfl := Option.some.inj (afd.symm.trans ht')
  unfold Lib.TabIs
  rw [aho, ← Lib.cells_of_tab (zs := Lib.pow10Tab) (k := .u64) Tryz.underlying237 Tryz.underlying203 (by kernel_rfl) (by kernel_rfl) hd]
noncomputable def low : Nat := (World.holding Tryz.prog default ⟨#[], #[], []⟩).heap.size
def Vu (t : TypeId) (b : Nat) : Obj → Obj
  | .cells _ t0 fr => .cells #[.iface t (.pointer (some ⟨b, 0, none⟩))] t0 fr
  | o => o
noncomputable def Lw (os : Os) : World :=
  { World.holding Tryz.prog os ⟨#[.cells #[.string ⟨#[118, 97, 108, 117, 101, 32, 111, 117, 116, 32, 111, 102, 32, 114, 97, 110, 103, 101]⟩] 278, .cells #[.string ⟨#[105, 110, 118, 97, 108, 105, 100, 32, 115, 121, 110, 116, 97, 120]⟩] 278], #[], []⟩ with heap := (((((((World.holding Tryz.prog os ⟨#[.cells #[.string ⟨#[118, 97, 108, 117, 101, 32, 111, 117, 116, 32, 111, 102, 32, 114, 97, 110, 103, 101]⟩] 278, .cells #[.string ⟨#[105, 110, 118, 97, 108, 105, 100, 32, 115, 121, 110, 116, 97, 120]⟩] 278], #[], []⟩).heap.modify 8 (DS Rows.laid_math_bits_deBruijn32tab)).modify 9 (DS Rows.laid_math_bits_deBruijn64tab)).modify 3 (DS Rows.laid_internal_strconv_uint64pow10)).modify 5 (DS Rows.laid_unicode_utf8_acceptRanges)).modify 4 (DS Rows.laid_unicode_utf8_first)).modify 7 (Vu 276 (low + 0))).modify 6 (Vu 276 (low + 1)) }
abbrev HH : Array Value := #[.agg #[.slice none 0 0, .slice none 0 0, .slice none 0 0, .slice none 0 0, .slice none 0 0], .int .i64 0, .slice none 0 0, .string ByteArray.empty]
theorem ads (os : Os) : laidMet Tryz.prog Rows.stampEventTextsComeBackRow.laid ((Lw os).forCall (fun _ _ => 0) ⟨#[], HH, []⟩).memory :=
  laidMet_of_run3 8 (by kernel_rfl) (by kernel_rfl) (by kernel_rfl)
set_option maxRecDepth 100000 in
theorem contract (H : Type) (enc : TypeId × Value → H) (W : World) (Um : Nat) (args : Array Value) (ds gs : List (DataW H)) (before : List MemPlace)
    (hval0 : ∀ (j : Nat) t v, Tryz.f3.params[j]? = some t → args[j]? = some v → Value.okWide Tryz.prog W .any Um t v)
    (hW : DataW.Whole enc Tryz.prog Tryz.f3.params.toList Rows.stampEventTextsComeBackSpec.vars false W args.toList ds gs before) (hL : laidMetH Tryz.prog Rows.stampEventTextsComeBackRow.laid W) (hsh : W.ShapedOpen Tryz.prog) :
    Calls Tryz.prog 3 args W fun e W' => ∃ v, e = .returned v ∧ Rows.stampEventTextsComeBackSpec.post enc Tryz.prog Tryz.f3 false true false false W args v W' := by
  have hval : ∀ (j : Nat) t v, Tryz.f3.params[j]? = some t → args[j]? = some v → Value.okWide Tryz.prog W .any Um t v := hval0
  have Im := hW
  obtain ⟨p, q, hA0, hV, rfl, hfz, hnd⟩ := hW
  have hA : DataW.TrodAll enc Tryz.prog W 0 (fun _ => true) true Tryz.f3.params.toList args.toList ds p := hA0
  rw [Tryz.params3] at hA hval
  obtain ⟨v0, yt, d0, ds0, p0, q0, hargs, rfl, rfl, h0, r0⟩ := trodAll_cons hA
  obtain ⟨v1, vs1, d1, ds1, p1, q1, rfl, rfl, rfl, h1, r1⟩ := trodAll_cons r0
  obtain ⟨v2, vs2, d2, ds2, p2, q2, rfl, rfl, rfl, h2, r2⟩ := trodAll_cons r1
  obtain ⟨v3, WC, d3, ds3, p3, q3, rfl, rfl, rfl, h3, r3⟩ := trodAll_cons r2
  obtain ⟨rfl, rfl, rfl⟩ := trodAll_nil r3
  obtain rfl : args = #[v0, v1, v2, v3] := by cases args; simp_all
  obtain ⟨rfl, rfl⟩ := trodVars_none hV
  obtain ⟨cs0, rfl, aiK⟩ := okWide_struct Tryz.underlying30 (hval 0 30 v0 rfl rfl)
  obtain ⟨fu0, Eo⟩ := h0
  obtain ⟨a0, kk0, bb0⟩ := aan trivial Eo
  obtain ⟨rr0, oo0⟩ := afT (c := base W) (adQ (Ts W)) kk0
  obtain ⟨a1, rfl, rfl, rfl, w1⟩ := open_int Tryz.underlying3 (hval 1 3 v1 rfl rfl) h1
  obtain ⟨sa2, sl2, sc2, rfl⟩ := okWide_slice Tryz.underlying31 (hval 2 31 v2 rfl rfl)
  obtain ⟨fu2, wq⟩ := h2
  obtain ⟨a2, kk2, bb2⟩ := ZG trivial wq
  obtain ⟨rr2, oo2, _⟩ := qS (c := base W) (Ts W) adL (sz := 6) rfl (by decide) kk2
  obtain ⟨a3, rfl, rfl, rfl, w3⟩ := Go.ChangeMaps.open_string Tryz.underlying9 (hval 3 9 v3 rfl rfl) h3
  refine (adu Xc Tryz.call3 W (adR (table hL) hsh) _ (cq rr0 (cq (fy _ _) (cq rr2 (cq (vo _) pq)))) (Xb (Xd a0 a1 a2 a3 oo0 (wf_i64 w1) oo2 (afP w3)))).mono fun e W' ⟨he, hb⟩ => ⟨_, he, ?_⟩
  exact adt (by kernel_rfl) (by kernel_rfl) Tryz.underlying4 rfl Im hb rfl

set_option maxRecDepth 100000 in
theorem lifted (os : Os) (started : os.Started) (H : Type) (enc : TypeId × Value → H) (F : Stop.Interp) :
    ReturnsInHanded {} Tryz.checked os 3 .any ((OpenSpec.ofChange Rows.stampEventTextsComeBackSpec).preRow enc Tryz.prog Tryz.f3 Rows.stampEventTextsComeBackRow.domain false Rows.stampEventTextsComeBackRow.laid) (((OpenSpec.ofChange Rows.stampEventTextsComeBackSpec).at F).post enc Tryz.prog Tryz.f3 false true false false) := by
  have hx : DataW.whole enc Tryz.prog ((Lw os).forCall (fun _ _ => 0) ⟨#[], HH, []⟩).memory Tryz.f3.params.toList Rows.stampEventTextsComeBackSpec.vars false HH.toList 8 = some ([.agg [.agg [.nil, .nil], .nil, .nil, .nil], .lit (.int .i64 0), .nil, .lit (.string [])], [], []) := by kernel_rfl
  refine returnsInHanded_of_row (C := Tryz.checked) (s := (OpenSpec.ofChange Rows.stampEventTextsComeBackSpec)) own started (by kernel_rfl) Tryz.func3
    (witness_row_at (enc := enc) (C := Tryz.checked) false (Lw os) HH rfl (by kernel_rfl) (by kernel_rfl) (by kernel_rfl)
      (OpenSpec.preRow_of_cond 8 hx (by kernel_rfl) (fun k hk => by cases hk) (by kernel_rfl) (ads os))) ?_
  intro W base args ds gs before hval hW _ Ut _ hL hsh _
  exact contract H enc W base args ds gs before hval hW hL hsh

theorem said : Rows.StampEventTextsComeBackSaid :=
  OpenClaim.holds_of_cond 3 Tryz.f3 rfl rfl rfl rfl rfl rfl rfl ⟨rfl, rfl, rfl, rfl, rfl⟩ rfl rfl rfl rfl rfl (by kernel_rfl) Tryz.func3 (by kernel_rfl)
    (of_decide_eq_true (by kernel_rfl)) (by unfold Func.isWrapper; first | (rw [if_pos (by decide +kernel)]; kernel_rfl) | (rw [if_neg (by decide +kernel)]; exact ⟨rfl, rfl⟩))
    (fun os started H enc _ F => by rw [OpenClaim.pre_eq_preRow]; exact lifted os started H enc F)

theorem plain (f : FuncId) (fn : Func) (hf : Tryz.pinned.checked.prog.funcNamed "cyclorama/cycloramalaw8.StampEventTextsComeBack" = some f) (hfn : Tryz.pinned.checked.prog.funcs[f]? = some fn) :
    true = Tryz.pinned.checked.prog.looks [] ∧ ∀ (j : Nat) t, fn.params[j]? = some t → Tryz.pinned.checked.prog.wantsStandIn t = false := by
  obtain rfl : f = 3 := Option.some.inj ((show Tryz.prog.funcNamed "cyclorama/cycloramalaw8.StampEventTextsComeBack" = some 3 by kernel_rfl).symm.trans hf) |>.symm
  obtain rfl : fn = Tryz.f3 := (Option.some.inj (Tryz.func3.symm.trans hfn)).symm
  refine ⟨by kernel_rfl, fun j t ht => ?_⟩
  rw [Tryz.params3] at ht
  have hm : t = 30 ∨ t = 3 ∨ t = 31 ∨ t = 9 := by simpa using Array.mem_of_getElem? ht
  rcases hm with rfl | rfl | rfl | rfl
  · exact (show Tryz.prog.wantsStandIn 30 = false by kernel_rfl)
  · exact (show Tryz.prog.wantsStandIn 3 = false by kernel_rfl)
  · exact (show Tryz.prog.wantsStandIn 31 = false by kernel_rfl)
  · exact (show Tryz.prog.wantsStandIn 9 = false by kernel_rfl)

theorem proved : Rows.StampEventTextsComeBackCardSaid :=
  Claim7.holds_tied_plain_at .later [] _ _ _ _ said (fun _ h => by cases h) (by kernel_rfl) (fun _ h => by cases h) stampEventTextsComeBack_row_tie rfl ⟨rfl, rfl⟩ (by kernel_rfl) rfl plain (by kernel_rfl)
#print axioms proved
end Go.Proofs.YtpcafbmnjchmcaaGreatDoor.stampEventTextsComeBack
