/- Parts of the proof of StampDueMatchesSpec, in order. -/
import Derived.Orders
import Derived.Below
import Derived.WalkKit
import Derived.Laws.StructEq
import Derived.Laws.Append
import Derived.Laws.AppendOwn
import Derived.IntWalk
import Derived.Lib.Bytealg
import Derived.Lib.Strings
import Derived.Test.YtohbeolimnpehaaRows
import Derived.KernelRfl
import Derived.Test.YtohbeolimnpehaaShelf
import Derived.WalkSpells
import Derived.ProofKit
import Derived.OpenShut
import Derived.Lib.Hide
import Derived.Lib.SmallJoins
import Derived.Deep.QuietTactic
import Derived.BigQuiet
import Derived.Deep.RegionHeld3
import Derived.Deep.Slices
import Derived.Test.YtohbeolimnpehaaKStampDueMatchesSpec5
/- The codecs of api's types: Lean structures, and what cells hold them. -/
namespace Go.Proofs.Ytohbeolimnpehaa
set_option linter.unusedSectionVars false
open Go.RowKit Go.Deep
set_option linter.unusedVariables false
set_option linter.unusedSimpArgs false


theorem ReadsF.imp {F : Nat → Prop} {P : Program} {α β : Type} {c : Cod α} {d : Cod β} {t : TypeId} (h : ReadsF F P c t) (k : ∀ w cs a, c.is w cs a → ∃ b, d.is w cs b ∧ d.bulk b ≤ c.bulk a) : ReadsF F P d t := by
 intro H enc w base spare held fuel cs x hF h1
 obtain ⟨a, ha, hb⟩ := h hF h1
 obtain ⟨b, h2, h3⟩ := k _ _ _ ha
 exact ⟨b, h2, Nat.le_trans h3 hb⟩
theorem cells_split {α : Type} {cs a b : List α} {n : Nat} (h1 : cs.take n = a) (h2 : cs.drop n = b) : cs = a ++ b := by rw [← h1, ← h2, List.take_append_drop]
def pointC : Cod PointD where
 size := 2
 is := fun w cs x => cs = [.int .i64 x.time, .int .i64 x.way] ∧ inI x.time ∧ inI x.way
 len := fun h => by obtain ⟨rfl, _⟩ := h; rfl
 mono := fun h _ => h
 bulk := fun x => intC.bulk x.time + (intC.bulk x.way)
theorem reads_point : Reads Try.prog pointC 137 :=
 (reads_struct2 (F := fun _ => True) Try.underlying137 (c0 := intC) (c1 := intC) (by kernel_rfl) rfl rfl (by kernel_rfl) (by kernel_rfl) (reads_int Try.underlying3) (reads_int Try.underlying3)).imp fun w cs a h => by
  obtain ⟨a0, a1⟩ := a
  obtain ⟨h0, h1⟩ := h
  obtain ⟨e0, b0⟩ := h0
  obtain ⟨e1, b1⟩ := h1
  have e100 := cells_split e0 e1
  exact ⟨⟨a0, a1⟩, ⟨by rw [e100]; rfl, b0, b1⟩, Nat.le_refl _⟩
theorem reads_points : Reads Try.prog (sliceC pointC) 62 := reads_slice Try.underlying62 (c := pointC) (by kernel_rfl) (by decide) reads_point
def curveC : Cod CurveD where
 size := 2
 is := fun w cs x => ∃ v0 : Value, cs = [.int .i64 x.kind, v0] ∧ inI x.kind ∧ (sliceC pointC).is w [v0] x.points
 len := fun h => by obtain ⟨v0, rfl, _⟩ := h; rfl
 mono := fun {w w' cs x} h g => by obtain ⟨v0, e, h0, h1⟩ := h; exact ⟨v0, e, h0, ((sliceC pointC)).mono h1 g⟩
 bulk := fun x => intC.bulk x.kind + ((sliceC pointC).bulk x.points)
theorem reads_curve : Reads Try.prog curveC 64 :=
 (reads_struct2 (F := fun _ => True) Try.underlying64 (c0 := intC) (c1 := (sliceC pointC)) (by kernel_rfl) rfl rfl (by kernel_rfl) (by kernel_rfl) (reads_int Try.underlying3) reads_points).imp fun w cs a h => by
  obtain ⟨a0, a1⟩ := a
  obtain ⟨h0, h1⟩ := h
  obtain ⟨e0, b0⟩ := h0
  obtain ⟨s1, e1⟩ := List.length_eq_one_iff.1 (((sliceC pointC)).len h1); rw [e1] at h1
  have e100 := cells_split e0 e1
  exact ⟨⟨a0, a1⟩, ⟨s1, by rw [e100]; rfl, b0, h1⟩, Nat.le_refl _⟩
def rangeC : Cod RangeD where
 size := 3
 is := fun w cs x => cs = [.int .i64 x.low, .int .i64 x.high, .string x.name] ∧ inI x.low ∧ inI x.high ∧ x.name.size ≤ maxLen
 len := fun h => by obtain ⟨rfl, _⟩ := h; rfl
 mono := fun h _ => h
 bulk := fun x => intC.bulk x.low + (intC.bulk x.high + (strC.bulk x.name))
theorem reads_range : Reads Try.prog rangeC 152 :=
 (reads_struct3 (F := fun _ => True) Try.underlying152 (c0 := intC) (c1 := intC) (c2 := strC) (by kernel_rfl) rfl rfl rfl (by kernel_rfl) (by kernel_rfl) (by kernel_rfl) (reads_int Try.underlying3) (reads_int Try.underlying3) (reads_str Try.underlying9)).imp fun w cs a h => by
  obtain ⟨a0, a1, a2⟩ := a
  obtain ⟨h0, h1, h2⟩ := h
  obtain ⟨e0, b0⟩ := h0
  obtain ⟨e1, b1⟩ := h1
  obtain ⟨e2, b2⟩ := h2
  have e101 := cells_split e1 e2
  have e100 := cells_split e0 e101
  exact ⟨⟨a0, a1, a2⟩, ⟨by rw [e100]; rfl, b0, b1, b2⟩, Nat.le_refl _⟩
theorem reads_ranges : Reads Try.prog (sliceC rangeC) 94 := reads_slice Try.underlying94 (c := rangeC) (by kernel_rfl) (by decide) reads_range
def paramC : Cod ParamD where
 size := 7
 is := fun w cs x => ∃ v0 : Value, cs = [.string x.name, .int .i64 x.group, .int .i64 x.att, .int .i64 x.fine, .int .i64 x.default, .bool x.snap, v0] ∧ x.name.size ≤ maxLen ∧ inI x.group ∧ inI x.att ∧ inI x.fine ∧ inI x.default ∧ (sliceC rangeC).is w [v0] x.ranges
 len := fun h => by obtain ⟨v0, rfl, _⟩ := h; rfl
 mono := fun {w w' cs x} h g => by obtain ⟨v0, e, h0, h1, h2, h3, h4, h5⟩ := h; exact ⟨v0, e, h0, h1, h2, h3, h4, ((sliceC rangeC)).mono h5 g⟩
 bulk := fun x => strC.bulk x.name + (intC.bulk x.group + (intC.bulk x.att + (intC.bulk x.fine + (intC.bulk x.default + (boolC.bulk x.snap + ((sliceC rangeC).bulk x.ranges))))))
theorem reads_param : Reads Try.prog paramC 96 :=
 (reads_struct7 (F := fun _ => True) Try.underlying96 (c0 := strC) (c1 := intC) (c2 := intC) (c3 := intC) (c4 := intC) (c5 := boolC) (c6 := (sliceC rangeC)) (by kernel_rfl) rfl rfl rfl rfl rfl rfl rfl (by kernel_rfl) (by kernel_rfl) (by kernel_rfl) (by kernel_rfl) (by kernel_rfl) (by kernel_rfl) (by kernel_rfl) (reads_str Try.underlying9) (reads_int Try.underlying3) (reads_int Try.underlying3) (reads_int Try.underlying3) (reads_int Try.underlying3) (reads_bool Try.underlying4) reads_ranges).imp fun w cs a h => by
  obtain ⟨a0, a1, a2, a3, a4, a5, a6⟩ := a
  obtain ⟨h0, h1, h2, h3, h4, h5, h6⟩ := h
  obtain ⟨e0, b0⟩ := h0
  obtain ⟨e1, b1⟩ := h1
  obtain ⟨e2, b2⟩ := h2
  obtain ⟨e3, b3⟩ := h3
  obtain ⟨e4, b4⟩ := h4
  have e5 := h5; simp only [boolC] at e5
  obtain ⟨s6, e6⟩ := List.length_eq_one_iff.1 (((sliceC rangeC)).len h6); rw [e6] at h6
  have e105 := cells_split e5 e6
  have e104 := cells_split e4 e105
  have e103 := cells_split e3 e104
  have e102 := cells_split e2 e103
  have e101 := cells_split e1 e102
  have e100 := cells_split e0 e101
  exact ⟨⟨a0, a1, a2, a3, a4, a5, a6⟩, ⟨s6, by rw [e100]; rfl, b0, b1, b2, b3, b4, h6⟩, Nat.le_refl _⟩
theorem reads_params : Reads Try.prog (sliceC paramC) 118 := reads_slice Try.underlying118 (c := paramC) (by kernel_rfl) (by decide) reads_param
def profileC : Cod ProfileD where
 size := 3
 is := fun w cs x => ∃ v0 : Value, cs = [.string x.name, .int .i64 x.size, v0] ∧ x.name.size ≤ maxLen ∧ inI x.size ∧ (sliceC paramC).is w [v0] x.params
 len := fun h => by obtain ⟨v0, rfl, _⟩ := h; rfl
 mono := fun {w w' cs x} h g => by obtain ⟨v0, e, h0, h1, h2⟩ := h; exact ⟨v0, e, h0, h1, ((sliceC paramC)).mono h2 g⟩
 bulk := fun x => strC.bulk x.name + (intC.bulk x.size + ((sliceC paramC).bulk x.params))
theorem reads_profile : Reads Try.prog profileC 120 :=
 (reads_struct3 (F := fun _ => True) Try.underlying120 (c0 := strC) (c1 := intC) (c2 := (sliceC paramC)) (by kernel_rfl) rfl rfl rfl (by kernel_rfl) (by kernel_rfl) (by kernel_rfl) (reads_str Try.underlying9) (reads_int Try.underlying3) reads_params).imp fun w cs a h => by
  obtain ⟨a0, a1, a2⟩ := a
  obtain ⟨h0, h1, h2⟩ := h
  obtain ⟨e0, b0⟩ := h0
  obtain ⟨e1, b1⟩ := h1
  obtain ⟨s2, e2⟩ := List.length_eq_one_iff.1 (((sliceC paramC)).len h2); rw [e2] at h2
  have e101 := cells_split e1 e2
  have e100 := cells_split e0 e101
  exact ⟨⟨a0, a1, a2⟩, ⟨s2, by rw [e100]; rfl, b0, b1, h2⟩, Nat.le_refl _⟩
theorem reads_profiles : Reads Try.prog (sliceC profileC) 22 := reads_slice Try.underlying22 (c := profileC) (by kernel_rfl) (by decide) reads_profile
def unitC : Cod UnitD where
 size := 4
 is := fun w cs x => cs = [.int .i64 x.number, .string x.profile, .int .i64 x.univ, .int .i64 x.address] ∧ inI x.number ∧ x.profile.size ≤ maxLen ∧ inI x.univ ∧ inI x.address
 len := fun h => by obtain ⟨rfl, _⟩ := h; rfl
 mono := fun h _ => h
 bulk := fun x => intC.bulk x.number + (strC.bulk x.profile + (intC.bulk x.univ + (intC.bulk x.address)))
theorem reads_unit : Reads Try.prog unitC 117 :=
 (reads_struct4 (F := fun _ => True) Try.underlying117 (c0 := intC) (c1 := strC) (c2 := intC) (c3 := intC) (by kernel_rfl) rfl rfl rfl rfl (by kernel_rfl) (by kernel_rfl) (by kernel_rfl) (by kernel_rfl) (reads_int Try.underlying3) (reads_str Try.underlying9) (reads_int Try.underlying3) (reads_int Try.underlying3)).imp fun w cs a h => by
  obtain ⟨a0, a1, a2, a3⟩ := a
  obtain ⟨h0, h1, h2, h3⟩ := h
  obtain ⟨e0, b0⟩ := h0
  obtain ⟨e1, b1⟩ := h1
  obtain ⟨e2, b2⟩ := h2
  obtain ⟨e3, b3⟩ := h3
  have e102 := cells_split e2 e3
  have e101 := cells_split e1 e102
  have e100 := cells_split e0 e101
  exact ⟨⟨a0, a1, a2, a3⟩, ⟨by rw [e100]; rfl, b0, b1, b2, b3⟩, Nat.le_refl _⟩
theorem reads_units : Reads Try.prog (sliceC unitC) 23 := reads_slice Try.underlying23 (c := unitC) (by kernel_rfl) (by decide) reads_unit
def rigC : Cod RigD where
 size := 2
 is := fun w cs x => ∃ v0 v1 : Value, cs = [v0, v1] ∧ (sliceC profileC).is w [v0] x.library ∧ (sliceC unitC).is w [v1] x.units
 len := fun h => by obtain ⟨v0, v1, rfl, _⟩ := h; rfl
 mono := fun {w w' cs x} h g => by obtain ⟨v0, v1, e, h0, h1⟩ := h; exact ⟨v0, v1, e, ((sliceC profileC)).mono h0 g, ((sliceC unitC)).mono h1 g⟩
 bulk := fun x => (sliceC profileC).bulk x.library + ((sliceC unitC).bulk x.units)
theorem reads_rig : Reads Try.prog rigC 25 :=
 (reads_struct2 (F := fun _ => True) Try.underlying25 (c0 := (sliceC profileC)) (c1 := (sliceC unitC)) (by kernel_rfl) rfl rfl (by kernel_rfl) (by kernel_rfl) reads_profiles reads_units).imp fun w cs a h => by
  obtain ⟨a0, a1⟩ := a
  obtain ⟨h0, h1⟩ := h
  obtain ⟨s0, e0⟩ := List.length_eq_one_iff.1 (((sliceC profileC)).len h0); rw [e0] at h0
  obtain ⟨s1, e1⟩ := List.length_eq_one_iff.1 (((sliceC unitC)).len h1); rw [e1] at h1
  have e100 := cells_split e0 e1
  exact ⟨⟨a0, a1⟩, ⟨s0, s1, by rw [e100]; rfl, h0, h1⟩, Nat.le_refl _⟩
def keyC : Cod KeyD where
 size := 2
 is := fun w cs x => cs = [.int .i64 x.unit, .string x.param] ∧ inI x.unit ∧ x.param.size ≤ maxLen
 len := fun h => by obtain ⟨rfl, _⟩ := h; rfl
 mono := fun h _ => h
 bulk := fun x => intC.bulk x.unit + (strC.bulk x.param)
theorem reads_key : Reads Try.prog keyC 91 :=
 (reads_struct2 (F := fun _ => True) Try.underlying91 (c0 := intC) (c1 := strC) (by kernel_rfl) rfl rfl (by kernel_rfl) (by kernel_rfl) (reads_int Try.underlying3) (reads_str Try.underlying9)).imp fun w cs a h => by
  obtain ⟨a0, a1⟩ := a
  obtain ⟨h0, h1⟩ := h
  obtain ⟨e0, b0⟩ := h0
  obtain ⟨e1, b1⟩ := h1
  have e100 := cells_split e0 e1
  exact ⟨⟨a0, a1⟩, ⟨by rw [e100]; rfl, b0, b1⟩, Nat.le_refl _⟩
def settingC : Cod SettingD where
 size := 3
 is := fun w cs x => cs = [.int .i64 x.key.unit, .string x.key.param, .int .i64 x.level] ∧ inI x.key.unit ∧ x.key.param.size ≤ maxLen ∧ inI x.level
 len := fun h => by obtain ⟨rfl, _⟩ := h; rfl
 mono := fun h _ => h
 bulk := fun x => keyC.bulk x.key + (intC.bulk x.level)
theorem reads_setting : Reads Try.prog settingC 93 :=
 (reads_struct2 (F := fun _ => True) Try.underlying93 (c0 := keyC) (c1 := intC) (by kernel_rfl) rfl rfl (by kernel_rfl) (by kernel_rfl) reads_key (reads_int Try.underlying3)).imp fun w cs a h => by
  obtain ⟨a0, a1⟩ := a
  obtain ⟨h0, h1⟩ := h
  obtain ⟨e0, b0⟩ := h0
  obtain ⟨b0_0, b0_1⟩ := b0
  obtain ⟨e1, b1⟩ := h1
  have e100 := cells_split e0 e1
  exact ⟨⟨a0, a1⟩, ⟨by rw [e100]; rfl, b0_0, b0_1, b1⟩, Nat.le_refl _⟩
theorem reads_settings : Reads Try.prog (sliceC settingC) 86 := reads_slice Try.underlying86 (c := settingC) (by kernel_rfl) (by decide) reads_setting
def presetC : Cod PresetD where
 size := 3
 is := fun w cs x => ∃ v0 : Value, cs = [.int .i64 x.number, .string x.title, v0] ∧ inI x.number ∧ x.title.size ≤ maxLen ∧ (sliceC settingC).is w [v0] x.settings
 len := fun h => by obtain ⟨v0, rfl, _⟩ := h; rfl
 mono := fun {w w' cs x} h g => by obtain ⟨v0, e, h0, h1, h2⟩ := h; exact ⟨v0, e, h0, h1, ((sliceC settingC)).mono h2 g⟩
 bulk := fun x => intC.bulk x.number + (strC.bulk x.title + ((sliceC settingC).bulk x.settings))
theorem reads_preset : Reads Try.prog presetC 88 :=
 (reads_struct3 (F := fun _ => True) Try.underlying88 (c0 := intC) (c1 := strC) (c2 := (sliceC settingC)) (by kernel_rfl) rfl rfl rfl (by kernel_rfl) (by kernel_rfl) (by kernel_rfl) (reads_int Try.underlying3) (reads_str Try.underlying9) reads_settings).imp fun w cs a h => by
  obtain ⟨a0, a1, a2⟩ := a
  obtain ⟨h0, h1, h2⟩ := h
  obtain ⟨e0, b0⟩ := h0
  obtain ⟨e1, b1⟩ := h1
  obtain ⟨s2, e2⟩ := List.length_eq_one_iff.1 (((sliceC settingC)).len h2); rw [e2] at h2
  have e101 := cells_split e1 e2
  have e100 := cells_split e0 e101
  exact ⟨⟨a0, a1, a2⟩, ⟨s2, by rw [e100]; rfl, b0, b1, h2⟩, Nat.le_refl _⟩
theorem reads_presets : Reads Try.prog (sliceC presetC) 26 := reads_slice Try.underlying26 (c := presetC) (by kernel_rfl) (by decide) reads_preset
def valueC : Cod ValueD where
 size := 2
 is := fun w cs x => cs = [.int .i64 x.level, .int .i64 x.preset] ∧ inI x.level ∧ inI x.preset
 len := fun h => by obtain ⟨rfl, _⟩ := h; rfl
 mono := fun h _ => h
 bulk := fun x => intC.bulk x.level + (intC.bulk x.preset)
theorem reads_value : Reads Try.prog valueC 103 :=
 (reads_struct2 (F := fun _ => True) Try.underlying103 (c0 := intC) (c1 := intC) (by kernel_rfl) rfl rfl (by kernel_rfl) (by kernel_rfl) (reads_int Try.underlying3) (reads_int Try.underlying3)).imp fun w cs a h => by
  obtain ⟨a0, a1⟩ := a
  obtain ⟨h0, h1⟩ := h
  obtain ⟨e0, b0⟩ := h0
  obtain ⟨e1, b1⟩ := h1
  have e100 := cells_split e0 e1
  exact ⟨⟨a0, a1⟩, ⟨by rw [e100]; rfl, b0, b1⟩, Nat.le_refl _⟩
def moveC : Cod MoveD where
 size := 8
 is := fun w cs x => cs = [.int .i64 x.key.unit, .string x.key.param, .int .i64 x.value.level, .int .i64 x.value.preset, .bool x.release, .bool x.timed, .int .i64 x.delay, .int .i64 x.time] ∧ inI x.key.unit ∧ x.key.param.size ≤ maxLen ∧ inI x.value.level ∧ inI x.value.preset ∧ inI x.delay ∧ inI x.time
 len := fun h => by obtain ⟨rfl, _⟩ := h; rfl
 mono := fun h _ => h
 bulk := fun x => keyC.bulk x.key + (valueC.bulk x.value + (boolC.bulk x.release + (boolC.bulk x.timed + (intC.bulk x.delay + (intC.bulk x.time)))))
theorem reads_move : Reads Try.prog moveC 105 :=
 (reads_struct6 (F := fun _ => True) Try.underlying105 (c0 := keyC) (c1 := valueC) (c2 := boolC) (c3 := boolC) (c4 := intC) (c5 := intC) (by kernel_rfl) rfl rfl rfl rfl rfl rfl (by kernel_rfl) (by kernel_rfl) (by kernel_rfl) (by kernel_rfl) (by kernel_rfl) (by kernel_rfl) reads_key reads_value (reads_bool Try.underlying4) (reads_bool Try.underlying4) (reads_int Try.underlying3) (reads_int Try.underlying3)).imp fun w cs a h => by
  obtain ⟨a0, a1, a2, a3, a4, a5⟩ := a
  obtain ⟨h0, h1, h2, h3, h4, h5⟩ := h
  obtain ⟨e0, b0⟩ := h0
  obtain ⟨b0_0, b0_1⟩ := b0
  obtain ⟨e1, b1⟩ := h1
  obtain ⟨b1_0, b1_1⟩ := b1
  have e2 := h2; simp only [boolC] at e2
  have e3 := h3; simp only [boolC] at e3
  obtain ⟨e4, b4⟩ := h4
  obtain ⟨e5, b5⟩ := h5
  have e104 := cells_split e4 e5
  have e103 := cells_split e3 e104
  have e102 := cells_split e2 e103
  have e101 := cells_split e1 e102
  have e100 := cells_split e0 e101
  exact ⟨⟨a0, a1, a2, a3, a4, a5⟩, ⟨by rw [e100]; rfl, b0_0, b0_1, b1_0, b1_1, b4, b5⟩, Nat.le_refl _⟩
theorem reads_moves : Reads Try.prog (sliceC moveC) 65 := reads_slice Try.underlying65 (c := moveC) (by kernel_rfl) (by decide) reads_move
def cueC : Cod CueD where
 size := 11
 is := fun w cs x => ∃ v0 v1 : Value, cs = [.int .i64 x.number, .string x.title, .int .i64 x.delay, .int .i64 x.up, .int .i64 x.down, .int .i64 x.other, .int .i64 x.curve.kind, v0, .bool x.block, .int .i64 x.follow, v1] ∧ inI x.number ∧ x.title.size ≤ maxLen ∧ inI x.delay ∧ inI x.up ∧ inI x.down ∧ inI x.other ∧ inI x.curve.kind ∧ (sliceC pointC).is w [v0] x.curve.points ∧ inI x.follow ∧ (sliceC moveC).is w [v1] x.moves
 len := fun h => by obtain ⟨v0, v1, rfl, _⟩ := h; rfl
 mono := fun {w w' cs x} h g => by obtain ⟨v0, v1, e, h0, h1, h2, h3, h4, h5, h6, h7, h8, h9⟩ := h; exact ⟨v0, v1, e, h0, h1, h2, h3, h4, h5, h6, ((sliceC pointC)).mono h7 g, h8, ((sliceC moveC)).mono h9 g⟩
 bulk := fun x => intC.bulk x.number + (strC.bulk x.title + (intC.bulk x.delay + (intC.bulk x.up + (intC.bulk x.down + (intC.bulk x.other + (curveC.bulk x.curve + (boolC.bulk x.block + (intC.bulk x.follow + ((sliceC moveC).bulk x.moves)))))))))
theorem reads_cue : Reads Try.prog cueC 67 :=
 (reads_struct10 (F := fun _ => True) Try.underlying67 (c0 := intC) (c1 := strC) (c2 := intC) (c3 := intC) (c4 := intC) (c5 := intC) (c6 := curveC) (c7 := boolC) (c8 := intC) (c9 := (sliceC moveC)) (by kernel_rfl) rfl rfl rfl rfl rfl rfl rfl rfl rfl rfl (by kernel_rfl) (by kernel_rfl) (by kernel_rfl) (by kernel_rfl) (by kernel_rfl) (by kernel_rfl) (by kernel_rfl) (by kernel_rfl) (by kernel_rfl) (by kernel_rfl) (reads_int Try.underlying3) (reads_str Try.underlying9) (reads_int Try.underlying3) (reads_int Try.underlying3) (reads_int Try.underlying3) (reads_int Try.underlying3) reads_curve (reads_bool Try.underlying4) (reads_int Try.underlying3) reads_moves).imp fun w cs a h => by
  obtain ⟨a0, a1, a2, a3, a4, a5, a6, a7, a8, a9⟩ := a
  obtain ⟨h0, h1, h2, h3, h4, h5, h6, h7, h8, h9⟩ := h
  obtain ⟨e0, b0⟩ := h0
  obtain ⟨e1, b1⟩ := h1
  obtain ⟨e2, b2⟩ := h2
  obtain ⟨e3, b3⟩ := h3
  obtain ⟨e4, b4⟩ := h4
  obtain ⟨e5, b5⟩ := h5
  obtain ⟨s6_0, e6, b6⟩ := h6
  obtain ⟨b6_0, b6_1⟩ := b6
  have e7 := h7; simp only [boolC] at e7
  obtain ⟨e8, b8⟩ := h8
  obtain ⟨s9, e9⟩ := List.length_eq_one_iff.1 (((sliceC moveC)).len h9); rw [e9] at h9
  have e108 := cells_split e8 e9
  have e107 := cells_split e7 e108
  have e106 := cells_split e6 e107
  have e105 := cells_split e5 e106
  have e104 := cells_split e4 e105
  have e103 := cells_split e3 e104
  have e102 := cells_split e2 e103
  have e101 := cells_split e1 e102
  have e100 := cells_split e0 e101
  exact ⟨⟨a0, a1, a2, a3, a4, a5, a6, a7, a8, a9⟩, ⟨s6_0, s9, by rw [e100]; rfl, b0, b1, b2, b3, b4, b5, b6_0, b6_1, b8, h9⟩, Nat.le_refl _⟩
theorem reads_cues : Reads Try.prog (sliceC cueC) 61 := reads_slice Try.underlying61 (c := cueC) (by kernel_rfl) (by decide) reads_cue
def listC : Cod ListD where
 size := 2
 is := fun w cs x => ∃ v0 : Value, cs = [.int .i64 x.number, v0] ∧ inI x.number ∧ (sliceC cueC).is w [v0] x.cues
 len := fun h => by obtain ⟨v0, rfl, _⟩ := h; rfl
 mono := fun {w w' cs x} h g => by obtain ⟨v0, e, h0, h1⟩ := h; exact ⟨v0, e, h0, ((sliceC cueC)).mono h1 g⟩
 bulk := fun x => intC.bulk x.number + ((sliceC cueC).bulk x.cues)
theorem reads_list : Reads Try.prog listC 72 :=
 (reads_struct2 (F := fun _ => True) Try.underlying72 (c0 := intC) (c1 := (sliceC cueC)) (by kernel_rfl) rfl rfl (by kernel_rfl) (by kernel_rfl) (reads_int Try.underlying3) reads_cues).imp fun w cs a h => by
  obtain ⟨a0, a1⟩ := a
  obtain ⟨h0, h1⟩ := h
  obtain ⟨e0, b0⟩ := h0
  obtain ⟨s1, e1⟩ := List.length_eq_one_iff.1 (((sliceC cueC)).len h1); rw [e1] at h1
  have e100 := cells_split e0 e1
  exact ⟨⟨a0, a1⟩, ⟨s1, by rw [e100]; rfl, b0, h1⟩, Nat.le_refl _⟩
theorem reads_lists : Reads Try.prog (sliceC listC) 27 := reads_slice Try.underlying27 (c := listC) (by kernel_rfl) (by decide) reads_list
def playbackC : Cod PlaybackD where
 size := 3
 is := fun w cs x => cs = [.int .i64 x.number, .int .i64 x.list, .int .i64 x.priority] ∧ inI x.number ∧ inI x.list ∧ inI x.priority
 len := fun h => by obtain ⟨rfl, _⟩ := h; rfl
 mono := fun h _ => h
 bulk := fun x => intC.bulk x.number + (intC.bulk x.list + (intC.bulk x.priority))
theorem reads_playback : Reads Try.prog playbackC 75 :=
 (reads_struct3 (F := fun _ => True) Try.underlying75 (c0 := intC) (c1 := intC) (c2 := intC) (by kernel_rfl) rfl rfl rfl (by kernel_rfl) (by kernel_rfl) (by kernel_rfl) (reads_int Try.underlying3) (reads_int Try.underlying3) (reads_int Try.underlying3)).imp fun w cs a h => by
  obtain ⟨a0, a1, a2⟩ := a
  obtain ⟨h0, h1, h2⟩ := h
  obtain ⟨e0, b0⟩ := h0
  obtain ⟨e1, b1⟩ := h1
  obtain ⟨e2, b2⟩ := h2
  have e101 := cells_split e1 e2
  have e100 := cells_split e0 e101
  exact ⟨⟨a0, a1, a2⟩, ⟨by rw [e100]; rfl, b0, b1, b2⟩, Nat.le_refl _⟩
theorem reads_playbacks : Reads Try.prog (sliceC playbackC) 28 := reads_slice Try.underlying28 (c := playbackC) (by kernel_rfl) (by decide) reads_playback
def setupC : Cod SetupD where
 size := 5
 is := fun w cs x => ∃ v0 v1 v2 v3 v4 : Value, cs = [v0, v1, v2, v3, v4] ∧ (sliceC profileC).is w [v0] x.rig.library ∧ (sliceC unitC).is w [v1] x.rig.units ∧ (sliceC presetC).is w [v2] x.presets ∧ (sliceC listC).is w [v3] x.lists ∧ (sliceC playbackC).is w [v4] x.playbacks
 len := fun h => by obtain ⟨v0, v1, v2, v3, v4, rfl, _⟩ := h; rfl
 mono := fun {w w' cs x} h g => by obtain ⟨v0, v1, v2, v3, v4, e, h0, h1, h2, h3, h4⟩ := h; exact ⟨v0, v1, v2, v3, v4, e, ((sliceC profileC)).mono h0 g, ((sliceC unitC)).mono h1 g, ((sliceC presetC)).mono h2 g, ((sliceC listC)).mono h3 g, ((sliceC playbackC)).mono h4 g⟩
 bulk := fun x => rigC.bulk x.rig + ((sliceC presetC).bulk x.presets + ((sliceC listC).bulk x.lists + ((sliceC playbackC).bulk x.playbacks)))
theorem reads_setup : Reads Try.prog setupC 30 :=
 (reads_struct4 (F := fun _ => True) Try.underlying30 (c0 := rigC) (c1 := (sliceC presetC)) (c2 := (sliceC listC)) (c3 := (sliceC playbackC)) (by kernel_rfl) rfl rfl rfl rfl (by kernel_rfl) (by kernel_rfl) (by kernel_rfl) (by kernel_rfl) reads_rig reads_presets reads_lists reads_playbacks).imp fun w cs a h => by
  obtain ⟨a0, a1, a2, a3⟩ := a
  obtain ⟨h0, h1, h2, h3⟩ := h
  obtain ⟨s0_0, s0_1, e0, b0⟩ := h0
  obtain ⟨b0_0, b0_1⟩ := b0
  obtain ⟨s1, e1⟩ := List.length_eq_one_iff.1 (((sliceC presetC)).len h1); rw [e1] at h1
  obtain ⟨s2, e2⟩ := List.length_eq_one_iff.1 (((sliceC listC)).len h2); rw [e2] at h2
  obtain ⟨s3, e3⟩ := List.length_eq_one_iff.1 (((sliceC playbackC)).len h3); rw [e3] at h3
  have e102 := cells_split e2 e3
  have e101 := cells_split e1 e102
  have e100 := cells_split e0 e101
  exact ⟨⟨a0, a1, a2, a3⟩, ⟨s0_0, s0_1, s1, s2, s3, by rw [e100]; rfl, b0_0, b0_1, h1, h2, h3⟩, Nat.le_refl _⟩
def actionC : Cod ActionD where
 size := 5
 is := fun w cs x => cs = [.int .i64 x.time, .int .i64 x.kind, .int .i64 x.playback, .int .i64 x.cue, .int .i64 x.level] ∧ inI x.time ∧ inI x.kind ∧ inI x.playback ∧ inI x.cue ∧ inI x.level
 len := fun h => by obtain ⟨rfl, _⟩ := h; rfl
 mono := fun h _ => h
 bulk := fun x => intC.bulk x.time + (intC.bulk x.kind + (intC.bulk x.playback + (intC.bulk x.cue + (intC.bulk x.level))))
theorem reads_action : Reads Try.prog actionC 37 :=
 (reads_struct5 (F := fun _ => True) Try.underlying37 (c0 := intC) (c1 := intC) (c2 := intC) (c3 := intC) (c4 := intC) (by kernel_rfl) rfl rfl rfl rfl rfl (by kernel_rfl) (by kernel_rfl) (by kernel_rfl) (by kernel_rfl) (by kernel_rfl) (reads_int Try.underlying3) (reads_int Try.underlying3) (reads_int Try.underlying3) (reads_int Try.underlying3) (reads_int Try.underlying3)).imp fun w cs a h => by
  obtain ⟨a0, a1, a2, a3, a4⟩ := a
  obtain ⟨h0, h1, h2, h3, h4⟩ := h
  obtain ⟨e0, b0⟩ := h0
  obtain ⟨e1, b1⟩ := h1
  obtain ⟨e2, b2⟩ := h2
  obtain ⟨e3, b3⟩ := h3
  obtain ⟨e4, b4⟩ := h4
  have e103 := cells_split e3 e4
  have e102 := cells_split e2 e103
  have e101 := cells_split e1 e102
  have e100 := cells_split e0 e101
  exact ⟨⟨a0, a1, a2, a3, a4⟩, ⟨by rw [e100]; rfl, b0, b1, b2, b3, b4⟩, Nat.le_refl _⟩
def eventC : Cod EventD where
 size := 6
 is := fun w cs x => cs = [.int .i64 x.att, .int .i64 x.action.time, .int .i64 x.action.kind, .int .i64 x.action.playback, .int .i64 x.action.cue, .int .i64 x.action.level] ∧ inI x.att ∧ inI x.action.time ∧ inI x.action.kind ∧ inI x.action.playback ∧ inI x.action.cue ∧ inI x.action.level
 len := fun h => by obtain ⟨rfl, _⟩ := h; rfl
 mono := fun h _ => h
 bulk := fun x => intC.bulk x.att + (actionC.bulk x.action)
theorem reads_event : Reads Try.prog eventC 39 :=
 (reads_struct2 (F := fun _ => True) Try.underlying39 (c0 := intC) (c1 := actionC) (by kernel_rfl) rfl rfl (by kernel_rfl) (by kernel_rfl) (reads_int Try.underlying3) reads_action).imp fun w cs a h => by
  obtain ⟨a0, a1⟩ := a
  obtain ⟨h0, h1⟩ := h
  obtain ⟨e0, b0⟩ := h0
  obtain ⟨e1, b1⟩ := h1
  obtain ⟨b1_0, b1_1, b1_2, b1_3, b1_4⟩ := b1
  have e100 := cells_split e0 e1
  exact ⟨⟨a0, a1⟩, ⟨by rw [e100]; rfl, b0, b1_0, b1_1, b1_2, b1_3, b1_4⟩, Nat.le_refl _⟩
theorem reads_events : Reads Try.prog (sliceC eventC) 31 := reads_slice Try.underlying31 (c := eventC) (by kernel_rfl) (by decide) reads_event
end Go.Proofs.Ytohbeolimnpehaa

/- What the codecs of api's types hold, as abstract values. Written by a program. -/
namespace Go.Proofs.Ytohbeolimnpehaa
set_option linter.unusedSectionVars false
open Go.RowKit Go.Deep
set_option linter.unusedVariables false
set_option linter.unusedSimpArgs false
section
variable {c : RC}
theorem repL_nil : RepL c [] [] := by simp [RepL]
theorem repL_cons {a : AV} {v : Value} {l : List AV} {vs : List Value} (h : Rep c a v) (k : RepL c l vs) : RepL c (a :: l) (v :: vs) := by
 simp only [RepL]; exact ⟨v, vs, rfl, h, k⟩
theorem rep_int (k : IntKind) (n : Int) : Rep c (.int k n) (.int k n) := by simp [Rep]
theorem rep_bool (b : Bool) : Rep c (.bool b) (.bool b) := by simp [Rep]
theorem rep_str (s : ByteArray) : Rep c (.str s) (.string s) := by simp [Rep]
/-- What a codec's cells are as abstract values. -/
def RP {α : Type} (c : RC) (d : Cod α) (e : α → List AV) (ok : α → Prop) : Prop := ∀ cs x, d.is c.w cs x → RepL c (e x) cs ∧ ok x ∧ (∀ v ∈ cs, one1 v = true)
theorem repL_len : ∀ {l : List AV} {vs : List Value}, RepL c l vs → l.length = vs.length
 | [], vs, h => by simp only [RepL] at h; subst h; rfl
 | a :: l, vs, h => by
  simp only [RepL] at h
  obtain ⟨v, vs', rfl, _, h⟩ := h
  simp [repL_len h]
theorem repCs_of {b : Nat} : ∀ {l : List AV} {vs : List Value} {off : Nat}, RepL c l vs → (∀ v ∈ vs, one1 v = true) → (∀ j, j < vs.length → c.w.cell? ⟨b, off + j, none⟩ = vs[j]?) → RepCs c b off l
 | [], vs, off, h, _, _ => by simp [RepCs]
 | a :: l, vs, off, h, ho, hc => by
  simp only [RepL] at h
  obtain ⟨v, vs', rfl, h1, h2⟩ := h
  simp only [RepCs]
  refine ⟨⟨v, by simpa using hc 0 (by simp), ho v (by simp), h1⟩, repCs_of h2 (fun v hv => ho v (by simp [hv])) fun j hj => ?_⟩
  have := hc (j + 1) (by simpa using hj)
  rw [show off + 1 + j = off + (j + 1) by omega]
  simpa using this
theorem repEs_of {α : Type} {d : Cod α} {e : α → List AV} {ok : α → Prop} (H : RP c d e ok) {b sz : Nat} (hsz : d.size = sz) : ∀ {l : List α} {off : Nat}, (∀ (i : Nat) (x : α), l[i]? = some x → ∃ cs', (∀ j, j < d.size → c.w.cell? ⟨b, off + (i * d.size + j), none⟩ = cs'[j]?) ∧ d.is c.w cs' x) → RepEs c sz b off (l.map e) ∧ ∀ x ∈ l, ok x
 | [], off, h => by simp [RepEs]
 | x :: l, off, h => by
  obtain ⟨cs, h1, h2⟩ := h 0 x rfl
  obtain ⟨k1, k2, k3⟩ := H cs x h2
  have hl : cs.length = d.size := d.len h2
  obtain ⟨r1, r2⟩ := repEs_of H hsz (l := l) (off := off + sz) (fun i y hy => by
   obtain ⟨cs', q1, q2⟩ := h (i + 1) y (by simpa using hy)
   refine ⟨cs', fun j hj => ?_, q2⟩
   have := q1 j hj
   rw [← hsz]
   rwa [show off + d.size + (i * d.size + j) = off + ((i + 1) * d.size + j) by rw [Nat.succ_mul]; omega])
  refine ⟨?_, fun y hy => ?_⟩
  ·simp only [List.map_cons, RepEs]
   refine ⟨by rw [repL_len k1, hl, hsz], repCs_of k1 k3 fun j hj => ?_, r1⟩
   have := h1 j (by rw [← hl]; exact hj)
   simpa using this
  ·rcases List.mem_cons.1 hy with rfl | hy
   ·exact k2
   ·exact r2 y hy
theorem cell_in {w : World} {b off : Nat} {v : Value} (h : w.cell? ⟨b, off, none⟩ = some v) : b < w.heap.size := by
 rcases Nat.lt_or_ge b w.heap.size with k | k
 ·exact k
 ·simp [World.cell?, Array.getElem?_eq_none k] at h
theorem rp_slice {α : Type} {d : Cod α} {e : α → List AV} {ok : α → Prop} (hX : ∀ b, ¬ c.X b) (H : RP c d e ok) {sz : Nat} (hsz : d.size = sz) (h0 : 0 < sz) {v : Value} {l : List α} (h : (sliceC d).is c.w [v] l) : Rep c (sl sz e l) v ∧ okL ok l ∧ one1 v = true := by
 rcases h with ⟨h1, rfl⟩ | ⟨b, off, sp, cap, h1, h2, h3, h4⟩
 ·simp only [List.cons.injEq, and_true] at h1
  subst h1
  exact ⟨by simp [sl, Rep, h0], ⟨by simp, by simp⟩, rfl⟩
 ·simp only [List.cons.injEq, and_true] at h1
  subst h1
  have hes : sp = none ∨ l = [] := by
   cases l with
   | nil => exact .inr rfl
   | cons x l => exact .inl (h4 0 (by simp)).1
  have hh : ∀ (i : Nat) (x : α), l[i]? = some x → ∃ cs', (∀ j, j < d.size → c.w.cell? ⟨b, off + (i * d.size + j), none⟩ = cs'[j]?) ∧ d.is c.w cs' x := by
   intro i x hx
   obtain ⟨hi, hx⟩ := List.getElem?_eq_some_iff.1 hx
   subst hx
   exact (h4 i hi).2
  obtain ⟨r1, r2⟩ := repEs_of H hsz hh
  refine ⟨?_, ⟨by unfold maxLen at h3; unfold mxl; omega, r2⟩, rfl⟩
  simp only [sl, Rep]
  refine ⟨some ⟨b, off, sp⟩, cap, by simp, by simpa using h2, h0, ?_⟩
  rcases hes with rfl | rfl
  ·cases l with
   | nil => exact .inl rfl
   | cons x l =>
    refine .inr ⟨b, off, rfl, ?_, hX b, r1⟩
    obtain ⟨cs, q1, q2⟩ := hh 0 x rfl
    have hl : cs.length = d.size := d.len q2
    have := q1 0 (by omega)
    obtain ⟨y, hy⟩ : ∃ y, cs[0]? = some y := ⟨cs[0], List.getElem?_eq_getElem (by omega)⟩
    rw [hy] at this
    exact cell_in this
  ·exact .inl rfl
theorem one_nil : ∀ v ∈ ([] : List Value), one1 v = true := by simp
theorem one_cons {v : Value} {vs : List Value} (h : one1 v = true) (k : ∀ x ∈ vs, one1 x = true) : ∀ x ∈ v :: vs, one1 x = true := by
 intro x hx
 rcases List.mem_cons.1 hx with rfl | hx
 ·exact h
 ·exact k x hx
theorem rp_Point : RP c pointC cPoint okPoint := by
 rintro cs x ⟨rfl, h0, h1⟩
 exact ⟨(repL_cons (rep_int _ _) (repL_cons (rep_int _ _) repL_nil)), ⟨h0, h1⟩, (one_cons rfl (one_cons rfl one_nil))⟩
theorem rp_Range : RP c rangeC cRange okRange := by
 rintro cs x ⟨rfl, h0, h1, h2⟩
 exact ⟨(repL_cons (rep_int _ _) (repL_cons (rep_int _ _) (repL_cons (rep_str _) repL_nil))), ⟨h0, h1, (show okS _ by unfold okS mxl; have := h2; unfold maxLen at this; omega)⟩, (one_cons rfl (one_cons rfl (one_cons rfl one_nil)))⟩
theorem rp_Param (hX : ∀ b, ¬ c.X b) : RP c paramC cParam okParam := by
 rintro cs x ⟨v0, rfl, h0, h1, h2, h3, h4, h6⟩
 obtain ⟨r6, o6, n6⟩ := rp_slice hX rp_Range (sz := 3) rfl (by decide) h6
 exact ⟨(repL_cons (rep_str _) (repL_cons (rep_int _ _) (repL_cons (rep_int _ _) (repL_cons (rep_int _ _) (repL_cons (rep_int _ _) (repL_cons (rep_bool _) (repL_cons r6 repL_nil))))))), ⟨(show okS _ by unfold okS mxl; have := h0; unfold maxLen at this; omega), h1, h2, h3, h4, o6⟩, (one_cons rfl (one_cons rfl (one_cons rfl (one_cons rfl (one_cons rfl (one_cons rfl (one_cons n6 one_nil)))))))⟩
theorem rp_Profile (hX : ∀ b, ¬ c.X b) : RP c profileC cProfile okProfile := by
 rintro cs x ⟨v0, rfl, h0, h1, h2⟩
 obtain ⟨r2, o2, n2⟩ := rp_slice hX (rp_Param hX) (sz := 7) rfl (by decide) h2
 exact ⟨(repL_cons (rep_str _) (repL_cons (rep_int _ _) (repL_cons r2 repL_nil))), ⟨(show okS _ by unfold okS mxl; have := h0; unfold maxLen at this; omega), h1, o2⟩, (one_cons rfl (one_cons rfl (one_cons n2 one_nil)))⟩
theorem rp_Unit : RP c unitC cUnit okUnit := by
 rintro cs x ⟨rfl, h0, h1, h2, h3⟩
 exact ⟨(repL_cons (rep_int _ _) (repL_cons (rep_str _) (repL_cons (rep_int _ _) (repL_cons (rep_int _ _) repL_nil)))), ⟨h0, (show okS _ by unfold okS mxl; have := h1; unfold maxLen at this; omega), h2, h3⟩, (one_cons rfl (one_cons rfl (one_cons rfl (one_cons rfl one_nil))))⟩
theorem rp_Setting : RP c settingC cSetting okSetting := by
 rintro cs x ⟨rfl, h0, h1, h2⟩
 exact ⟨(repL_cons (rep_int _ _) (repL_cons (rep_str _) (repL_cons (rep_int _ _) repL_nil))), ⟨⟨h0, (show okS _ by unfold okS mxl; have := h1; unfold maxLen at this; omega)⟩, h2⟩, (one_cons rfl (one_cons rfl (one_cons rfl one_nil)))⟩
theorem rp_Preset (hX : ∀ b, ¬ c.X b) : RP c presetC cPreset okPreset := by
 rintro cs x ⟨v0, rfl, h0, h1, h2⟩
 obtain ⟨r2, o2, n2⟩ := rp_slice hX rp_Setting (sz := 3) rfl (by decide) h2
 exact ⟨(repL_cons (rep_int _ _) (repL_cons (rep_str _) (repL_cons r2 repL_nil))), ⟨h0, (show okS _ by unfold okS mxl; have := h1; unfold maxLen at this; omega), o2⟩, (one_cons rfl (one_cons rfl (one_cons n2 one_nil)))⟩
theorem rp_Move : RP c moveC cMove okMove := by
 rintro cs x ⟨rfl, h0, h1, h2, h3, h6, h7⟩
 exact ⟨(repL_cons (rep_int _ _) (repL_cons (rep_str _) (repL_cons (rep_int _ _) (repL_cons (rep_int _ _) (repL_cons (rep_bool _) (repL_cons (rep_bool _) (repL_cons (rep_int _ _) (repL_cons (rep_int _ _) repL_nil)))))))), ⟨⟨h0, (show okS _ by unfold okS mxl; have := h1; unfold maxLen at this; omega)⟩, ⟨h2, h3⟩, h6, h7⟩, (one_cons rfl (one_cons rfl (one_cons rfl (one_cons rfl (one_cons rfl (one_cons rfl (one_cons rfl (one_cons rfl one_nil))))))))⟩
theorem rp_Cue (hX : ∀ b, ¬ c.X b) : RP c cueC cCue okCue := by
 rintro cs x ⟨v0, v1, rfl, h0, h1, h2, h3, h4, h5, h6, h7, h9, h10⟩
 obtain ⟨r7, o7, n7⟩ := rp_slice hX rp_Point (sz := 2) rfl (by decide) h7
 obtain ⟨r10, o10, n10⟩ := rp_slice hX rp_Move (sz := 8) rfl (by decide) h10
 exact ⟨(repL_cons (rep_int _ _) (repL_cons (rep_str _) (repL_cons (rep_int _ _) (repL_cons (rep_int _ _) (repL_cons (rep_int _ _) (repL_cons (rep_int _ _) (repL_cons (rep_int _ _) (repL_cons r7 (repL_cons (rep_bool _) (repL_cons (rep_int _ _) (repL_cons r10 repL_nil))))))))))), ⟨h0, (show okS _ by unfold okS mxl; have := h1; unfold maxLen at this; omega), h2, h3, h4, h5, ⟨h6, o7⟩, h9, o10⟩, (one_cons rfl (one_cons rfl (one_cons rfl (one_cons rfl (one_cons rfl (one_cons rfl (one_cons rfl (one_cons n7 (one_cons rfl (one_cons rfl (one_cons n10 one_nil)))))))))))⟩
theorem rp_List (hX : ∀ b, ¬ c.X b) : RP c listC cList okList := by
 rintro cs x ⟨v0, rfl, h0, h1⟩
 obtain ⟨r1, o1, n1⟩ := rp_slice hX (rp_Cue hX) (sz := 11) rfl (by decide) h1
 exact ⟨(repL_cons (rep_int _ _) (repL_cons r1 repL_nil)), ⟨h0, o1⟩, (one_cons rfl (one_cons n1 one_nil))⟩
theorem rp_Playback : RP c playbackC cPlayback okPlayback := by
 rintro cs x ⟨rfl, h0, h1, h2⟩
 exact ⟨(repL_cons (rep_int _ _) (repL_cons (rep_int _ _) (repL_cons (rep_int _ _) repL_nil))), ⟨h0, h1, h2⟩, (one_cons rfl (one_cons rfl (one_cons rfl one_nil)))⟩
theorem rp_Setup (hX : ∀ b, ¬ c.X b) : RP c setupC cSetup okSetup := by
 rintro cs x ⟨v0, v1, v2, v3, v4, rfl, h0, h1, h2, h3, h4⟩
 obtain ⟨r0, o0, n0⟩ := rp_slice hX (rp_Profile hX) (sz := 3) rfl (by decide) h0
 obtain ⟨r1, o1, n1⟩ := rp_slice hX rp_Unit (sz := 4) rfl (by decide) h1
 obtain ⟨r2, o2, n2⟩ := rp_slice hX (rp_Preset hX) (sz := 3) rfl (by decide) h2
 obtain ⟨r3, o3, n3⟩ := rp_slice hX (rp_List hX) (sz := 2) rfl (by decide) h3
 obtain ⟨r4, o4, n4⟩ := rp_slice hX rp_Playback (sz := 3) rfl (by decide) h4
 exact ⟨(repL_cons r0 (repL_cons r1 (repL_cons r2 (repL_cons r3 (repL_cons r4 repL_nil))))), ⟨⟨o0, o1⟩, o2, o3, o4⟩, (one_cons n0 (one_cons n1 (one_cons n2 (one_cons n3 (one_cons n4 one_nil)))))⟩
theorem rp_Event : RP c eventC cEvent okEvent := by
 rintro cs x ⟨rfl, h0, h1, h2, h3, h4, h5⟩
 exact ⟨(repL_cons (rep_int _ _) (repL_cons (rep_int _ _) (repL_cons (rep_int _ _) (repL_cons (rep_int _ _) (repL_cons (rep_int _ _) (repL_cons (rep_int _ _) repL_nil)))))), ⟨h0, ⟨h1, h2, h3, h4, h5⟩⟩, (one_cons rfl (one_cons rfl (one_cons rfl (one_cons rfl (one_cons rfl (one_cons rfl one_nil))))))⟩
/-- The whole of a struct that is handed over by value. -/
theorem rp_agg {α : Type} {d : Cod α} {e : α → List AV} {ok : α → Prop} (H : RP c d e ok) {cs : Array Value} {x : α} (h : d.is c.w cs.toList x) : Rep c (.agg (e x)) (.agg cs) ∧ ok x := by
 obtain ⟨h1, h2, h3⟩ := H _ _ h
 simp only [Rep]
 exact ⟨⟨cs, rfl, h1, h3⟩, h2⟩
end
end Go.Proofs.Ytohbeolimnpehaa

/- From the abstract run of a law to a call of it. -/
namespace Go.Proofs.Ytohbeolimnpehaa
set_option linter.unusedSectionVars false
set_option linter.unusedSimpArgs false
set_option linter.unusedVariables false
open Go.RowKit
noncomputable def base (W : World) : RC := ctx ⟨W, [], fun _ => False, nmT⟩ W [] nopb
theorem base_X (W : World) : ∀ b, ¬ (base W).X b := by
 rintro b (k | ⟨p, hp, _⟩ | ⟨i, k⟩)
 ·exact k
 ·cases hp
 ·cases k
theorem law_run {n : FuncId} {m : List AV → Heap → Option (AV × Heap)} {avs : List AV} (hs : Sound Try.prog nmT n m) (hc : ∀ us w, (callFunc n us).run Try.prog w = .ok (.enter n us) w) (W : World) (vs : Array Value) (hr : RepL (base W) avs vs.toList) (hm : m avs [] = some (.bool true, [])) :
  Calls Try.prog n vs W fun e W' => e = .returned (.bool true) ∧ Below W.heap.size W W' := by
 obtain ⟨g, h1, h2⟩ := hs _ _ _ _ hm
 have hg : g = n := by
  have e1 := h1 #[] W
  rw [hc #[] W] at e1
  injection e1 with e1
  injection e1 with e1
  exact e1.symm
 subst hg
 have hh : HeapRel (ctx ⟨W, [], fun _ => False, nmT⟩ W [] nopb) [] := by
  refine ⟨rfl, fun i j p q hp => ?_, fun i p x hp => ?_⟩
  ·simp [ctx] at hp
  ·simp [ctx] at hp
 refine (h2 ⟨W, [], fun _ => False, nmT⟩ vs rfl (fun b k => k.elim) hh hr).mono ?_
 rintro e w' ⟨v, E', rfl, ho, _, hv⟩
 simp only [Rep] at hv
 subst hv
 exact ⟨rfl, ho.os, ho.tape, ho.output, ho.size, fun k hk => ho.stay k hk (fun p hp => by cases hp)⟩
end Go.Proofs.Ytohbeolimnpehaa

