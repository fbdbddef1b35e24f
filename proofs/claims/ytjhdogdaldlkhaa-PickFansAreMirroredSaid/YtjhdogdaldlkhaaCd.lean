/- The codecs of api's types: Lean structures, and what cells hold them. -/
import Derived.Test.YtjhdogdaldlkhaaRe
namespace Go.Proofs.Ytjhdogdaldlkhaa
open Go.RowKit Go.Deep
set_option linter.unusedVariables false
set_option linter.unusedSimpArgs false

abbrev inI (n : Int) : Prop := -9223372036854775808 ≤ n ∧ n ≤ 9223372036854775807
theorem ReadsF.imp {F : Nat → Prop} {P : Program} {α β : Type} {c : Cod α} {d : Cod β} {t : TypeId} (h : ReadsF F P c t) (k : ∀ w cs a, c.is w cs a → ∃ b, d.is w cs b ∧ d.bulk b ≤ c.bulk a) : ReadsF F P d t := by
  intro H enc w base spare held fuel cs x hF h1
  obtain ⟨a, ha, hb⟩ := h hF h1
  obtain ⟨b, h2, h3⟩ := k _ _ _ ha
  exact ⟨b, h2, Nat.le_trans h3 hb⟩
theorem cells_split {α : Type} {cs a b : List α} {n : Nat} (h1 : cs.take n = a) (h2 : cs.drop n = b) : cs = a ++ b := by rw [← h1, ← h2, List.take_append_drop]
theorem sliceC_shape {α : Type} {c : Cod α} {w : World} {v : Value} {l : List α} (h : (sliceC c).is w [v] l) : ∃ (a : Option Addr) (cap : Nat), v = .slice a l.length cap ∧ l.length ≤ cap ∧ cap ≤ maxLen := by
  rcases h with ⟨h, rfl⟩ | ⟨b, off, sp, cap, h, h1, h2, _⟩
  · exact ⟨none, 0, by simpa using h, Nat.le_refl _, Nat.zero_le _⟩
  · exact ⟨some ⟨b, off, sp⟩, cap, by simpa using h, h1, h2⟩
theorem sliceC_open {α : Type} {c : Cod α} {w : World} {v : Value} {l : List α} (h : (sliceC c).is w [v] l) : ∃ (a : Option Addr) (n cap : Nat), v = .slice a n cap ∧ Hid (n = l.length) ∧ n ≤ cap ∧ cap ≤ 9223372036854775807 := by
  obtain ⟨a, cap, h1, h2, h3⟩ := sliceC_shape h
  exact ⟨a, l.length, cap, h1, Lib.hid rfl, h2, by unfold maxLen at h3; omega⟩
theorem sliceC_cell {α : Type} {c : Cod α} {w : World} {a : Option Addr} {n cap : Nat} {l : List α} (h : (sliceC c).is w [.slice a n cap] l) {k : Nat} (hk : k < l.length) :
    ∃ (b off : Nat), a = some ⟨b, off, none⟩ ∧ ∃ cs, (∀ j, j < c.size → w.cell? ⟨b, off + (k * c.size + j), none⟩ = cs[j]?) ∧ c.is w cs l[k] := by
  rcases h with ⟨_, rfl⟩ | ⟨b, off, sp, cap', h1, h2, h3, h4⟩
  · simp at hk
  · obtain ⟨rfl, cs, h5, h6⟩ := h4 k hk
    simp only [List.cons.injEq, Value.slice.injEq, and_true] at h1
    exact ⟨b, off, h1.1, cs, h5, h6⟩
theorem sliceC_int {w : World} {a : Option Addr} {n cap : Nat} {l : List Int} (h : (sliceC intC).is w [.slice a n cap] l) {k : Nat} (hk : k < l.length) :
    ∃ (b off : Nat), a = some ⟨b, off, none⟩ ∧ w.cell? ⟨b, off + k, none⟩ = some (.int .i64 l[k]) ∧ inI l[k] := by
  obtain ⟨b, off, e, cs, h1, h2⟩ := sliceC_cell h hk
  obtain ⟨rfl, h3⟩ := h2
  exact ⟨b, off, e, by simpa [intC] using h1 0 (by decide), h3⟩
theorem sliceC_str {w : World} {a : Option Addr} {n cap : Nat} {l : List ByteArray} (h : (sliceC strC).is w [.slice a n cap] l) {k : Nat} (hk : k < l.length) :
    ∃ (b off : Nat), a = some ⟨b, off, none⟩ ∧ w.cell? ⟨b, off + k, none⟩ = some (.string l[k]) ∧ l[k].size ≤ maxLen := by
  obtain ⟨b, off, e, cs, h1, h2⟩ := sliceC_cell h hk
  obtain ⟨rfl, h3⟩ := h2
  exact ⟨b, off, e, by simpa [strC] using h1 0 (by decide), h3⟩
theorem reads_ints : Reads Try.prog (sliceC intC) 31 := reads_slice Try.underlying31 (c := intC) (by kernel_rfl) (by decide) (reads_int Try.underlying3)

structure PointD where
  time : Int
  way : Int
deriving DecidableEq
def pointC : Cod PointD where
  size := 2
  is := fun w cs x => cs = [.int .i64 x.time, .int .i64 x.way] ∧ inI x.time ∧ inI x.way
  len := fun h => by obtain ⟨rfl, _⟩ := h; rfl
  mono := fun h _ => h
  bulk := fun x => intC.bulk x.time + (intC.bulk x.way)
theorem pointC_size : pointC.size = 2 := rfl
structure CurveD where
  kind : Int
  points : (List PointD)
def curveC : Cod CurveD where
  size := 2
  is := fun w cs x => ∃ v0 : Value, cs = [.int .i64 x.kind, v0] ∧ inI x.kind ∧ (sliceC pointC).is w [v0] x.points
  len := fun h => by obtain ⟨v0, rfl, _⟩ := h; rfl
  mono := fun {w w' cs x} h g => by obtain ⟨v0, e, h0, h1⟩ := h; exact ⟨v0, e, h0, ((sliceC pointC)).mono h1 g⟩
  bulk := fun x => intC.bulk x.kind + ((sliceC pointC).bulk x.points)
theorem curveC_size : curveC.size = 2 := rfl
structure FadeD where
  frm : Int
  to : Int
  start : Int
  delay : Int
  time : Int
  curve : CurveD
def fadeC : Cod FadeD where
  size := 7
  is := fun w cs x => ∃ v0 : Value, cs = [.int .i64 x.frm, .int .i64 x.to, .int .i64 x.start, .int .i64 x.delay, .int .i64 x.time, .int .i64 x.curve.kind, v0] ∧ inI x.frm ∧ inI x.to ∧ inI x.start ∧ inI x.delay ∧ inI x.time ∧ inI x.curve.kind ∧ (sliceC pointC).is w [v0] x.curve.points
  len := fun h => by obtain ⟨v0, rfl, _⟩ := h; rfl
  mono := fun {w w' cs x} h g => by obtain ⟨v0, e, h0, h1, h2, h3, h4, h5, h6⟩ := h; exact ⟨v0, e, h0, h1, h2, h3, h4, h5, ((sliceC pointC)).mono h6 g⟩
  bulk := fun x => intC.bulk x.frm + (intC.bulk x.to + (intC.bulk x.start + (intC.bulk x.delay + (intC.bulk x.time + (curveC.bulk x.curve)))))
theorem fadeC_size : fadeC.size = 7 := rfl
structure ChangeD where
  time : Int
  level : Int
deriving DecidableEq
def changeC : Cod ChangeD where
  size := 2
  is := fun w cs x => cs = [.int .i64 x.time, .int .i64 x.level] ∧ inI x.time ∧ inI x.level
  len := fun h => by obtain ⟨rfl, _⟩ := h; rfl
  mono := fun h _ => h
  bulk := fun x => intC.bulk x.time + (intC.bulk x.level)
theorem changeC_size : changeC.size = 2 := rfl
structure RangeD where
  low : Int
  high : Int
  name : ByteArray
deriving DecidableEq
def rangeC : Cod RangeD where
  size := 3
  is := fun w cs x => cs = [.int .i64 x.low, .int .i64 x.high, .string x.name] ∧ inI x.low ∧ inI x.high ∧ x.name.size ≤ maxLen
  len := fun h => by obtain ⟨rfl, _⟩ := h; rfl
  mono := fun h _ => h
  bulk := fun x => intC.bulk x.low + (intC.bulk x.high + (strC.bulk x.name))
theorem rangeC_size : rangeC.size = 3 := rfl
theorem reads_range : Reads Try.prog rangeC 198 :=
  (reads_struct3 (F := fun _ => True) Try.underlying198 (c0 := intC) (c1 := intC) (c2 := strC) (by kernel_rfl) rfl rfl rfl (by kernel_rfl) (by kernel_rfl) (by kernel_rfl) (reads_int Try.underlying3) (reads_int Try.underlying3) (reads_str Try.underlying9)).imp fun w cs a h => by
    obtain ⟨a0, a1, a2⟩ := a
    obtain ⟨h0, h1, h2⟩ := h
    obtain ⟨e0, b0⟩ := h0
    obtain ⟨e1, b1⟩ := h1
    obtain ⟨e2, b2⟩ := h2
    have e101 := cells_split e1 e2
    have e100 := cells_split e0 e101
    exact ⟨⟨a0, a1, a2⟩, ⟨by rw [e100]; rfl, b0, b1, b2⟩, Nat.le_refl _⟩
theorem reads_ranges : Reads Try.prog (sliceC rangeC) 109 := reads_slice Try.underlying109 (c := rangeC) (by kernel_rfl) (by decide) reads_range
structure ParamD where
  name : ByteArray
  group : Int
  att : Int
  fine : Int
  default : Int
  snap : Bool
  ranges : (List RangeD)
def paramC : Cod ParamD where
  size := 7
  is := fun w cs x => ∃ v0 : Value, cs = [.string x.name, .int .i64 x.group, .int .i64 x.att, .int .i64 x.fine, .int .i64 x.default, .bool x.snap, v0] ∧ x.name.size ≤ maxLen ∧ inI x.group ∧ inI x.att ∧ inI x.fine ∧ inI x.default ∧ (sliceC rangeC).is w [v0] x.ranges
  len := fun h => by obtain ⟨v0, rfl, _⟩ := h; rfl
  mono := fun {w w' cs x} h g => by obtain ⟨v0, e, h0, h1, h2, h3, h4, h5⟩ := h; exact ⟨v0, e, h0, h1, h2, h3, h4, ((sliceC rangeC)).mono h5 g⟩
  bulk := fun x => strC.bulk x.name + (intC.bulk x.group + (intC.bulk x.att + (intC.bulk x.fine + (intC.bulk x.default + (boolC.bulk x.snap + ((sliceC rangeC).bulk x.ranges))))))
theorem paramC_size : paramC.size = 7 := rfl
theorem reads_param : Reads Try.prog paramC 111 :=
  (reads_struct7 (F := fun _ => True) Try.underlying111 (c0 := strC) (c1 := intC) (c2 := intC) (c3 := intC) (c4 := intC) (c5 := boolC) (c6 := (sliceC rangeC)) (by kernel_rfl) rfl rfl rfl rfl rfl rfl rfl (by kernel_rfl) (by kernel_rfl) (by kernel_rfl) (by kernel_rfl) (by kernel_rfl) (by kernel_rfl) (by kernel_rfl) (reads_str Try.underlying9) (reads_int Try.underlying3) (reads_int Try.underlying3) (reads_int Try.underlying3) (reads_int Try.underlying3) (reads_bool Try.underlying4) reads_ranges).imp fun w cs a h => by
    obtain ⟨a0, a1, a2, a3, a4, a5, a6⟩ := a
    obtain ⟨h0, h1, h2, h3, h4, h5, h6⟩ := h
    obtain ⟨e0, b0⟩ := h0
    obtain ⟨e1, b1⟩ := h1
    obtain ⟨e2, b2⟩ := h2
    obtain ⟨e3, b3⟩ := h3
    obtain ⟨e4, b4⟩ := h4
    have e5 := h5; simp only [boolC] at e5
    obtain ⟨s6, e6⟩ := List.length_eq_one_iff.1 (((sliceC rangeC)).len h6); rw [e6] at h6
    have e105 := cells_split e5 e6
    have e104 := cells_split e4 e105
    have e103 := cells_split e3 e104
    have e102 := cells_split e2 e103
    have e101 := cells_split e1 e102
    have e100 := cells_split e0 e101
    exact ⟨⟨a0, a1, a2, a3, a4, a5, a6⟩, ⟨s6, by rw [e100]; rfl, b0, b1, b2, b3, b4, h6⟩, Nat.le_refl _⟩
theorem reads_params : Reads Try.prog (sliceC paramC) 144 := reads_slice Try.underlying144 (c := paramC) (by kernel_rfl) (by decide) reads_param
structure ProfileD where
  name : ByteArray
  size : Int
  params : (List ParamD)
def profileC : Cod ProfileD where
  size := 3
  is := fun w cs x => ∃ v0 : Value, cs = [.string x.name, .int .i64 x.size, v0] ∧ x.name.size ≤ maxLen ∧ inI x.size ∧ (sliceC paramC).is w [v0] x.params
  len := fun h => by obtain ⟨v0, rfl, _⟩ := h; rfl
  mono := fun {w w' cs x} h g => by obtain ⟨v0, e, h0, h1, h2⟩ := h; exact ⟨v0, e, h0, h1, ((sliceC paramC)).mono h2 g⟩
  bulk := fun x => strC.bulk x.name + (intC.bulk x.size + ((sliceC paramC).bulk x.params))
theorem profileC_size : profileC.size = 3 := rfl
theorem reads_profile : Reads Try.prog profileC 146 :=
  (reads_struct3 (F := fun _ => True) Try.underlying146 (c0 := strC) (c1 := intC) (c2 := (sliceC paramC)) (by kernel_rfl) rfl rfl rfl (by kernel_rfl) (by kernel_rfl) (by kernel_rfl) (reads_str Try.underlying9) (reads_int Try.underlying3) reads_params).imp fun w cs a h => by
    obtain ⟨a0, a1, a2⟩ := a
    obtain ⟨h0, h1, h2⟩ := h
    obtain ⟨e0, b0⟩ := h0
    obtain ⟨e1, b1⟩ := h1
    obtain ⟨s2, e2⟩ := List.length_eq_one_iff.1 (((sliceC paramC)).len h2); rw [e2] at h2
    have e101 := cells_split e1 e2
    have e100 := cells_split e0 e101
    exact ⟨⟨a0, a1, a2⟩, ⟨s2, by rw [e100]; rfl, b0, b1, h2⟩, Nat.le_refl _⟩
theorem reads_profiles : Reads Try.prog (sliceC profileC) 45 := reads_slice Try.underlying45 (c := profileC) (by kernel_rfl) (by decide) reads_profile
structure UnitD where
  number : Int
  profile : ByteArray
  univ : Int
  address : Int
deriving DecidableEq
def unitC : Cod UnitD where
  size := 4
  is := fun w cs x => cs = [.int .i64 x.number, .string x.profile, .int .i64 x.univ, .int .i64 x.address] ∧ inI x.number ∧ x.profile.size ≤ maxLen ∧ inI x.univ ∧ inI x.address
  len := fun h => by obtain ⟨rfl, _⟩ := h; rfl
  mono := fun h _ => h
  bulk := fun x => intC.bulk x.number + (strC.bulk x.profile + (intC.bulk x.univ + (intC.bulk x.address)))
theorem unitC_size : unitC.size = 4 := rfl
theorem reads_unit : Reads Try.prog unitC 101 :=
  (reads_struct4 (F := fun _ => True) Try.underlying101 (c0 := intC) (c1 := strC) (c2 := intC) (c3 := intC) (by kernel_rfl) rfl rfl rfl rfl (by kernel_rfl) (by kernel_rfl) (by kernel_rfl) (by kernel_rfl) (reads_int Try.underlying3) (reads_str Try.underlying9) (reads_int Try.underlying3) (reads_int Try.underlying3)).imp fun w cs a h => by
    obtain ⟨a0, a1, a2, a3⟩ := a
    obtain ⟨h0, h1, h2, h3⟩ := h
    obtain ⟨e0, b0⟩ := h0
    obtain ⟨e1, b1⟩ := h1
    obtain ⟨e2, b2⟩ := h2
    obtain ⟨e3, b3⟩ := h3
    have e102 := cells_split e2 e3
    have e101 := cells_split e1 e102
    have e100 := cells_split e0 e101
    exact ⟨⟨a0, a1, a2, a3⟩, ⟨by rw [e100]; rfl, b0, b1, b2, b3⟩, Nat.le_refl _⟩
theorem reads_units : Reads Try.prog (sliceC unitC) 46 := reads_slice Try.underlying46 (c := unitC) (by kernel_rfl) (by decide) reads_unit
structure RigD where
  library : (List ProfileD)
  units : (List UnitD)
def rigC : Cod RigD where
  size := 2
  is := fun w cs x => ∃ v0 v1 : Value, cs = [v0, v1] ∧ (sliceC profileC).is w [v0] x.library ∧ (sliceC unitC).is w [v1] x.units
  len := fun h => by obtain ⟨v0, v1, rfl, _⟩ := h; rfl
  mono := fun {w w' cs x} h g => by obtain ⟨v0, v1, e, h0, h1⟩ := h; exact ⟨v0, v1, e, ((sliceC profileC)).mono h0 g, ((sliceC unitC)).mono h1 g⟩
  bulk := fun x => (sliceC profileC).bulk x.library + ((sliceC unitC).bulk x.units)
theorem rigC_size : rigC.size = 2 := rfl
theorem reads_rig : Reads Try.prog rigC 48 :=
  (reads_struct2 (F := fun _ => True) Try.underlying48 (c0 := (sliceC profileC)) (c1 := (sliceC unitC)) (by kernel_rfl) rfl rfl (by kernel_rfl) (by kernel_rfl) reads_profiles reads_units).imp fun w cs a h => by
    obtain ⟨a0, a1⟩ := a
    obtain ⟨h0, h1⟩ := h
    obtain ⟨s0, e0⟩ := List.length_eq_one_iff.1 (((sliceC profileC)).len h0); rw [e0] at h0
    obtain ⟨s1, e1⟩ := List.length_eq_one_iff.1 (((sliceC unitC)).len h1); rw [e1] at h1
    have e100 := cells_split e0 e1
    exact ⟨⟨a0, a1⟩, ⟨s0, s1, by rw [e100]; rfl, h0, h1⟩, Nat.le_refl _⟩
structure KeyD where
  unit : Int
  param : ByteArray
deriving DecidableEq
def keyC : Cod KeyD where
  size := 2
  is := fun w cs x => cs = [.int .i64 x.unit, .string x.param] ∧ inI x.unit ∧ x.param.size ≤ maxLen
  len := fun h => by obtain ⟨rfl, _⟩ := h; rfl
  mono := fun h _ => h
  bulk := fun x => intC.bulk x.unit + (strC.bulk x.param)
theorem keyC_size : keyC.size = 2 := rfl
theorem reads_key : Reads Try.prog keyC 24 :=
  (reads_struct2 (F := fun _ => True) Try.underlying24 (c0 := intC) (c1 := strC) (by kernel_rfl) rfl rfl (by kernel_rfl) (by kernel_rfl) (reads_int Try.underlying3) (reads_str Try.underlying9)).imp fun w cs a h => by
    obtain ⟨a0, a1⟩ := a
    obtain ⟨h0, h1⟩ := h
    obtain ⟨e0, b0⟩ := h0
    obtain ⟨e1, b1⟩ := h1
    have e100 := cells_split e0 e1
    exact ⟨⟨a0, a1⟩, ⟨by rw [e100]; rfl, b0, b1⟩, Nat.le_refl _⟩
theorem reads_keys : Reads Try.prog (sliceC keyC) 152 := reads_slice Try.underlying152 (c := keyC) (by kernel_rfl) (by decide) reads_key
structure SettingD where
  key : KeyD
  level : Int
deriving DecidableEq
def settingC : Cod SettingD where
  size := 3
  is := fun w cs x => cs = [.int .i64 x.key.unit, .string x.key.param, .int .i64 x.level] ∧ inI x.key.unit ∧ x.key.param.size ≤ maxLen ∧ inI x.level
  len := fun h => by obtain ⟨rfl, _⟩ := h; rfl
  mono := fun h _ => h
  bulk := fun x => keyC.bulk x.key + (intC.bulk x.level)
theorem settingC_size : settingC.size = 3 := rfl
theorem reads_setting : Reads Try.prog settingC 59 :=
  (reads_struct2 (F := fun _ => True) Try.underlying59 (c0 := keyC) (c1 := intC) (by kernel_rfl) rfl rfl (by kernel_rfl) (by kernel_rfl) reads_key (reads_int Try.underlying3)).imp fun w cs a h => by
    obtain ⟨a0, a1⟩ := a
    obtain ⟨h0, h1⟩ := h
    obtain ⟨e0, b0⟩ := h0
    obtain ⟨b0_0, b0_1⟩ := b0
    obtain ⟨e1, b1⟩ := h1
    have e100 := cells_split e0 e1
    exact ⟨⟨a0, a1⟩, ⟨by rw [e100]; rfl, b0_0, b0_1, b1⟩, Nat.le_refl _⟩
theorem reads_settings : Reads Try.prog (sliceC settingC) 54 := reads_slice Try.underlying54 (c := settingC) (by kernel_rfl) (by decide) reads_setting
structure PresetD where
  number : Int
  title : ByteArray
  settings : (List SettingD)
def presetC : Cod PresetD where
  size := 3
  is := fun w cs x => ∃ v0 : Value, cs = [.int .i64 x.number, .string x.title, v0] ∧ inI x.number ∧ x.title.size ≤ maxLen ∧ (sliceC settingC).is w [v0] x.settings
  len := fun h => by obtain ⟨v0, rfl, _⟩ := h; rfl
  mono := fun {w w' cs x} h g => by obtain ⟨v0, e, h0, h1, h2⟩ := h; exact ⟨v0, e, h0, h1, ((sliceC settingC)).mono h2 g⟩
  bulk := fun x => intC.bulk x.number + (strC.bulk x.title + ((sliceC settingC).bulk x.settings))
theorem presetC_size : presetC.size = 3 := rfl
theorem reads_preset : Reads Try.prog presetC 67 :=
  (reads_struct3 (F := fun _ => True) Try.underlying67 (c0 := intC) (c1 := strC) (c2 := (sliceC settingC)) (by kernel_rfl) rfl rfl rfl (by kernel_rfl) (by kernel_rfl) (by kernel_rfl) (reads_int Try.underlying3) (reads_str Try.underlying9) reads_settings).imp fun w cs a h => by
    obtain ⟨a0, a1, a2⟩ := a
    obtain ⟨h0, h1, h2⟩ := h
    obtain ⟨e0, b0⟩ := h0
    obtain ⟨e1, b1⟩ := h1
    obtain ⟨s2, e2⟩ := List.length_eq_one_iff.1 (((sliceC settingC)).len h2); rw [e2] at h2
    have e101 := cells_split e1 e2
    have e100 := cells_split e0 e101
    exact ⟨⟨a0, a1, a2⟩, ⟨s2, by rw [e100]; rfl, b0, b1, h2⟩, Nat.le_refl _⟩
theorem reads_presets : Reads Try.prog (sliceC presetC) 22 := reads_slice Try.underlying22 (c := presetC) (by kernel_rfl) (by decide) reads_preset
structure FanD where
  corners : (List Int)
  block : Int
  wings : Int
def fanC : Cod FanD where
  size := 3
  is := fun w cs x => ∃ v0 : Value, cs = [v0, .int .i64 x.block, .int .i64 x.wings] ∧ (sliceC intC).is w [v0] x.corners ∧ inI x.block ∧ inI x.wings
  len := fun h => by obtain ⟨v0, rfl, _⟩ := h; rfl
  mono := fun {w w' cs x} h g => by obtain ⟨v0, e, h0, h1, h2⟩ := h; exact ⟨v0, e, ((sliceC intC)).mono h0 g, h1, h2⟩
  bulk := fun x => (sliceC intC).bulk x.corners + (intC.bulk x.block + (intC.bulk x.wings))
theorem fanC_size : fanC.size = 3 := rfl
theorem reads_fan : Reads Try.prog fanC 33 :=
  (reads_struct3 (F := fun _ => True) Try.underlying33 (c0 := (sliceC intC)) (c1 := intC) (c2 := intC) (by kernel_rfl) rfl rfl rfl (by kernel_rfl) (by kernel_rfl) (by kernel_rfl) reads_ints (reads_int Try.underlying3) (reads_int Try.underlying3)).imp fun w cs a h => by
    obtain ⟨a0, a1, a2⟩ := a
    obtain ⟨h0, h1, h2⟩ := h
    obtain ⟨s0, e0⟩ := List.length_eq_one_iff.1 (((sliceC intC)).len h0); rw [e0] at h0
    obtain ⟨e1, b1⟩ := h1
    obtain ⟨e2, b2⟩ := h2
    have e101 := cells_split e1 e2
    have e100 := cells_split e0 e101
    exact ⟨⟨a0, a1, a2⟩, ⟨s0, by rw [e100]; rfl, h0, b1, b2⟩, Nat.le_refl _⟩
structure ValueD where
  level : Int
  preset : Int
deriving DecidableEq
def valueC : Cod ValueD where
  size := 2
  is := fun w cs x => cs = [.int .i64 x.level, .int .i64 x.preset] ∧ inI x.level ∧ inI x.preset
  len := fun h => by obtain ⟨rfl, _⟩ := h; rfl
  mono := fun h _ => h
  bulk := fun x => intC.bulk x.level + (intC.bulk x.preset)
theorem valueC_size : valueC.size = 2 := rfl
theorem reads_value : Reads Try.prog valueC 26 :=
  (reads_struct2 (F := fun _ => True) Try.underlying26 (c0 := intC) (c1 := intC) (by kernel_rfl) rfl rfl (by kernel_rfl) (by kernel_rfl) (reads_int Try.underlying3) (reads_int Try.underlying3)).imp fun w cs a h => by
    obtain ⟨a0, a1⟩ := a
    obtain ⟨h0, h1⟩ := h
    obtain ⟨e0, b0⟩ := h0
    obtain ⟨e1, b1⟩ := h1
    have e100 := cells_split e0 e1
    exact ⟨⟨a0, a1⟩, ⟨by rw [e100]; rfl, b0, b1⟩, Nat.le_refl _⟩
structure MoveD where
  key : KeyD
  value : ValueD
  release : Bool
  timed : Bool
  delay : Int
  time : Int
deriving DecidableEq
def moveC : Cod MoveD where
  size := 8
  is := fun w cs x => cs = [.int .i64 x.key.unit, .string x.key.param, .int .i64 x.value.level, .int .i64 x.value.preset, .bool x.release, .bool x.timed, .int .i64 x.delay, .int .i64 x.time] ∧ inI x.key.unit ∧ x.key.param.size ≤ maxLen ∧ inI x.value.level ∧ inI x.value.preset ∧ inI x.delay ∧ inI x.time
  len := fun h => by obtain ⟨rfl, _⟩ := h; rfl
  mono := fun h _ => h
  bulk := fun x => keyC.bulk x.key + (valueC.bulk x.value + (boolC.bulk x.release + (boolC.bulk x.timed + (intC.bulk x.delay + (intC.bulk x.time)))))
theorem moveC_size : moveC.size = 8 := rfl
structure CueD where
  number : Int
  title : ByteArray
  delay : Int
  up : Int
  down : Int
  other : Int
  curve : CurveD
  block : Bool
  follow : Int
  moves : (List MoveD)
def cueC : Cod CueD where
  size := 11
  is := fun w cs x => ∃ v0 v1 : Value, cs = [.int .i64 x.number, .string x.title, .int .i64 x.delay, .int .i64 x.up, .int .i64 x.down, .int .i64 x.other, .int .i64 x.curve.kind, v0, .bool x.block, .int .i64 x.follow, v1] ∧ inI x.number ∧ x.title.size ≤ maxLen ∧ inI x.delay ∧ inI x.up ∧ inI x.down ∧ inI x.other ∧ inI x.curve.kind ∧ (sliceC pointC).is w [v0] x.curve.points ∧ inI x.follow ∧ (sliceC moveC).is w [v1] x.moves
  len := fun h => by obtain ⟨v0, v1, rfl, _⟩ := h; rfl
  mono := fun {w w' cs x} h g => by obtain ⟨v0, v1, e, h0, h1, h2, h3, h4, h5, h6, h7, h8, h9⟩ := h; exact ⟨v0, v1, e, h0, h1, h2, h3, h4, h5, h6, ((sliceC pointC)).mono h7 g, h8, ((sliceC moveC)).mono h9 g⟩
  bulk := fun x => intC.bulk x.number + (strC.bulk x.title + (intC.bulk x.delay + (intC.bulk x.up + (intC.bulk x.down + (intC.bulk x.other + (curveC.bulk x.curve + (boolC.bulk x.block + (intC.bulk x.follow + ((sliceC moveC).bulk x.moves)))))))))
theorem cueC_size : cueC.size = 11 := rfl
structure EntryD where
  key : KeyD
  value : ValueD
  cue : Int
deriving DecidableEq
def entryC : Cod EntryD where
  size := 5
  is := fun w cs x => cs = [.int .i64 x.key.unit, .string x.key.param, .int .i64 x.value.level, .int .i64 x.value.preset, .int .i64 x.cue] ∧ inI x.key.unit ∧ x.key.param.size ≤ maxLen ∧ inI x.value.level ∧ inI x.value.preset ∧ inI x.cue
  len := fun h => by obtain ⟨rfl, _⟩ := h; rfl
  mono := fun h _ => h
  bulk := fun x => keyC.bulk x.key + (valueC.bulk x.value + (intC.bulk x.cue))
theorem entryC_size : entryC.size = 5 := rfl
structure MarkD where
  unit : Int
  frm : Int
  to : Int
deriving DecidableEq
def markC : Cod MarkD where
  size := 3
  is := fun w cs x => cs = [.int .i64 x.unit, .int .i64 x.frm, .int .i64 x.to] ∧ inI x.unit ∧ inI x.frm ∧ inI x.to
  len := fun h => by obtain ⟨rfl, _⟩ := h; rfl
  mono := fun h _ => h
  bulk := fun x => intC.bulk x.unit + (intC.bulk x.frm + (intC.bulk x.to))
theorem markC_size : markC.size = 3 := rfl
structure ListD where
  number : Int
  cues : (List CueD)
def listC : Cod ListD where
  size := 2
  is := fun w cs x => ∃ v0 : Value, cs = [.int .i64 x.number, v0] ∧ inI x.number ∧ (sliceC cueC).is w [v0] x.cues
  len := fun h => by obtain ⟨v0, rfl, _⟩ := h; rfl
  mono := fun {w w' cs x} h g => by obtain ⟨v0, e, h0, h1⟩ := h; exact ⟨v0, e, h0, ((sliceC cueC)).mono h1 g⟩
  bulk := fun x => intC.bulk x.number + ((sliceC cueC).bulk x.cues)
theorem listC_size : listC.size = 2 := rfl
structure PlaybackD where
  number : Int
  list : Int
  priority : Int
deriving DecidableEq
def playbackC : Cod PlaybackD where
  size := 3
  is := fun w cs x => cs = [.int .i64 x.number, .int .i64 x.list, .int .i64 x.priority] ∧ inI x.number ∧ inI x.list ∧ inI x.priority
  len := fun h => by obtain ⟨rfl, _⟩ := h; rfl
  mono := fun h _ => h
  bulk := fun x => intC.bulk x.number + (intC.bulk x.list + (intC.bulk x.priority))
theorem playbackC_size : playbackC.size = 3 := rfl
structure SetupD where
  rig : RigD
  presets : (List PresetD)
  lists : (List ListD)
  playbacks : (List PlaybackD)
def setupC : Cod SetupD where
  size := 5
  is := fun w cs x => ∃ v0 v1 v2 v3 v4 : Value, cs = [v0, v1, v2, v3, v4] ∧ (sliceC profileC).is w [v0] x.rig.library ∧ (sliceC unitC).is w [v1] x.rig.units ∧ (sliceC presetC).is w [v2] x.presets ∧ (sliceC listC).is w [v3] x.lists ∧ (sliceC playbackC).is w [v4] x.playbacks
  len := fun h => by obtain ⟨v0, v1, v2, v3, v4, rfl, _⟩ := h; rfl
  mono := fun {w w' cs x} h g => by obtain ⟨v0, v1, v2, v3, v4, e, h0, h1, h2, h3, h4⟩ := h; exact ⟨v0, v1, v2, v3, v4, e, ((sliceC profileC)).mono h0 g, ((sliceC unitC)).mono h1 g, ((sliceC presetC)).mono h2 g, ((sliceC listC)).mono h3 g, ((sliceC playbackC)).mono h4 g⟩
  bulk := fun x => rigC.bulk x.rig + ((sliceC presetC).bulk x.presets + ((sliceC listC).bulk x.lists + ((sliceC playbackC).bulk x.playbacks)))
theorem setupC_size : setupC.size = 5 := rfl
structure ActionD where
  time : Int
  kind : Int
  playback : Int
  cue : Int
  level : Int
deriving DecidableEq
def actionC : Cod ActionD where
  size := 5
  is := fun w cs x => cs = [.int .i64 x.time, .int .i64 x.kind, .int .i64 x.playback, .int .i64 x.cue, .int .i64 x.level] ∧ inI x.time ∧ inI x.kind ∧ inI x.playback ∧ inI x.cue ∧ inI x.level
  len := fun h => by obtain ⟨rfl, _⟩ := h; rfl
  mono := fun h _ => h
  bulk := fun x => intC.bulk x.time + (intC.bulk x.kind + (intC.bulk x.playback + (intC.bulk x.cue + (intC.bulk x.level))))
theorem actionC_size : actionC.size = 5 := rfl
structure RunD where
  key : KeyD
  fade : FadeD
  claim : Int
  ending : Bool
def runC : Cod RunD where
  size := 11
  is := fun w cs x => ∃ v0 : Value, cs = [.int .i64 x.key.unit, .string x.key.param, .int .i64 x.fade.frm, .int .i64 x.fade.to, .int .i64 x.fade.start, .int .i64 x.fade.delay, .int .i64 x.fade.time, .int .i64 x.fade.curve.kind, v0, .int .i64 x.claim, .bool x.ending] ∧ inI x.key.unit ∧ x.key.param.size ≤ maxLen ∧ inI x.fade.frm ∧ inI x.fade.to ∧ inI x.fade.start ∧ inI x.fade.delay ∧ inI x.fade.time ∧ inI x.fade.curve.kind ∧ (sliceC pointC).is w [v0] x.fade.curve.points ∧ inI x.claim
  len := fun h => by obtain ⟨v0, rfl, _⟩ := h; rfl
  mono := fun {w w' cs x} h g => by obtain ⟨v0, e, h0, h1, h2, h3, h4, h5, h6, h7, h8, h9⟩ := h; exact ⟨v0, e, h0, h1, h2, h3, h4, h5, h6, h7, ((sliceC pointC)).mono h8 g, h9⟩
  bulk := fun x => keyC.bulk x.key + (fadeC.bulk x.fade + (intC.bulk x.claim + (boolC.bulk x.ending)))
theorem runC_size : runC.size = 11 := rfl
structure StandingD where
  playback : Int
  cue : Int
  fader : Int
  paused : Bool
  follow : Int
  runs : (List RunD)
def standingC : Cod StandingD where
  size := 6
  is := fun w cs x => ∃ v0 : Value, cs = [.int .i64 x.playback, .int .i64 x.cue, .int .i64 x.fader, .bool x.paused, .int .i64 x.follow, v0] ∧ inI x.playback ∧ inI x.cue ∧ inI x.fader ∧ inI x.follow ∧ (sliceC runC).is w [v0] x.runs
  len := fun h => by obtain ⟨v0, rfl, _⟩ := h; rfl
  mono := fun {w w' cs x} h g => by obtain ⟨v0, e, h0, h1, h2, h3, h4⟩ := h; exact ⟨v0, e, h0, h1, h2, h3, ((sliceC runC)).mono h4 g⟩
  bulk := fun x => intC.bulk x.playback + (intC.bulk x.cue + (intC.bulk x.fader + (boolC.bulk x.paused + (intC.bulk x.follow + ((sliceC runC).bulk x.runs)))))
theorem standingC_size : standingC.size = 6 := rfl
structure EffectStepD where
  level : Int
  hold : Int
  fade : Int
deriving DecidableEq
def effectStepC : Cod EffectStepD where
  size := 3
  is := fun w cs x => cs = [.int .i64 x.level, .int .i64 x.hold, .int .i64 x.fade] ∧ inI x.level ∧ inI x.hold ∧ inI x.fade
  len := fun h => by obtain ⟨rfl, _⟩ := h; rfl
  mono := fun h _ => h
  bulk := fun x => intC.bulk x.level + (intC.bulk x.hold + (intC.bulk x.fade))
theorem effectStepC_size : effectStepC.size = 3 := rfl
structure EffectD where
  form : Int
  low : Int
  high : Int
  cycle : Int
  width : Int
  spread : Int
  back : Bool
  relative : Bool
  steps : (List EffectStepD)
def effectC : Cod EffectD where
  size := 9
  is := fun w cs x => ∃ v0 : Value, cs = [.int .i64 x.form, .int .i64 x.low, .int .i64 x.high, .int .i64 x.cycle, .int .i64 x.width, .int .i64 x.spread, .bool x.back, .bool x.relative, v0] ∧ inI x.form ∧ inI x.low ∧ inI x.high ∧ inI x.cycle ∧ inI x.width ∧ inI x.spread ∧ (sliceC effectStepC).is w [v0] x.steps
  len := fun h => by obtain ⟨v0, rfl, _⟩ := h; rfl
  mono := fun {w w' cs x} h g => by obtain ⟨v0, e, h0, h1, h2, h3, h4, h5, h6⟩ := h; exact ⟨v0, e, h0, h1, h2, h3, h4, h5, ((sliceC effectStepC)).mono h6 g⟩
  bulk := fun x => intC.bulk x.form + (intC.bulk x.low + (intC.bulk x.high + (intC.bulk x.cycle + (intC.bulk x.width + (intC.bulk x.spread + (boolC.bulk x.back + (boolC.bulk x.relative + ((sliceC effectStepC).bulk x.steps))))))))
theorem effectC_size : effectC.size = 9 := rfl
structure RateD where
  time : Int
  percent : Int
deriving DecidableEq
def rateC : Cod RateD where
  size := 2
  is := fun w cs x => cs = [.int .i64 x.time, .int .i64 x.percent] ∧ inI x.time ∧ inI x.percent
  len := fun h => by obtain ⟨rfl, _⟩ := h; rfl
  mono := fun h _ => h
  bulk := fun x => intC.bulk x.time + (intC.bulk x.percent)
theorem rateC_size : rateC.size = 2 := rfl
structure RunningD where
  effect : EffectD
  keys : (List KeyD)
  start : Int
  rates : (List RateD)
  inn : Int
  fin : Int
  out : Int
def runningC : Cod RunningD where
  size := 15
  is := fun w cs x => ∃ v0 v1 v2 : Value, cs = [.int .i64 x.effect.form, .int .i64 x.effect.low, .int .i64 x.effect.high, .int .i64 x.effect.cycle, .int .i64 x.effect.width, .int .i64 x.effect.spread, .bool x.effect.back, .bool x.effect.relative, v0, v1, .int .i64 x.start, v2, .int .i64 x.inn, .int .i64 x.fin, .int .i64 x.out] ∧ inI x.effect.form ∧ inI x.effect.low ∧ inI x.effect.high ∧ inI x.effect.cycle ∧ inI x.effect.width ∧ inI x.effect.spread ∧ (sliceC effectStepC).is w [v0] x.effect.steps ∧ (sliceC keyC).is w [v1] x.keys ∧ inI x.start ∧ (sliceC rateC).is w [v2] x.rates ∧ inI x.inn ∧ inI x.fin ∧ inI x.out
  len := fun h => by obtain ⟨v0, v1, v2, rfl, _⟩ := h; rfl
  mono := fun {w w' cs x} h g => by obtain ⟨v0, v1, v2, e, h0, h1, h2, h3, h4, h5, h6, h7, h8, h9, h10, h11, h12⟩ := h; exact ⟨v0, v1, v2, e, h0, h1, h2, h3, h4, h5, ((sliceC effectStepC)).mono h6 g, ((sliceC keyC)).mono h7 g, h8, ((sliceC rateC)).mono h9 g, h10, h11, h12⟩
  bulk := fun x => effectC.bulk x.effect + ((sliceC keyC).bulk x.keys + (intC.bulk x.start + ((sliceC rateC).bulk x.rates + (intC.bulk x.inn + (intC.bulk x.fin + (intC.bulk x.out))))))
theorem runningC_size : runningC.size = 15 := rfl
end Go.Proofs.Ytjhdogdaldlkhaa
