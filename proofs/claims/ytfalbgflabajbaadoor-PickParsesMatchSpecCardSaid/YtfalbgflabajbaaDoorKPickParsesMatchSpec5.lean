/- Parts of the proof of PickParsesMatchSpec, in order. -/
import Derived.Orders
import Derived.Below
import Derived.WalkKit
import Derived.Test.YtfalbgflabajbaaDoorRows
import Derived.Lib.LaidTab
import Derived.Lib.ItoaNum
import Derived.KernelRfl
import Derived.Laws.StructEq
import Derived.Laws.Append
import Derived.Laws.AppendOwn
import Derived.Lib.Bytealg
import Derived.Sort.Defs
import Derived.Lib.BitFns
import Derived.Lib.Strings
import Derived.Lib.Split
import Derived.Lib.IndexMore
import Derived.Lib.TrimByte
import Derived.Lib.Join
import Derived.Lib.Atoi
import Derived.Test.YtfalbgflabajbaaDoorShelf
import Derived.WalkSpells
import Derived.ProofKit
import Derived.OpenShut
import Derived.Deep.QuietTactic
import Derived.BigQuiet
import Derived.Lib.Hide
import Derived.IntWalk
import Derived.Deep.RegionHeld3
import Derived.Test.YtfalbgflabajbaaDoorTrim
import Derived.Lib.SmallJoins
import Derived.Deep.Slices
import Derived.OwnWalk
import Derived.Laws.OwnMore
import Derived.Deep.AppendLies
import Derived.StillTail
import Derived.Lib.QuietBelow
import Derived.WalkLawsBesides
import Derived.Recover
import Derived.Defers
import Derived.Lib.Builder
import Derived.Lib.AppendStr
import Derived.Lib.UnsafeStr
import Derived.Lib.OthersKept
import Derived.Lib.OwnKind
import Derived.Laws.Externs
import Derived.Shelf.Strings.Builder1
import Derived.Test.YtfalbgflabajbaaDoorKPickParsesMatchSpec4
namespace Go.Proofs.YtfalbgflabajbaaDoor
set_option linter.unusedSectionVars false
set_option linter.unusedVariables false
set_option linter.unusedSimpArgs false
structure S4In (T : List TokD) (s : S4) : Prop where
 lt : s.n < T.length
 lo : -1 ≤ s.bad
 hi : s.bad ≤ 1000000
structure TokOk (T : List TokD) : Prop where
 fin : EndT T
 few : T.length ≤ 1000000
 text : ∀ t ∈ T, t.text.length ≤ 1000000
 pos : ∀ t ∈ T, t.pos ≤ 1000000
section
variable {T : List TokD}
theorem tk4_lt {s : S4} (hs : S4In T s) : T[s.n]? = some (tk4 T s) := by
 unfold tk4
 rw [List.getD_eq_getElem?_getD, List.getElem?_eq_getElem hs.lt]; rfl
theorem isB_w {s : S4} {w : List UInt8} (h : isB T w s = true) : s.done = false ∧ w4T (tk4 T s) = w := by
 unfold isB at h
 rw [Bool.and_eq_true, Bool.not_eq_true'] at h
 exact ⟨h.1, of_decide_eq_true h.2⟩
theorem nx_in (hT : TokOk T) {s : S4} (hs : S4In T s) {b : UInt8} {w : List UInt8} (hb : b ≠ 32) (h : isB T (b :: w) s = true) : S4In T (nxS s) := by
 have ht := tk4_lt hs
 have := ((w4_iff hb).1 (isB_w h).2).1
 exact ⟨hT.fin.next ht (by rw [this]; simp), hs.lo, hs.hi⟩
theorem stop_in (hT : TokOk T) {s : S4} (hs : S4In T s) : S4In T (stopS T s) := by
 unfold stopS
 split
 ·have := hT.pos _ (List.mem_of_getElem? (tk4_lt hs))
  exact ⟨hs.lt, by show (-1 : Int) ≤ ((tk4 T s).pos : Int); omega, by show ((tk4 T s).pos : Int) ≤ 1000000; omega⟩
 ·exact hs
theorem num_in (hT : TokOk T) {s : S4} (hs : S4In T s) : S4In T (numS T s).2 := by
 unfold numS
 split
 ·exact hs
 ·split
  ·rename_i h
   have ht := tk4_lt hs
   refine ⟨hT.fin.next ht (fun e => ?_), hs.lo, hs.hi⟩
   unfold w4T at h
   rw [e] at h
   split at h
   ·exact absurd h (by decide)
   ·exact absurd h (by decide)
  ·exact stop_in hT hs
theorem must_in (hT : TokOk T) {s : S4} (hs : S4In T s) {b : UInt8} {w : List UInt8} (hb : b ≠ 32) : S4In T (mustS T (b :: w) s) := by
 unfold mustS
 split
 ·exact hs
 ·split
  ·rename_i h; exact nx_in hT hs hb h
  ·exact stop_in hT hs
theorem map_in {α β : Type} {q : Option α} {g : α → β} {r : β} (h : q.map g = some r) : ∃ x, q = some x ∧ g x = r := Option.map_eq_some_iff.1 h
theorem all_in (hT : TokOk T) (f : Nat) : (∀ deep s r, S4In T s → simS T f deep s = some r → S4In T r.2) ∧ (∀ deep s r, S4In T s → preS T f deep s = some r → S4In T r.2) ∧ (∀ deep s r, S4In T s → whS T f deep s = some r → S4In T r.2) ∧ (∀ deep p b s r, S4In T s → rwS T f deep p b s = some r → S4In T r.2) := by
 induction f with
 | zero =>
  refine ⟨fun deep s r hs h => ?_, fun deep s r hs h => ?_, fun deep s r hs h => ?_, fun deep p b s r hs h => ?_⟩
  ·rw [simS] at h; split at h
   ·injection h with h; subst h; exact hs
   ·cases h
  ·rw [preS] at h; split at h
   ·injection h with h; subst h; exact hs
   ·cases h
  ·rw [whS] at h; cases h
  ·rw [rwS] at h; split at h
   ·injection h with h; subst h; exact hs
   ·cases h
 | succ f ih =>
  obtain ⟨i1, i2, i3, i4⟩ := ih
  refine ⟨fun deep s r hs h => ?_, fun deep s r hs h => ?_, fun deep s r hs h => ?_, fun deep p b s r hs h => ?_⟩
  ·rw [simS] at h
   by_cases c0 : s.done = true
   ·rw [if_pos c0] at h; injection h with h; subst h; exact hs
   rw [if_neg c0] at h
   by_cases c1 : (kwB (w4T (tk4 T s)) && decide (100 < deep)) = true
   ·rw [if_pos c1] at h; injection h with h; subst h; exact ⟨hs.lt, hs.lo, hs.hi⟩
   rw [if_neg c1] at h
   by_cases hB : isB T wOpen s = true
   ·rw [if_pos hB] at h
    obtain ⟨x, hx, rfl⟩ := map_in h
    exact must_in hT (b := 41) (w := []) (i3 _ _ x (nx_in hT hs (by decide) hB) hx) (by decide)
   rw [if_neg hB] at h
   clear hB
   by_cases hB : isB T wOdd s = true
   ·rw [if_pos hB] at h
    obtain ⟨x, hx, rfl⟩ := map_in h
    exact i2 _ _ x (nx_in hT hs (by decide) hB) hx
   rw [if_neg hB] at h
   clear hB
   by_cases hB : isB T wEven s = true
   ·rw [if_pos hB] at h
    obtain ⟨x, hx, rfl⟩ := map_in h
    exact i2 _ _ x (nx_in hT hs (by decide) hB) hx
   rw [if_neg hB] at h
   clear hB
   by_cases hB : isB T wBk s = true
   ·rw [if_pos hB] at h
    obtain ⟨x, hx, rfl⟩ := map_in h
    exact i2 _ _ x (nx_in hT hs (by decide) hB) hx
   rw [if_neg hB] at h
   clear hB
   by_cases hB : isB T wEvery s = true
   ·rw [if_pos hB] at h
    obtain ⟨x, hx, rfl⟩ := map_in h
    exact i2 _ _ x (num_in hT (must_in hT (b := 102) (w := [114, 111, 109]) (num_in hT (nx_in hT hs (by decide) hB)) (by decide))) hx
   rw [if_neg hB] at h
   clear hB
   by_cases hB : isB T wGroup s = true
   ·rw [if_pos hB] at h
    injection h with h; subst h
    exact num_in hT (nx_in hT hs (by decide) hB)
   rw [if_neg hB] at h
   clear hB
   by_cases hB : isB T wPreset s = true
   ·rw [if_pos hB] at h
    injection h with h; subst h
    exact num_in hT (nx_in hT hs (by decide) hB)
   rw [if_neg hB] at h
   clear hB
   by_cases hB : isB T wThru (numS T s).2 = true
   ·rw [if_pos hB] at h
    have hn := nx_in hT (num_in hT hs) (by decide) hB
    have hm := num_in hT hn
    by_cases c2 : (!(numS T (nxS (numS T s).2)).2.done && decide ((numS T (nxS (numS T s).2)).1 = (numS T s).1)) = true
    ·rw [if_pos c2] at h
     injection h with h; subst h
     have := hT.pos _ (List.mem_of_getElem? (tk4_lt hn))
     exact ⟨hm.lt, by show (-1 : Int) ≤ ((tk4 T (nxS (numS T s).2)).pos : Int); omega, by show ((tk4 T (nxS (numS T s).2)).pos : Int) ≤ 1000000; omega⟩
    ·rw [if_neg c2] at h
     injection h with h; subst h; exact hm
   ·rw [if_neg hB] at h
    injection h with h; subst h; exact num_in hT hs
  ·rw [preS] at h; split at h
   ·injection h with h; subst h; exact hs
   ·exact i1 _ _ _ hs h
  ·rw [whS] at h
   obtain ⟨x, hx, h⟩ := Option.bind_eq_some_iff.1 h
   exact i4 _ _ _ _ _ (i1 _ _ _ hs hx) h
  ·rw [rwS] at h
   split at h
   ·injection h with h; subst h; exact hs
   split at h
   ·rename_i hB
    obtain ⟨x, hx, h⟩ := Option.bind_eq_some_iff.1 h
    exact i4 _ _ _ _ _ (i1 _ _ _ (nx_in hT hs (by decide) hB) hx) h
   split at h
   ·rename_i hB
    obtain ⟨x, hx, h⟩ := Option.bind_eq_some_iff.1 h
    exact i4 _ _ _ _ _ (i1 _ _ _ (nx_in hT hs (by decide) hB) hx) h
   ·injection h with h; subst h; exact hs
end
end Go.Proofs.YtfalbgflabajbaaDoor

namespace Go.Proofs.YtfalbgflabajbaaDoor
set_option linter.unusedSectionVars false
open Go.RowKit Go.Sort
set_option linter.unusedVariables false
set_option linter.unusedSimpArgs false
set_option maxRecDepth 100000
theorem n1_dig {s : ByteArray} (h0 : s.size ≠ 0) (h : ∀ j (hj : j < s.size), 48 ≤ s[j].toNat ∧ s[j].toNat ≤ 57) : digZ s = true := by
 unfold digZ
 rw [Bool.and_eq_true, Bool.not_eq_true', List.isEmpty_eq_false_iff, List.all_eq_true]
 have hl : (lZ s).length = s.size := rfl
 refine ⟨fun e => h0 (by rw [← hl, e]; rfl), fun b hb => ?_⟩
 obtain ⟨j, hj, rfl⟩ := List.getElem_of_mem hb
 exact decide_eq_true (h j hj)
theorem n1_not {s : ByteArray} {j : Nat} (hj : j < s.size) (h : ¬ (48 ≤ s[j].toNat ∧ s[j].toNat ≤ 57)) : digZ s = false := by
 unfold digZ
 rw [Bool.and_eq_false_iff]
 right
 rw [List.all_eq_false]
 exact ⟨s[j], List.getElem_mem (l := lZ s) hj, by simp [digB]; omega⟩
theorem n1_empty {s : ByteArray} (h0 : s.size = 0) : s = ⟨#[]⟩ := by
 apply ByteArray.ext
 exact Array.eq_empty_of_size_eq_zero h0
theorem n1_ne {s : ByteArray} (h0 : s.size ≠ 0) : (s.toList == []) = false := by
 rw [beq_eq_false_iff_ne, ByteArray.toList_eq]
 intro e
 exact h0 (by have := congrArg List.length e; simpa using this)
theorem n1_zero {s : ByteArray} (h0 : 0 < s.size) (h48 : s[0].toNat = 48) : (s.toList == [48]) = decide (s.size = 1) := by
 rw [ByteArray.toList_eq]
 have hl : s.data.toList.length = s.size := rfl
 by_cases h1 : s.size = 1
 ·rw [decide_eq_true h1, beq_iff_eq]
  apply List.ext_getElem
  ·rw [hl, h1]; rfl
  ·intro i a b
   have : i = 0 := by simp at b; exact b
   subst this
   exact UInt8.toNat_inj.1 h48
 ·rw [decide_eq_false h1, beq_eq_false_iff_ne]
  intro e
  rw [e] at hl
  exact h1 hl.symm
set_option maxHeartbeats 2000000 in
theorem R1Number_any (s : ByteArray) (n : Int) (hs : s.size ≤ 9223372036854775807) (hn : n ≤ 18) (w : World) :
  Calls Tryd.prog 44 #[.string s, .int .i64 n] w fun e w' => e = .returned (.tuple #[.int .i64 (numZ s n).1, .bool (numZ s n).2]) ∧ Gr w w' := by
 by_cases h0 : s.size = 0
 ·have := n1_empty h0
  subst this
  rw [show numZ ⟨#[]⟩ n = (0, false) from if_pos (.inl rfl)]
  go_enter Tryd.func44, Tryd.ntmps44
  go_wp2
  exact bodyPost_ret (v := .tuple #[.int .i64 0, .bool false]) (by simp [results, Tryd.results44, go_sem]) rfl ⟨rfl, (by repeat (first | exact Gr.refl _ | assumption | refine Gr.alloc ?_ _ | refine Gr.drew ?_ | refine Gr.drewN ?_ _ | (refine Gr.put ?_ ?_ _; first | exact Nat.le_refl _ | (simp; done) | omega) | (apply Gr.after; assumption)))⟩
 have hse := n1_ne h0
 by_cases h1 : n < (s.size : Int)
 ·rw [show numZ s n = (0, false) from if_pos (.inr (.inl h1))]
  go_enter Tryd.func44, Tryd.ntmps44
  go_wp2
  all_goals exact bodyPost_ret (v := .tuple #[.int .i64 0, .bool false]) (by simp [results, Tryd.results44, go_sem]) rfl ⟨rfl, (by repeat (first | exact Gr.refl _ | assumption | refine Gr.alloc ?_ _ | refine Gr.drew ?_ | refine Gr.drewN ?_ _ | (refine Gr.put ?_ ?_ _; first | exact Nat.le_refl _ | (simp; done) | omega) | (apply Gr.after; assumption)))⟩
 have hpos : 0 < s.size := by omega
 have hidx : ∀ k : Nat, (h : k < s.size) → (lZ s)[k]? = some s[k] := fun k h => List.getElem?_eq_getElem (by exact h)
 by_cases h2 : s[0].toNat = 48 ∧ s.size ≠ 1
 ·have hz := n1_zero hpos h2.1
  rw [decide_eq_false h2.2] at hz
  have hh : (lZ s).head? = some 48 := by rw [head_get hpos]; exact congrArg some (UInt8.toNat_inj.1 h2.1)
  rw [show numZ s n = (0, false) from if_pos (.inr (.inr ⟨by have := h2.2; omega, hh⟩))]
  have h48 := h2.1
  go_enter Tryd.func44, Tryd.ntmps44
  go_wp2
  all_goals exact bodyPost_ret (v := .tuple #[.int .i64 0, .bool false]) (by simp [results, Tryd.results44, go_sem]) rfl ⟨rfl, (by repeat (first | exact Gr.refl _ | assumption | refine Gr.alloc ?_ _ | refine Gr.drew ?_ | refine Gr.drewN ?_ _ | (refine Gr.put ?_ ?_ _; first | exact Nat.le_refl _ | (simp; done) | omega) | (apply Gr.after; assumption)))⟩
 have hq : ¬ (digZ s = false ∨ n < (s.size : Int) ∨ (1 < s.size ∧ (lZ s).head? = some 48)) ∨ digZ s = false := by
  by_cases hd : digZ s = false
  ·exact .inr hd
  ·refine .inl fun e => ?_
   rcases e with e | e | ⟨e1, e2⟩
   ·exact hd e
   ·exact h1 e
   ·rw [head_get hpos] at e2
    injection e2 with e2
    exact h2 ⟨by rw [e2]; rfl, by omega⟩
 have hA : ∀ (hd : digZ s = true) (W : World), Calls Tryd.prog 47 #[.string s] W fun e w' => e = .returned (.tuple #[.int .i64 ((Lib.decNat (lZ s)).getD 0 : Nat), .nilIface]) ∧ Gr W w' := fun hd W =>
  (Tryd.strconv_Atoi s _ (by omega) (dig_atoi hd) W).mono fun e w' ⟨h, t, hw⟩ => ⟨h, by rw [hw]; exact Go.Joins.below_bytesWorld _ _ _ _ (Nat.le_refl _)⟩
 obtain ⟨r, hr⟩ : ∃ r, r = numZ s n := ⟨_, rfl⟩
 rw [← hr]
 have hr1 : digZ s = false → r = (0, false) := fun h => by rw [hr]; exact if_pos (.inl h)
 have hr2 : digZ s = true → r = ((((Lib.decNat (lZ s)).getD 0 : Nat) : Int), true) := fun h => by
  rw [hr]
  rcases hq with hq | hq
  ·exact if_neg hq
  ·rw [h] at hq; cases hq
 clear hr hq
 generalize ((Lib.decNat (lZ s)).getD 0 : Nat) = m at *
 have HA := Lib.hid hA; clear hA
 have HR1 := Lib.hid hr1; clear hr1
 have HR2 := Lib.hid hr2; clear hr2
 have HI := Lib.hid hidx; clear hidx
 have hz : s[0].toNat = 48 → (s.toList == [48]) = true := fun h => by
  rw [n1_zero hpos h, decide_eq_true]
  exact Classical.byContradiction fun e => h2 ⟨h, e⟩
 by_cases h48 : s[0].toNat = 48
 all_goals
  (try have hz48 := hz h48)
  clear hz
  go_enter Tryd.func44, Tryd.ntmps44
  go_wp2_with fail
  go_loopw [28] (fun v wr => ∃ k : Nat, k ≤ s.size ∧ v = .int .i64 k ∧ Gr w wr ∧ Hid (∀ j (hj : j < k) (hs : j < s.size), 48 ≤ s[j].toNat ∧ s[j].toNat ≤ 57)) (fun v _ => s.size - (intOf v).toNat)
  case atStart => exact ⟨0, Nat.zero_le _, rfl, (by repeat (first | exact Gr.refl _ | assumption | refine Gr.alloc ?_ _ | refine Gr.drew ?_ | refine Gr.drewN ?_ _ | (refine Gr.put ?_ ?_ _; first | exact Nat.le_refl _ | (simp; done) | omega) | (apply Gr.after; assumption))), Lib.hid (fun j hj => by omega)⟩
  case round =>
   obtain ⟨k, hk, rfl, hg, hj⟩ := hrel
   by_cases hlt : k < s.size
   ·by_cases hd : 48 ≤ s[k].toNat ∧ s[k].toNat ≤ 57
    ·obtain ⟨hd1, hd2⟩ := hd
     have hd3 : ¬ s[k].toNat < 48 := by omega
     have hd4 : ¬ 57 < s[k].toNat := by omega
     go_wp2
     go_roundw
     case rel => exact ⟨k + 1, by omega, by go_num, (by repeat (first | exact Gr.refl _ | assumption | refine Gr.alloc ?_ _ | refine Gr.drew ?_ | refine Gr.drewN ?_ _ | (refine Gr.put ?_ ?_ _; first | exact Nat.le_refl _ | (simp; done) | omega) | (apply Gr.after; assumption))), Lib.hid (fun j h1 h2 => by
      by_cases e : j = k
      ·subst e; exact ⟨hd1, hd2⟩
      ·exact hj.out j (by omega) h2)⟩
     case measure => simp [intOf]; omega
    ·have hx := HR1.out (n1_not hlt hd)
     subst hx
     by_cases hd3 : s[k].toNat < 48
     ·go_wp2
      exact bodyPost_ret (v := .tuple #[.int .i64 0, .bool false]) (by simp [results, Tryd.results44, go_sem]) rfl ⟨rfl, (by repeat (first | exact Gr.refl _ | assumption | refine Gr.alloc ?_ _ | refine Gr.drew ?_ | refine Gr.drewN ?_ _ | (refine Gr.put ?_ ?_ _; first | exact Nat.le_refl _ | (simp; done) | omega) | (apply Gr.after; assumption)))⟩
     ·have hd4 : 57 < s[k].toNat := by omega
      go_wp2
      exact bodyPost_ret (v := .tuple #[.int .i64 0, .bool false]) (by simp [results, Tryd.results44, go_sem]) rfl ⟨rfl, (by repeat (first | exact Gr.refl _ | assumption | refine Gr.alloc ?_ _ | refine Gr.drew ?_ | refine Gr.drewN ?_ _ | (refine Gr.put ?_ ?_ _; first | exact Nat.le_refl _ | (simp; done) | omega) | (apply Gr.after; assumption)))⟩
   ·have hk' : k = s.size := by omega
    subst hk'
    have hdz := n1_dig h0 (fun j h => hj.out j h h)
    have hx := HR2.out hdz
    subst hx
    have HC := Lib.hid (HA.out hdz)
    go_wp2_with (go_at_call 47; refine (HC.out _).mono ?_; rintro e w2 ⟨rfl, hb2⟩)
    exact bodyPost_ret (v := .tuple #[.int .i64 (m : Int), .bool true]) (by simp [results, Tryd.results44, go_sem]) rfl ⟨rfl, (by repeat (first | exact Gr.refl _ | assumption | refine Gr.alloc ?_ _ | refine Gr.drew ?_ | refine Gr.drewN ?_ _ | (refine Gr.put ?_ ?_ _; first | exact Nat.le_refl _ | (simp; done) | omega) | (apply Gr.after; assumption)))⟩
end Go.Proofs.YtfalbgflabajbaaDoor

namespace Go.Proofs.YtfalbgflabajbaaDoor
set_option linter.unusedSectionVars false
open Go.RowKit Go.Sort
set_option linter.unusedVariables false
set_option linter.unusedSimpArgs false
set_option maxRecDepth 100000
structure R4At (T : List TokD) (tb off cap rb : Nat) (w : World) (s : S4) : Prop where
 here : Box4 w rb (.slice (some ⟨tb, off, none⟩) T.length cap) (.int .i64 s.n) (.int .i64 s.bad) (.bool s.lg)
 ne : tb ≠ rb
 word : ∀ (i : Nat) (t : TokD), T[i]? = some t → w.cell? ⟨tb, off + i * 2, none⟩ = some (.string (bZ (w4T t))) ∧ w.cell? ⟨tb, off + i * 2 + 1, none⟩ = some (.int .i64 t.pos)
section
variable {T : List TokD} {tb off cap rb : Nat}
theorem R4At.mono {s : S4} {w w' : World} (h : R4At T tb off cap rb w s) (g : Gr w w') : R4At T tb off cap rb w' s := by
 refine ⟨h.here.mono g, h.ne, fun i t ht => ?_⟩
 obtain ⟨a, b⟩ := h.word i t ht
 exact ⟨g.cell a, g.cell b⟩
theorem R4At.to {s s' : S4} {w w' : World} (h : R4At T tb off cap rb w s) (g : GrX rb w w') (hh : Box4 w' rb (.slice (some ⟨tb, off, none⟩) T.length cap) (.int .i64 s'.n) (.int .i64 s'.bad) (.bool s'.lg)) : R4At T tb off cap rb w' s' := by
 refine ⟨hh, h.ne, fun i t ht => ?_⟩
 obtain ⟨a, b⟩ := h.word i t ht
 exact ⟨g.cell (row := none) h.ne a, g.cell (row := none) h.ne b⟩
theorem R4At.other {s : S4} {b o : Nat} {w : World} {u : Value} (h : R4At T tb off cap rb w s) (h1 : b ≠ rb) (h2 : b ≠ tb) : R4At T tb off cap rb (w.setCell ⟨b, o, none⟩ u) s := by
 refine ⟨h.here.other h1, h.ne, fun i t ht => ?_⟩
 obtain ⟨a, c⟩ := h.word i t ht
 have e := heap_setCell_ne w h2 o u
 exact ⟨by rw [← a]; simp only [World.cell?, e], by rw [← c]; simp only [World.cell?, e]⟩
theorem R4At.grown {s : S4} {bk : Nat} {w w' : World} (h : R4At T tb off cap rb w s) (hg : w.grownBy w' (some bk)) (h1 : bk ≠ rb) (h2 : bk ≠ tb) : R4At T tb off cap rb w' s := by
 refine ⟨Box4.grown h.here hg (Ne.symm h1), h.ne, fun i t ht => ?_⟩
 obtain ⟨a, b⟩ := h.word i t ht
 have hne : ∀ j, some (⟨tb, j, none⟩ : Addr).block ≠ some bk := fun j e => by injection e with e; exact h2 e.symm
 exact ⟨hg.cell a (hne _), hg.cell b (hne _)⟩
theorem R4At.drew {s : S4} {w : World} (h : R4At T tb off cap rb w s) : R4At T tb off cap rb w.drew s := ⟨h.here, h.ne, h.word⟩
theorem R4At.tb_lt {s : S4} {w : World} (h : R4At T tb off cap rb w s) (h0 : 0 < T.length) : tb < w.heap.size := block_lt_of_cell (h.word 0 T[0] (List.getElem?_eq_getElem h0)).1
theorem done4 {s : S4} {W : World} (h : R4At T tb off cap rb W s) : Calls Tryd.prog 17 #[.pointer (some ⟨rb, 0, none⟩)] W fun e w' => e = .returned (.bool s.done) ∧ w' = W := by
 obtain ⟨⟨k0, k1, k2, k3⟩, _, hrb⟩ := h.here
 unfold S4.done
 by_cases hb : 0 ≤ s.bad
 ·rw [decide_eq_true hb, Bool.true_or]
  go_enter Tryd.func17, Tryd.ntmps17
  go_wp2
  exact bodyPost_ret (v := .bool true) (by simp [results, Tryd.results17, go_sem]) rfl ⟨rfl, rfl⟩
 ·rw [decide_eq_false hb, Bool.false_or]
  go_enter Tryd.func17, Tryd.ntmps17
  go_wp2
  exact bodyPost_ret (v := .bool s.lg) (by simp [results, Tryd.results17, go_sem]) rfl ⟨rfl, rfl⟩
theorem R4At.drewN {s : S4} {w : World} (h : R4At T tb off cap rb w s) (n : Nat) : R4At T tb off cap rb (w.drewN n) s := ⟨h.here, h.ne, h.word⟩
theorem cD4 {s : S4} {W : World} (h : R4At T tb off cap rb W s) (n : Nat) : Calls Tryd.prog 17 #[.pointer (some ⟨rb, 0, none⟩)] (W.drewN n) fun e w'' => e = .returned (.bool s.done) ∧ ∃ m, w'' = W.drewN m :=
 (done4 (h.drewN n)).mono fun _ _ ⟨he, hm⟩ => ⟨he, n, hm⟩
theorem GrX.drewN {rb : Nat} {W w : World} (h : GrX rb W w) (n : Nat) : GrX rb W (w.drewN n) := ⟨h.os, h.tape, h.output, h.size, h.block⟩
theorem Box4.drewN {w : World} {b : Nat} {v0 v1 v2 v3 : Value} (k : Box4 w b v0 v1 v2 v3) (n : Nat) : Box4 (w.drewN n) b v0 v1 v2 v3 := k
theorem is4 {s : S4} (hs : S4In T s) {W : World} (h : R4At T tb off cap rb W s) (hl : T.length ≤ 1000000) (ws : List UInt8) :
  Calls Tryd.prog 29 #[.pointer (some ⟨rb, 0, none⟩), .string (bZ ws)] W fun e w' => e = .returned (.bool (isB T ws s)) ∧ GrX rb W w' ∧ R4At T tb off cap rb w' (isS T ws s) := by
 have hD := cD4 h
 have hlt := hs.lt
 have HH := Lib.hid h
 unfold isS
 cases hd : s.done with
 | true =>
  rw [hd] at hD
  rw [isB_done hd, if_neg (by simp)]
  clear h
  go_enter Tryd.func29, Tryd.ntmps29
  go_wp2
  go_quiet (with_reducible exact hD _)
  go_wp2
  exact bodyPost_ret (v := .bool false) (by simp [results, Tryd.results29, go_sem]) rfl ⟨rfl, GrX.drewN (GrX.refl rb W) _, HH.out.drewN _⟩
 | false =>
  rw [hd] at hD
  have K := h.here
  obtain ⟨⟨k0, k1, k2, k3⟩, ⟨f0, f1, f2, f3⟩, hrb⟩ := K
  obtain ⟨q0, q1⟩ := h.word s.n _ (tk4_lt hs)
  have hb : (0 : Int) ≤ (s.n : Int) ∧ (s.n : Int) < (T.length : Int) := ⟨by omega, by omega⟩
  have hw : IntKind.i64.wrap ((s.n : Int) + 1) = ((s.n + 1 : Nat) : Int) := by rw [wrap_in (by omega)]; omega
  clear h
  by_cases he : w4T (tk4 T s) = ws
  ·have hB : isB T ws s = true := by unfold isB; rw [hd, decide_eq_true he]; rfl
   rw [hB, if_pos rfl]
   rw [he] at q0
   have hee : ((bZ ws).toList == (bZ ws).toList) = true := by simp
   go_enter Tryd.func29, Tryd.ntmps29
   go_wp2
   go_quiet (with_reducible exact hD _)
   go_wp2
   exact bodyPost_ret (v := .bool true) (by simp [results, Tryd.results29, go_sem]) rfl ⟨rfl, (GrX.drewN (GrX.refl rb W) _).set _, HH.out.to (s' := nxS s) ((GrX.drewN (GrX.refl rb W) _).set _) (Box4.st1 (Box4.drewN HH.out.here _))⟩
  ·have hB : isB T ws s = false := by unfold isB; rw [hd, decide_eq_false he]; rfl
   rw [hB, if_neg (by simp)]
   have hee : ((bZ (w4T (tk4 T s))).toList == (bZ ws).toList) = false := zbytes_ne (fun e => he (by have := congrArg lZ e; rwa [show lZ (bZ (w4T (tk4 T s))) = w4T (tk4 T s) from by simp [lZ, bZ], show lZ (bZ ws) = ws from by simp [lZ, bZ]] at this))
   go_enter Tryd.func29, Tryd.ntmps29
   go_wp2
   go_quiet (with_reducible exact hD _)
   go_wp2
   exact bodyPost_ret (v := .bool false) (by simp [results, Tryd.results29, go_sem]) rfl ⟨rfl, GrX.drewN (GrX.refl rb W) _, HH.out.drewN _⟩
end
end Go.Proofs.YtfalbgflabajbaaDoor

namespace Go.Proofs.YtfalbgflabajbaaDoor
set_option linter.unusedSectionVars false
open Go.RowKit Go.Sort
set_option linter.unusedVariables false
set_option linter.unusedSimpArgs false
set_option maxRecDepth 100000
section
variable {T : List TokD} {tb off cap rb : Nat}
theorem fin4R {W W3 : World} {b : Nat} {s : S4} {v0 v1 v2 v3 : Value} (hX : GrX rb W W3) (hb : W.heap.size ≤ b) (h1 : b ≠ rb) (h2 : b ≠ tb) (BA : Box4 W3 b v0 v1 v2 v3) (hR : R4At T tb off cap rb W3 s) (u0 u1 u2 u3 : Value) :
  ((W3.setCell ⟨b, 0, none⟩ u0).cell? ⟨b, 0, none⟩ = some u0 ∧ ((W3.setCell ⟨b, 0, none⟩ u0).setCell ⟨b, 1, none⟩ u1).cell? ⟨b, 1, none⟩ = some u1 ∧ (((W3.setCell ⟨b, 0, none⟩ u0).setCell ⟨b, 1, none⟩ u1).setCell ⟨b, 2, none⟩ u2).cell? ⟨b, 2, none⟩ = some u2 ∧ ((((W3.setCell ⟨b, 0, none⟩ u0).setCell ⟨b, 1, none⟩ u1).setCell ⟨b, 2, none⟩ u2).setCell ⟨b, 3, none⟩ u3).cell? ⟨b, 3, none⟩ = some u3) ∧
  GrX rb W ((((W3.setCell ⟨b, 0, none⟩ u0).setCell ⟨b, 1, none⟩ u1).setCell ⟨b, 2, none⟩ u2).setCell ⟨b, 3, none⟩ u3) ∧
  R4At T tb off cap rb ((((W3.setCell ⟨b, 0, none⟩ u0).setCell ⟨b, 1, none⟩ u1).setCell ⟨b, 2, none⟩ u2).setCell ⟨b, 3, none⟩ u3) s ∧
  (∀ k, k ≠ b → ((((W3.setCell ⟨b, 0, none⟩ u0).setCell ⟨b, 1, none⟩ u1).setCell ⟨b, 2, none⟩ u2).setCell ⟨b, 3, none⟩ u3).heap[k]? = W3.heap[k]?) ∧
  ((((W3.setCell ⟨b, 0, none⟩ u0).setCell ⟨b, 1, none⟩ u1).setCell ⟨b, 2, none⟩ u2).setCell ⟨b, 3, none⟩ u3).heap.size = W3.heap.size := by
 refine ⟨putP BA u0 u1 u2 u3, (((hX.put hb u0).put hb u1).put hb u2).put hb u3, (((hR.other h1 h2).other h1 h2).other h1 h2).other h1 h2, fun k hk => ?_, by simp⟩
 rw [heap_setCell_ne _ (Ne.symm hk), heap_setCell_ne _ (Ne.symm hk), heap_setCell_ne _ (Ne.symm hk), heap_setCell_ne _ (Ne.symm hk)]
theorem stop4 {s : S4} (hs : S4In T s) {W : World} (h : R4At T tb off cap rb W s) (hl : T.length ≤ 1000000) :
  Calls Tryd.prog 18 #[.pointer (some ⟨rb, 0, none⟩)] W fun e w' => e = .returned (.agg #[.int .i64 0, .int .i64 0, .int .i64 0, .slice none 0 0]) ∧ GrX rb W w' ∧ R4At T tb off cap rb w' (stopS T s) := by
 have hlt := hs.lt
 have hrb := h.here.2.2
 have hne : W.heap.size ≠ rb := by omega
 have hne2 : W.heap.size ≠ tb := by have := h.tb_lt (by omega); omega
 have g2 : Below W.heap.size W (W.alloc (.cells #[.int .i64 0, .int .i64 0, .int .i64 0, .slice none 0 0] 24)) := (Below.refl _ _).alloc (Nat.le_refl _) _
 have hcel : (W.alloc (.cells #[.int .i64 0, .int .i64 0, .int .i64 0, .slice none 0 0] 24)).heap[W.heap.size]? = some (.cells #[.int .i64 0, .int .i64 0, .int .i64 0, .slice none 0 0] 24 (0, 0)) := heap_alloc_new W _
 have H2 := h.mono g2
 have HH := Lib.hid (And.intro H2 (And.intro g2 hcel))
 unfold stopS
 by_cases hb : s.bad < 0
 ·rw [if_pos hb]
  obtain ⟨⟨k0, k1, k2, k3⟩, ⟨f0, f1, f2, f3⟩, hrb2⟩ := H2.here
  clear h g2 hcel H2
  go_enter Tryd.func18, Tryd.ntmps18
  go_wp2_with fail
  obtain ⟨H2, g2, hcel⟩ := HH.out
  clear HH
  generalize W.alloc (.cells #[.int .i64 0, .int .i64 0, .int .i64 0, .slice none 0 0] 24) = W2 at *
  have k0' := cell_regrown k0
  have k1' := cell_regrown k1
  obtain ⟨q0, q1⟩ := H2.word s.n _ (tk4_lt hs)
  have q1' := cell_regrown q1
  have hbd : (0 : Int) ≤ (s.n : Int) ∧ (s.n : Int) < (T.length : Int) := ⟨by omega, by omega⟩
  refine wp_region_below_tail 12 (by kernel_rfl) (by kernel_rfl) ?_
  simp only [List.take_succ_cons, List.take_zero, List.drop_succ_cons, List.drop_zero]
  repeat (quiet_step (fail))
  refine wpQuiet_nil ?_
  intro w' hw'
  obtain ⟨⟨dq, osq⟩, rfl⟩ := hw'
  have g3 := below_regrown W2 dq osq
  have H3 := H2.mono g3
  have hc3 : (grow (redrawn W2 dq) osq).heap[W.heap.size]? = some (.cells #[.int .i64 0, .int .i64 0, .int .i64 0, .slice none 0 0] 24 (0, 0)) := (g3.block _ (Array.getElem?_eq_some_iff.1 hcel).1).trans hcel
  have g4 : Below W.heap.size W (grow (redrawn W2 dq) osq) := g2.trans (g3.mono g2.size)
  clear g2 g3 hcel k0 k1 k2 k3 f0 f1 f2 f3 k0' k1' q0 q1 q1'
  generalize grow (redrawn W2 dq) osq = W3 at *
  have H4 := H3.to (s' := ⟨s.n, (tk4 T s).pos, s.lg⟩) ((GrX.refl rb W3).set _) (Box4.st2 H3.here (u := .int .i64 (tk4 T s).pos))
  have B4 := Box4.other (Box4.of hc3) (c := rb) (o := 2) (u := .int .i64 (tk4 T s).pos) (Ne.symm hne)
  have gx : GrX rb W (W3.setCell ⟨rb, 2, none⟩ (.int .i64 (tk4 T s).pos)) := (GrX.of g4).set _
  have KK := H3.here
  obtain ⟨⟨k0, k1, k2, k3⟩, ⟨f0, f1, f2, f3⟩, hr3⟩ := KK
  have h0 : 0 < T.length := by omega
  have B5 := B4
  obtain ⟨⟨c0, c1, c2, c3⟩, ⟨d0, d1, d2, d3⟩, hlb⟩ := B5
  go_wp2_with fail
  obtain ⟨⟨c0, c1, c2, c3⟩, hXf, hRf, _, _⟩ := fin4R gx (Nat.le_refl _) hne hne2 B4 H4 (.int .i64 0) (.int .i64 0) (.int .i64 0) (.slice none 0 0)
  exact bodyPost_ret (v := .agg #[.int .i64 0, .int .i64 0, .int .i64 0, .slice none 0 0]) (by simp [results, Tryd.results18, go_sem, c0, c1, c2, c3]) rfl ⟨rfl, hXf, hRf⟩
 ·rw [if_neg hb]
  obtain ⟨⟨k0, k1, k2, k3⟩, ⟨f0, f1, f2, f3⟩, hrb2⟩ := H2.here
  clear h g2 hcel H2
  go_enter Tryd.func18, Tryd.ntmps18
  go_wp2_with fail
  obtain ⟨H2, g2, hcel⟩ := HH.out
  have c0 := Lib.cell_of_heap hcel 0
  have c1 := Lib.cell_of_heap hcel 1
  have c2 := Lib.cell_of_heap hcel 2
  have c3 := Lib.cell_of_heap hcel 3
  exact bodyPost_ret (v := .agg #[.int .i64 0, .int .i64 0, .int .i64 0, .slice none 0 0]) (by simp [results, Tryd.results18, go_sem, c0, c1, c2, c3]) rfl ⟨rfl, GrX.of g2, H2⟩
theorem num4 {s : S4} (hs : S4In T s) {W : World} (h : R4At T tb off cap rb W s) (hl : T.length ≤ 1000000) (htx : ∀ t ∈ T, t.text.length ≤ 1000000) :
  Calls Tryd.prog 39 #[.pointer (some ⟨rb, 0, none⟩)] W fun e w' => e = .returned (.int .i64 (numS T s).1) ∧ GrX rb W w' ∧ R4At T tb off cap rb w' (numS T s).2 := by
 have hlt := hs.lt
 have hD := Lib.hid (done4 h)
 cases hd : s.done with
 | true =>
  rw [hd] at hD
  rw [numS_done hd]
  have HH := Lib.hid h
  clear h
  go_enter Tryd.func39, Tryd.ntmps39
  go_wp2_with (go_at_call 17; (with_reducible refine hD.out.mono ?_); rintro e w1 ⟨rfl, hw1⟩; obtain rfl := hw1.symm)
  exact bodyPost_ret (v := .int .i64 0) (by simp [results, Tryd.results39, go_sem]) rfl ⟨rfl, GrX.refl rb W, HH.out⟩
 | false =>
  rw [hd] at hD
  have hsz : (bZ (w4T (tk4 T s))).size ≤ 9223372036854775807 := by
   have h1 := htx _ (List.mem_of_getElem? (tk4_lt hs))
   have h2 : (w4T (tk4 T s)).length ≤ (tk4 T s).text.length + 1 := by unfold w4T; split <;> simp
   have h3 : (bZ (w4T (tk4 T s))).size = (w4T (tk4 T s)).length := by simp [bZ, ByteArray.size]
   omega
  have hN : ∀ d os, Calls Tryd.prog 44 #[.string (bZ (w4T (tk4 T s))), .int .i64 9] (grow (redrawn W d) os) fun e w'' => e = .returned (.tuple #[.int .i64 (numZ (bZ (w4T (tk4 T s))) 9).1, .bool (numZ (bZ (w4T (tk4 T s))) 9).2]) ∧ ∃ p : Regrown, w'' = grow (redrawn W p.d) p.os := fun d os => Calls.regrown_of (R1Number_any _ 9 hsz (by omega) _)
  have K := h.here
  obtain ⟨⟨k0, k1, k2, k3⟩, _, hrb⟩ := K
  have k0' := cell_regrown k0
  have k1' := cell_regrown k1
  obtain ⟨q0, q1⟩ := h.word s.n _ (tk4_lt hs)
  have q0' := cell_regrown q0
  have hb : (0 : Int) ≤ (s.n : Int) ∧ (s.n : Int) < (T.length : Int) := ⟨by omega, by omega⟩
  have hw : IntKind.i64.wrap ((s.n : Int) + 1) = ((s.n + 1 : Nat) : Int) := by rw [wrap_in (by omega)]; omega
  have HH := Lib.hid h
  clear h
  unfold numS
  rw [hd, if_neg (by simp)]
  generalize numZ (bZ (w4T (tk4 T s))) 9 = r at *
  obtain ⟨n, b⟩ := r
  simp only at hN
  go_enter Tryd.func39, Tryd.ntmps39
  go_wp2_with (go_at_call 17; (with_reducible refine hD.out.mono ?_); rintro e w1 ⟨rfl, hw1⟩; obtain rfl := hw1.symm)
  refine wp_region_quiet_below (by kernel_rfl) (by kernel_rfl) ?_
  repeat (quiet_step (with_reducible exact hN _ _))
  refine wpQuiet_nil ?_
  intro w' hw'
  obtain ⟨⟨dq, osq⟩, rfl⟩ := hw'
  have g3 := below_regrown W dq osq
  have H3 := HH.out.mono g3
  clear k0 k1 k2 k3 k0' k1' q0 q1 q0' hN hD
  generalize grow (redrawn W dq) osq = W3 at *
  cases b with
  | true =>
   have K := H3.here
   obtain ⟨⟨k0, k1, k2, k3⟩, ⟨f0, f1, f2, f3⟩, hrb⟩ := K
   have HX := Lib.hid H3
   clear H3
   go_wp2
   exact bodyPost_ret (v := .int .i64 n) (by simp [results, Tryd.results39, go_sem]) rfl ⟨rfl, (GrX.of g3).set _, HX.out.to (s' := nxS s) ((GrX.refl rb W3).set _) (Box4.st1 HX.out.here)⟩
  | false =>
   have hS := Lib.hid (stop4 hs H3 hl)
   go_wp2_with (go_at_call 18; (with_reducible refine hS.out.mono ?_); rintro e w2 ⟨rfl, hX, hR⟩)
   exact bodyPost_ret (v := .int .i64 0) (by simp [results, Tryd.results39, go_sem]) rfl ⟨rfl, (GrX.of g3).trans hX, hR⟩
theorem must4 {s : S4} (hs : S4In T s) {W : World} (h : R4At T tb off cap rb W s) (hl : T.length ≤ 1000000) (ws : List UInt8) :
  Calls Tryd.prog 38 #[.pointer (some ⟨rb, 0, none⟩), .string (bZ ws)] W fun e w' => e = .returned (.tuple #[]) ∧ GrX rb W w' ∧ R4At T tb off cap rb w' (mustS T ws s) := by
 have hD := Lib.hid (done4 h)
 unfold mustS
 cases hd : s.done with
 | true =>
  rw [hd] at hD
  rw [if_pos rfl]
  have HH := Lib.hid h
  clear h
  go_enter Tryd.func38, Tryd.ntmps38
  go_wp2_with (go_at_call 17; (with_reducible refine hD.out.mono ?_); rintro e w1 ⟨rfl, hw1⟩; obtain rfl := hw1.symm)
  go_end0
  exact ⟨rfl, GrX.refl rb W, HH.out⟩
 | false =>
  rw [hd] at hD
  rw [if_neg (by simp)]
  have hI := Lib.hid (is4 hs h hl ws)
  unfold isS at hI
  cases hB : isB T ws s with
  | true =>
   rw [hB, if_pos rfl] at hI
   rw [if_pos rfl]
   clear h
   go_enter Tryd.func38, Tryd.ntmps38
   go_wp2_with (first
    | (go_at_call 17; (with_reducible refine hD.out.mono ?_); rintro e w1 ⟨rfl, hw1⟩; obtain rfl := hw1.symm)
    | (go_at_call 29; (with_reducible refine hI.out.mono ?_); rintro e w2 ⟨rfl, hX, hR⟩))
   go_end0
   exact ⟨rfl, hX, hR⟩
  | false =>
   rw [hB, if_neg (by simp)] at hI
   rw [if_neg (by simp)]
   clear h
   have hS : ∀ w, R4At T tb off cap rb w s → _ := fun w hw => stop4 hs hw hl
   go_enter Tryd.func38, Tryd.ntmps38
   go_wp2_with (first
    | (go_at_call 17; (with_reducible refine hD.out.mono ?_); rintro e w1 ⟨rfl, hw1⟩; obtain rfl := hw1.symm)
    | (go_at_call 29; (with_reducible refine hI.out.mono ?_); rintro e w2 ⟨rfl, hX, hR⟩)
    | (go_at_call 18; (with_reducible refine (hS _ hR).mono ?_); rintro e w3 ⟨rfl, hX3, hR3⟩))
   go_end0
   exact ⟨rfl, hX.trans hX3, hR3⟩
end
end Go.Proofs.YtfalbgflabajbaaDoor

namespace Go.Proofs.YtfalbgflabajbaaDoor
set_option linter.unusedSectionVars false
open Go.RowKit Go.Sort
set_option linter.unusedVariables false
set_option linter.unusedSimpArgs false
set_option maxRecDepth 100000
section
variable {T : List TokD} {tb off cap rb : Nat}
def Post4 (T : List TokD) (tb off cap rb : Nat) (W : World) (r : PickD × S4) (e : Ending) (w' : World) : Prop := ∃ sv, e = .returned (.agg #[.int .i64 r.1.kind, .int .i64 r.1.frm, .int .i64 r.1.to, sv]) ∧ GrX rb W w' ∧ R4At T tb off cap rb w' r.2 ∧ SvAt w' (newB W w') r.1 sv
def SimS4 (T : List TokD) (tb off cap rb f : Nat) : Prop := ∀ (W : World) (s : S4) (deep : Nat) (r : PickD × S4), deep ≤ 101 → S4In T s → R4At T tb off cap rb W s → simS T f deep s = some r → Calls Tryd.prog 28 #[.pointer (some ⟨rb, 0, none⟩), .int .i64 (deep : Int)] W (Post4 T tb off cap rb W r)
def PreS4 (T : List TokD) (tb off cap rb f : Nat) : Prop := ∀ (W : World) (s : S4) (deep : Nat) (r : PickD × S4), deep ≤ 101 → S4In T s → R4At T tb off cap rb W s → preS T f deep s = some r → Calls Tryd.prog 28 #[.pointer (some ⟨rb, 0, none⟩), .int .i64 (deep : Int)] W (Post4 T tb off cap rb W r)
def WhS4 (T : List TokD) (tb off cap rb f : Nat) : Prop := ∀ (W : World) (s : S4) (deep : Nat) (r : PickD × S4), deep ≤ 101 → S4In T s → R4At T tb off cap rb W s → whS T f deep s = some r → Calls Tryd.prog 16 #[.pointer (some ⟨rb, 0, none⟩), .int .i64 (deep : Int)] W (Post4 T tb off cap rb W r)
theorem eqw (a l : List UInt8) : ((bZ a).toList == l) = decide (a = l) := by
 rw [ByteArray.toList_eq, show (bZ a).data.toList = a from by simp [bZ]]
 by_cases h : a = l
 ·rw [decide_eq_true h, h]; simp
 ·rw [decide_eq_false h, beq_eq_false_iff_ne]; exact h
theorem isB_eq {s : S4} {w : List UInt8} (hd : s.done = false) (h : w4T (tk4 T s) = w) : isB T w s = true := by unfold isB; rw [hd, decide_eq_true h]; rfl
theorem isB_ne {s : S4} {w : List UInt8} (h : w4T (tk4 T s) ≠ w) : isB T w s = false := by unfold isB; rw [decide_eq_false h, Bool.and_false]
theorem is_y {s : S4} (hs : S4In T s) {W : World} (h : R4At T tb off cap rb W s) (hl : T.length ≤ 1000000) (ws : List UInt8) (hB : isB T ws s = true) : Calls Tryd.prog 29 #[.pointer (some ⟨rb, 0, none⟩), .string (bZ ws)] W fun e w' => e = .returned (.bool true) ∧ GrX rb W w' ∧ R4At T tb off cap rb w' (nxS s) := by
 have := is4 hs h hl ws
 unfold isS at this
 rw [hB, if_pos rfl] at this
 exact this
theorem is_n {s : S4} (hs : S4In T s) {W : World} (h : R4At T tb off cap rb W s) (hl : T.length ≤ 1000000) (ws : List UInt8) (hB : isB T ws s = false) : Calls Tryd.prog 29 #[.pointer (some ⟨rb, 0, none⟩), .string (bZ ws)] W fun e w' => e = .returned (.bool false) ∧ GrX rb W w' ∧ R4At T tb off cap rb w' s := by
 have := is4 hs h hl ws
 unfold isS at this
 rw [hB, if_neg (by simp)] at this
 exact this
theorem sim_done {s : S4} {deep : Nat} {W : World} (h0 : 0 < T.length) (hd : s.done = true) (h : R4At T tb off cap rb W s) : Calls Tryd.prog 28 #[.pointer (some ⟨rb, 0, none⟩), .int .i64 (deep : Int)] W (Post4 T tb off cap rb W (zP, s)) := by
 have hrb := h.here.2.2
 have htb := h.tb_lt h0
 have hne : W.heap.size ≠ rb := by omega
 have hne2 : W.heap.size ≠ tb := by omega
 have hG1 : Gr W (W.alloc (.cells #[.int .i64 0, .int .i64 0, .int .i64 0, .slice none 0 0] 24)) := Gr.alloc (Gr.refl W) _
 have hA := Lib.hid (heap_last W (.cells #[.int .i64 0, .int .i64 0, .int .i64 0, .slice none 0 0] 24))
 have hR := Lib.hid (h.mono hG1)
 have hX : GrX rb W (W.alloc (.cells #[.int .i64 0, .int .i64 0, .int .i64 0, .slice none 0 0] 24)) := GrX.ofG hG1
 have D0 := Lib.hid (done4 hR.out)
 rw [hd] at D0
 clear h hG1
 go_enter Tryd.func28, Tryd.ntmps28
 go_wp2_with (go_at_call 17; (with_reducible refine D0.out.mono ?_); rintro e w1 ⟨rfl, hw1⟩; obtain rfl := hw1.symm)
 have c0 := Lib.cell_of_heap hA.out 0
 have c1 := Lib.cell_of_heap hA.out 1
 have c2 := Lib.cell_of_heap hA.out 2
 have c3 := Lib.cell_of_heap hA.out 3
 refine bodyPost_ret (v := .agg #[.int .i64 0, .int .i64 0, .int .i64 0, .slice none 0 0]) (by simp [results, Tryd.results28, go_sem, c0, c1, c2, c3]) rfl ?_
 exact ⟨_, rfl, hX, hR.out, svAt_leaf _ _ _ _ _⟩
set_option maxHeartbeats 2000000 in
theorem sim_group {f deep : Nat} {s : S4} {W : World} (hT : TokOk T) (hs : S4In T s) (hd : s.done = false) (hdp : deep ≤ 101) (hk : w4T (tk4 T s) = wGroup) (h : R4At T tb off cap rb W s) : Calls Tryd.prog 28 #[.pointer (some ⟨rb, 0, none⟩), .int .i64 (deep : Int)] W (Post4 T tb off cap rb W (.mk 2 (numS T (nxS s)).1 0 [], (numS T (nxS s)).2)) := by
 have hlt := hs.lt
 have hrb := h.here.2.2
 have htb := h.tb_lt (by omega)
 have hne : W.heap.size ≠ rb := by omega
 have hne2 : W.heap.size ≠ tb := by omega
 have hG1 : Gr W (W.alloc (.cells #[.int .i64 0, .int .i64 0, .int .i64 0, .slice none 0 0] 24)) := Gr.alloc (Gr.refl W) _
 have hA := Lib.hid (heap_last W (.cells #[.int .i64 0, .int .i64 0, .int .i64 0, .slice none 0 0] 24))
 have hR := Lib.hid (h.mono hG1)
 have hX : GrX rb W (W.alloc (.cells #[.int .i64 0, .int .i64 0, .int .i64 0, .slice none 0 0] 24)) := GrX.ofG hG1
 clear h hG1
 have D0 := Lib.hid (done4 hR.out)
 rw [hd] at D0
 have K := hR.out.here
 obtain ⟨⟨k0, k1, k2, k3⟩, _, hrb2⟩ := K
 have k0' := cell_regrown k0
 have k1' := cell_regrown k1
 obtain ⟨q0, q1⟩ := hR.out.word s.n _ (tk4_lt hs)
 have q0' := cell_regrown q0
 have hbd : (0 : Int) ≤ (s.n : Int) ∧ (s.n : Int) < (T.length : Int) := ⟨by omega, by omega⟩
 have e0 : ((bZ (w4T (tk4 T s))).toList == [40]) = false := by rw [eqw, hk]; decide
 have e1 : ((bZ (w4T (tk4 T s))).toList == [111, 100, 100]) = false := by rw [eqw, hk]; decide
 have e2 : ((bZ (w4T (tk4 T s))).toList == [101, 118, 101, 110]) = false := by rw [eqw, hk]; decide
 have e3 : ((bZ (w4T (tk4 T s))).toList == [98, 97, 99, 107]) = false := by rw [eqw, hk]; decide
 have e4 : ((bZ (w4T (tk4 T s))).toList == [101, 118, 101, 114, 121]) = false := by rw [eqw, hk]; decide
 have I0 : ∀ w, R4At T tb off cap rb w s → Calls Tryd.prog 29 #[.pointer (some ⟨rb, 0, none⟩), .string ⟨#[40]⟩] w fun e w' => e = .returned (.bool false) ∧ GrX rb w w' ∧ R4At T tb off cap rb w' s := fun w hw => is_n hs hw hT.few wOpen (isB_ne (by rw [hk]; decide))
 have I1 : ∀ w, R4At T tb off cap rb w s → Calls Tryd.prog 29 #[.pointer (some ⟨rb, 0, none⟩), .string ⟨#[111, 100, 100]⟩] w fun e w' => e = .returned (.bool false) ∧ GrX rb w w' ∧ R4At T tb off cap rb w' s := fun w hw => is_n hs hw hT.few wOdd (isB_ne (by rw [hk]; decide))
 have I2 : ∀ w, R4At T tb off cap rb w s → Calls Tryd.prog 29 #[.pointer (some ⟨rb, 0, none⟩), .string ⟨#[101, 118, 101, 110]⟩] w fun e w' => e = .returned (.bool false) ∧ GrX rb w w' ∧ R4At T tb off cap rb w' s := fun w hw => is_n hs hw hT.few wEven (isB_ne (by rw [hk]; decide))
 have I3 : ∀ w, R4At T tb off cap rb w s → Calls Tryd.prog 29 #[.pointer (some ⟨rb, 0, none⟩), .string ⟨#[98, 97, 99, 107]⟩] w fun e w' => e = .returned (.bool false) ∧ GrX rb w w' ∧ R4At T tb off cap rb w' s := fun w hw => is_n hs hw hT.few wBk (isB_ne (by rw [hk]; decide))
 have I4 : ∀ w, R4At T tb off cap rb w s → Calls Tryd.prog 29 #[.pointer (some ⟨rb, 0, none⟩), .string ⟨#[101, 118, 101, 114, 121]⟩] w fun e w' => e = .returned (.bool false) ∧ GrX rb w w' ∧ R4At T tb off cap rb w' s := fun w hw => is_n hs hw hT.few wEvery (isB_ne (by rw [hk]; decide))
 have I5 : ∀ w, R4At T tb off cap rb w s → Calls Tryd.prog 29 #[.pointer (some ⟨rb, 0, none⟩), .string ⟨#[103, 114, 111, 117, 112]⟩] w fun e w' => e = .returned (.bool true) ∧ GrX rb w w' ∧ R4At T tb off cap rb w' (nxS s) := fun w hw => is_y hs hw hT.few wGroup (isB_eq hd hk)
 have hsn : S4In T (nxS s) := nx_in hT hs (b := 103) (w := [114, 111, 117, 112]) (by decide) (isB_eq hd hk)
 have hwd : IntKind.i64.wrap ((deep : Int) + 1) = (deep : Int) + 1 := wrap_in (by omega)
 have HE := Lib.hid (And.intro k0' (And.intro k1' (And.intro q0' (And.intro e0 (And.intro e1 (And.intro e2 (And.intro e3 e4)))))))
 clear e0 e1 e2 e3 e4 k0 k1 k2 k3 k0' k1' q0 q1 q0' hk
 have N0 : ∀ w, R4At T tb off cap rb w (nxS s) → _ := fun w hw => num4 hsn hw hT.few hT.text
 generalize numS T (nxS s) = nr at *
 go_enter Tryd.func28, Tryd.ntmps28
 go_wp2_with (go_at_call 17; (with_reducible refine D0.out.mono ?_); rintro e w1 ⟨rfl, hw1⟩; obtain rfl := hw1.symm)
 obtain ⟨k0', k1', q0', e0, e1, e2, e3, e4⟩ := HE.out
 refine wp_region_quiet_below (by kernel_rfl) (by kernel_rfl) ?_
 repeat (quiet_step (fail))
 refine wpQuiet_nil ?_
 intro w' hw'
 obtain ⟨⟨dq, osq⟩, rfl⟩ := hw'
 have g3 := below_regrown (W.alloc (.cells #[.int .i64 0, .int .i64 0, .int .i64 0, .slice none 0 0] 24)) dq osq
 replace hA := Lib.hid ((g3.block _ (Array.getElem?_eq_some_iff.1 hA.out).1).trans hA.out)
 replace hR := Lib.hid (hR.out.mono g3)
 replace hX := hX.trans (GrX.of g3)
 clear g3 k0' k1' q0' D0 HE
 generalize grow (redrawn (W.alloc (.cells #[.int .i64 0, .int .i64 0, .int .i64 0, .slice none 0 0] 24)) dq) osq = W3 at *
 go_wp2_with (first
  | (go_at_call 29; (with_reducible refine (I0 _ hR.out).mono ?_); rintro e w1 ⟨rfl, hXn, hRn⟩; replace hX := hX.trans hXn; replace hR := Lib.hid hRn; replace hA := Lib.hid (hXn.heap hA.out hne); clear hXn hRn)
  | (go_at_call 29; (with_reducible refine (I1 _ hR.out).mono ?_); rintro e w1 ⟨rfl, hXn, hRn⟩; replace hX := hX.trans hXn; replace hR := Lib.hid hRn; replace hA := Lib.hid (hXn.heap hA.out hne); clear hXn hRn)
  | (go_at_call 29; (with_reducible refine (I2 _ hR.out).mono ?_); rintro e w1 ⟨rfl, hXn, hRn⟩; replace hX := hX.trans hXn; replace hR := Lib.hid hRn; replace hA := Lib.hid (hXn.heap hA.out hne); clear hXn hRn)
  | (go_at_call 29; (with_reducible refine (I3 _ hR.out).mono ?_); rintro e w1 ⟨rfl, hXn, hRn⟩; replace hX := hX.trans hXn; replace hR := Lib.hid hRn; replace hA := Lib.hid (hXn.heap hA.out hne); clear hXn hRn)
  | (go_at_call 29; (with_reducible refine (I4 _ hR.out).mono ?_); rintro e w1 ⟨rfl, hXn, hRn⟩; replace hX := hX.trans hXn; replace hR := Lib.hid hRn; replace hA := Lib.hid (hXn.heap hA.out hne); clear hXn hRn)
  | (go_at_call 29; (with_reducible refine (I5 _ hR.out).mono ?_); rintro e w1 ⟨rfl, hXn, hRn⟩; replace hX := hX.trans hXn; replace hR := Lib.hid hRn; replace hA := Lib.hid (hXn.heap hA.out hne); clear hXn hRn)
  | (go_at_call 39; (with_reducible refine (N0 _ hR.out).mono ?_); rintro e w1 ⟨rfl, hXn, hRn⟩; replace hX := hX.trans hXn; replace hR := Lib.hid hRn; replace hA := Lib.hid (hXn.heap hA.out hne); clear hXn hRn; have BA := Box4.of hA.out; obtain ⟨⟨k0, k1, k2, k3⟩, ⟨f0, f1, f2, f3⟩, hbl⟩ := BA))
 obtain ⟨⟨c0, c1, c2, c3⟩, hXf, hRf, hkf, hsf⟩ := fin4R hX (Nat.le_refl _) hne hne2 (Box4.of hA.out) hR.out (.int .i64 2) (.int .i64 nr.1) (.int .i64 0) (.slice none 0 0)
 refine bodyPost_ret (v := .agg #[.int .i64 2, .int .i64 nr.1, .int .i64 0, .slice none 0 0]) (by simp [results, Tryd.results28, go_sem, c0, c1, c2, c3]) rfl ?_
 exact ⟨_, rfl, hXf, hRf, svAt_leaf _ _ _ _ _⟩
set_option maxHeartbeats 2000000 in
theorem sim_preset {f deep : Nat} {s : S4} {W : World} (hT : TokOk T) (hs : S4In T s) (hd : s.done = false) (hdp : deep ≤ 101) (hk : w4T (tk4 T s) = wPreset) (h : R4At T tb off cap rb W s) : Calls Tryd.prog 28 #[.pointer (some ⟨rb, 0, none⟩), .int .i64 (deep : Int)] W (Post4 T tb off cap rb W (.mk 3 (numS T (nxS s)).1 0 [], (numS T (nxS s)).2)) := by
 have hlt := hs.lt
 have hrb := h.here.2.2
 have htb := h.tb_lt (by omega)
 have hne : W.heap.size ≠ rb := by omega
 have hne2 : W.heap.size ≠ tb := by omega
 have hG1 : Gr W (W.alloc (.cells #[.int .i64 0, .int .i64 0, .int .i64 0, .slice none 0 0] 24)) := Gr.alloc (Gr.refl W) _
 have hA := Lib.hid (heap_last W (.cells #[.int .i64 0, .int .i64 0, .int .i64 0, .slice none 0 0] 24))
 have hR := Lib.hid (h.mono hG1)
 have hX : GrX rb W (W.alloc (.cells #[.int .i64 0, .int .i64 0, .int .i64 0, .slice none 0 0] 24)) := GrX.ofG hG1
 clear h hG1
 have D0 := Lib.hid (done4 hR.out)
 rw [hd] at D0
 have K := hR.out.here
 obtain ⟨⟨k0, k1, k2, k3⟩, _, hrb2⟩ := K
 have k0' := cell_regrown k0
 have k1' := cell_regrown k1
 obtain ⟨q0, q1⟩ := hR.out.word s.n _ (tk4_lt hs)
 have q0' := cell_regrown q0
 have hbd : (0 : Int) ≤ (s.n : Int) ∧ (s.n : Int) < (T.length : Int) := ⟨by omega, by omega⟩
 have e0 : ((bZ (w4T (tk4 T s))).toList == [40]) = false := by rw [eqw, hk]; decide
 have e1 : ((bZ (w4T (tk4 T s))).toList == [111, 100, 100]) = false := by rw [eqw, hk]; decide
 have e2 : ((bZ (w4T (tk4 T s))).toList == [101, 118, 101, 110]) = false := by rw [eqw, hk]; decide
 have e3 : ((bZ (w4T (tk4 T s))).toList == [98, 97, 99, 107]) = false := by rw [eqw, hk]; decide
 have e4 : ((bZ (w4T (tk4 T s))).toList == [101, 118, 101, 114, 121]) = false := by rw [eqw, hk]; decide
 have I0 : ∀ w, R4At T tb off cap rb w s → Calls Tryd.prog 29 #[.pointer (some ⟨rb, 0, none⟩), .string ⟨#[40]⟩] w fun e w' => e = .returned (.bool false) ∧ GrX rb w w' ∧ R4At T tb off cap rb w' s := fun w hw => is_n hs hw hT.few wOpen (isB_ne (by rw [hk]; decide))
 have I1 : ∀ w, R4At T tb off cap rb w s → Calls Tryd.prog 29 #[.pointer (some ⟨rb, 0, none⟩), .string ⟨#[111, 100, 100]⟩] w fun e w' => e = .returned (.bool false) ∧ GrX rb w w' ∧ R4At T tb off cap rb w' s := fun w hw => is_n hs hw hT.few wOdd (isB_ne (by rw [hk]; decide))
 have I2 : ∀ w, R4At T tb off cap rb w s → Calls Tryd.prog 29 #[.pointer (some ⟨rb, 0, none⟩), .string ⟨#[101, 118, 101, 110]⟩] w fun e w' => e = .returned (.bool false) ∧ GrX rb w w' ∧ R4At T tb off cap rb w' s := fun w hw => is_n hs hw hT.few wEven (isB_ne (by rw [hk]; decide))
 have I3 : ∀ w, R4At T tb off cap rb w s → Calls Tryd.prog 29 #[.pointer (some ⟨rb, 0, none⟩), .string ⟨#[98, 97, 99, 107]⟩] w fun e w' => e = .returned (.bool false) ∧ GrX rb w w' ∧ R4At T tb off cap rb w' s := fun w hw => is_n hs hw hT.few wBk (isB_ne (by rw [hk]; decide))
 have I4 : ∀ w, R4At T tb off cap rb w s → Calls Tryd.prog 29 #[.pointer (some ⟨rb, 0, none⟩), .string ⟨#[101, 118, 101, 114, 121]⟩] w fun e w' => e = .returned (.bool false) ∧ GrX rb w w' ∧ R4At T tb off cap rb w' s := fun w hw => is_n hs hw hT.few wEvery (isB_ne (by rw [hk]; decide))
 have I5 : ∀ w, R4At T tb off cap rb w s → Calls Tryd.prog 29 #[.pointer (some ⟨rb, 0, none⟩), .string ⟨#[103, 114, 111, 117, 112]⟩] w fun e w' => e = .returned (.bool false) ∧ GrX rb w w' ∧ R4At T tb off cap rb w' s := fun w hw => is_n hs hw hT.few wGroup (isB_ne (by rw [hk]; decide))
 have I6 : ∀ w, R4At T tb off cap rb w s → Calls Tryd.prog 29 #[.pointer (some ⟨rb, 0, none⟩), .string ⟨#[112, 114, 101, 115, 101, 116]⟩] w fun e w' => e = .returned (.bool true) ∧ GrX rb w w' ∧ R4At T tb off cap rb w' (nxS s) := fun w hw => is_y hs hw hT.few wPreset (isB_eq hd hk)
 have hsn : S4In T (nxS s) := nx_in hT hs (b := 112) (w := [114, 101, 115, 101, 116]) (by decide) (isB_eq hd hk)
 have hwd : IntKind.i64.wrap ((deep : Int) + 1) = (deep : Int) + 1 := wrap_in (by omega)
 have HE := Lib.hid (And.intro k0' (And.intro k1' (And.intro q0' (And.intro e0 (And.intro e1 (And.intro e2 (And.intro e3 e4)))))))
 clear e0 e1 e2 e3 e4 k0 k1 k2 k3 k0' k1' q0 q1 q0' hk
 have N0 : ∀ w, R4At T tb off cap rb w (nxS s) → _ := fun w hw => num4 hsn hw hT.few hT.text
 generalize numS T (nxS s) = nr at *
 go_enter Tryd.func28, Tryd.ntmps28
 go_wp2_with (go_at_call 17; (with_reducible refine D0.out.mono ?_); rintro e w1 ⟨rfl, hw1⟩; obtain rfl := hw1.symm)
 obtain ⟨k0', k1', q0', e0, e1, e2, e3, e4⟩ := HE.out
 refine wp_region_quiet_below (by kernel_rfl) (by kernel_rfl) ?_
 repeat (quiet_step (fail))
 refine wpQuiet_nil ?_
 intro w' hw'
 obtain ⟨⟨dq, osq⟩, rfl⟩ := hw'
 have g3 := below_regrown (W.alloc (.cells #[.int .i64 0, .int .i64 0, .int .i64 0, .slice none 0 0] 24)) dq osq
 replace hA := Lib.hid ((g3.block _ (Array.getElem?_eq_some_iff.1 hA.out).1).trans hA.out)
 replace hR := Lib.hid (hR.out.mono g3)
 replace hX := hX.trans (GrX.of g3)
 clear g3 k0' k1' q0' D0 HE
 generalize grow (redrawn (W.alloc (.cells #[.int .i64 0, .int .i64 0, .int .i64 0, .slice none 0 0] 24)) dq) osq = W3 at *
 go_wp2_with (first
  | (go_at_call 29; (with_reducible refine (I0 _ hR.out).mono ?_); rintro e w1 ⟨rfl, hXn, hRn⟩; replace hX := hX.trans hXn; replace hR := Lib.hid hRn; replace hA := Lib.hid (hXn.heap hA.out hne); clear hXn hRn)
  | (go_at_call 29; (with_reducible refine (I1 _ hR.out).mono ?_); rintro e w1 ⟨rfl, hXn, hRn⟩; replace hX := hX.trans hXn; replace hR := Lib.hid hRn; replace hA := Lib.hid (hXn.heap hA.out hne); clear hXn hRn)
  | (go_at_call 29; (with_reducible refine (I2 _ hR.out).mono ?_); rintro e w1 ⟨rfl, hXn, hRn⟩; replace hX := hX.trans hXn; replace hR := Lib.hid hRn; replace hA := Lib.hid (hXn.heap hA.out hne); clear hXn hRn)
  | (go_at_call 29; (with_reducible refine (I3 _ hR.out).mono ?_); rintro e w1 ⟨rfl, hXn, hRn⟩; replace hX := hX.trans hXn; replace hR := Lib.hid hRn; replace hA := Lib.hid (hXn.heap hA.out hne); clear hXn hRn)
  | (go_at_call 29; (with_reducible refine (I4 _ hR.out).mono ?_); rintro e w1 ⟨rfl, hXn, hRn⟩; replace hX := hX.trans hXn; replace hR := Lib.hid hRn; replace hA := Lib.hid (hXn.heap hA.out hne); clear hXn hRn)
  | (go_at_call 29; (with_reducible refine (I5 _ hR.out).mono ?_); rintro e w1 ⟨rfl, hXn, hRn⟩; replace hX := hX.trans hXn; replace hR := Lib.hid hRn; replace hA := Lib.hid (hXn.heap hA.out hne); clear hXn hRn)
  | (go_at_call 29; (with_reducible refine (I6 _ hR.out).mono ?_); rintro e w1 ⟨rfl, hXn, hRn⟩; replace hX := hX.trans hXn; replace hR := Lib.hid hRn; replace hA := Lib.hid (hXn.heap hA.out hne); clear hXn hRn)
  | (go_at_call 39; (with_reducible refine (N0 _ hR.out).mono ?_); rintro e w1 ⟨rfl, hXn, hRn⟩; replace hX := hX.trans hXn; replace hR := Lib.hid hRn; replace hA := Lib.hid (hXn.heap hA.out hne); clear hXn hRn; have BA := Box4.of hA.out; obtain ⟨⟨k0, k1, k2, k3⟩, ⟨f0, f1, f2, f3⟩, hbl⟩ := BA))
 obtain ⟨⟨c0, c1, c2, c3⟩, hXf, hRf, hkf, hsf⟩ := fin4R hX (Nat.le_refl _) hne hne2 (Box4.of hA.out) hR.out (.int .i64 3) (.int .i64 nr.1) (.int .i64 0) (.slice none 0 0)
 refine bodyPost_ret (v := .agg #[.int .i64 3, .int .i64 nr.1, .int .i64 0, .slice none 0 0]) (by simp [results, Tryd.results28, go_sem, c0, c1, c2, c3]) rfl ?_
 exact ⟨_, rfl, hXf, hRf, svAt_leaf _ _ _ _ _⟩
end
end Go.Proofs.YtfalbgflabajbaaDoor

namespace Go.Proofs.YtfalbgflabajbaaDoor
set_option linter.unusedSectionVars false
open Go.RowKit Go.Sort
set_option linter.unusedVariables false
set_option linter.unusedSimpArgs false
set_option maxRecDepth 100000
section
variable {T : List TokD} {tb off cap rb : Nat}
set_option maxHeartbeats 2000000 in
theorem sim_large_open {f deep : Nat} {s : S4} {W : World} (hT : TokOk T) (hs : S4In T s) (hd : s.done = false) (hdp : 100 < deep ∧ deep ≤ 101) (hk : w4T (tk4 T s) = wOpen) (h : R4At T tb off cap rb W s) : Calls Tryd.prog 28 #[.pointer (some ⟨rb, 0, none⟩), .int .i64 (deep : Int)] W (Post4 T tb off cap rb W (zP, ⟨s.n, s.bad, true⟩)) := by
 have hlt := hs.lt
 have hrb := h.here.2.2
 have htb := h.tb_lt (by omega)
 have hne : W.heap.size ≠ rb := by omega
 have hne2 : W.heap.size ≠ tb := by omega
 have hG1 : Gr W (W.alloc (.cells #[.int .i64 0, .int .i64 0, .int .i64 0, .slice none 0 0] 24)) := Gr.alloc (Gr.refl W) _
 have hA := Lib.hid (heap_last W (.cells #[.int .i64 0, .int .i64 0, .int .i64 0, .slice none 0 0] 24))
 have hR := Lib.hid (h.mono hG1)
 have hX : GrX rb W (W.alloc (.cells #[.int .i64 0, .int .i64 0, .int .i64 0, .slice none 0 0] 24)) := GrX.ofG hG1
 clear h hG1
 have D0 := Lib.hid (done4 hR.out)
 rw [hd] at D0
 have K := hR.out.here
 obtain ⟨⟨k0, k1, k2, k3⟩, _, hrb2⟩ := K
 have k0' := cell_regrown k0
 have k1' := cell_regrown k1
 obtain ⟨q0, q1⟩ := hR.out.word s.n _ (tk4_lt hs)
 have q0' := cell_regrown q0
 have hbd : (0 : Int) ≤ (s.n : Int) ∧ (s.n : Int) < (T.length : Int) := ⟨by omega, by omega⟩
 have e0 : ((bZ (w4T (tk4 T s))).toList == [40]) = true := by rw [eqw, hk]; decide
 have e1 : ((bZ (w4T (tk4 T s))).toList == [111, 100, 100]) = false := by rw [eqw, hk]; decide
 have e2 : ((bZ (w4T (tk4 T s))).toList == [101, 118, 101, 110]) = false := by rw [eqw, hk]; decide
 have e3 : ((bZ (w4T (tk4 T s))).toList == [98, 97, 99, 107]) = false := by rw [eqw, hk]; decide
 have e4 : ((bZ (w4T (tk4 T s))).toList == [101, 118, 101, 114, 121]) = false := by rw [eqw, hk]; decide
 have hdI : ((100 : Int) < (deep : Int)) := by omega
 have hwd : IntKind.i64.wrap ((deep : Int) + 1) = (deep : Int) + 1 := wrap_in (by omega)
 have HE := Lib.hid (And.intro k0' (And.intro k1' (And.intro q0' (And.intro e0 (And.intro e1 (And.intro e2 (And.intro e3 e4)))))))
 clear e0 e1 e2 e3 e4 k0 k1 k2 k3 k0' k1' q0 q1 q0' hk
 go_enter Tryd.func28, Tryd.ntmps28
 go_wp2_with (go_at_call 17; (with_reducible refine D0.out.mono ?_); rintro e w1 ⟨rfl, hw1⟩; obtain rfl := hw1.symm)
 obtain ⟨k0', k1', q0', e0, e1, e2, e3, e4⟩ := HE.out
 refine wp_region_quiet_below (by kernel_rfl) (by kernel_rfl) ?_
 repeat (quiet_step (fail))
 refine wpQuiet_nil ?_
 intro w' hw'
 obtain ⟨⟨dq, osq⟩, rfl⟩ := hw'
 have g3 := below_regrown (W.alloc (.cells #[.int .i64 0, .int .i64 0, .int .i64 0, .slice none 0 0] 24)) dq osq
 replace hA := Lib.hid ((g3.block _ (Array.getElem?_eq_some_iff.1 hA.out).1).trans hA.out)
 replace hR := Lib.hid (hR.out.mono g3)
 replace hX := hX.trans (GrX.of g3)
 clear g3 k0' k1' q0' D0 HE
 generalize grow (redrawn (W.alloc (.cells #[.int .i64 0, .int .i64 0, .int .i64 0, .slice none 0 0] 24)) dq) osq = W3 at *
 have BA := Box4.of hA.out
 obtain ⟨⟨k0, k1, k2, k3⟩, ⟨f0, f1, f2, f3⟩, hbl⟩ := BA
 have KR := hR.out.here
 obtain ⟨⟨r0, r1, r2, r3⟩, ⟨g0, g1, g2, g3⟩, hrl⟩ := KR
 have hX2 := hX.set (o := 3) (.bool true)
 have hR2 := hR.out.to (s' := ⟨s.n, s.bad, true⟩) ((GrX.refl rb W3).set (o := 3) (.bool true)) (Box4.st3 hR.out.here)
 have BA2 := Box4.other (Box4.of hA.out) (c := rb) (o := 3) (u := .bool true) (Ne.symm hne)
 have BB2 := BA2
 obtain ⟨⟨m0, m1, m2, m3⟩, ⟨x0, x1, x2, x3⟩, hbl2⟩ := BB2
 go_wp2_with fail
 obtain ⟨⟨c0, c1, c2, c3⟩, hXf, hRf, hkf, hsf⟩ := fin4R hX2 (Nat.le_refl _) hne hne2 BA2 hR2 (.int .i64 0) (.int .i64 0) (.int .i64 0) (.slice none 0 0)
 refine bodyPost_ret (v := .agg #[.int .i64 0, .int .i64 0, .int .i64 0, .slice none 0 0]) (by simp [results, Tryd.results28, go_sem, c0, c1, c2, c3]) rfl ?_
 exact ⟨_, rfl, hXf, hRf, svAt_leaf _ _ _ _ _⟩
set_option maxHeartbeats 2000000 in
theorem sim_large_odd {f deep : Nat} {s : S4} {W : World} (hT : TokOk T) (hs : S4In T s) (hd : s.done = false) (hdp : 100 < deep ∧ deep ≤ 101) (hk : w4T (tk4 T s) = wOdd) (h : R4At T tb off cap rb W s) : Calls Tryd.prog 28 #[.pointer (some ⟨rb, 0, none⟩), .int .i64 (deep : Int)] W (Post4 T tb off cap rb W (zP, ⟨s.n, s.bad, true⟩)) := by
 have hlt := hs.lt
 have hrb := h.here.2.2
 have htb := h.tb_lt (by omega)
 have hne : W.heap.size ≠ rb := by omega
 have hne2 : W.heap.size ≠ tb := by omega
 have hG1 : Gr W (W.alloc (.cells #[.int .i64 0, .int .i64 0, .int .i64 0, .slice none 0 0] 24)) := Gr.alloc (Gr.refl W) _
 have hA := Lib.hid (heap_last W (.cells #[.int .i64 0, .int .i64 0, .int .i64 0, .slice none 0 0] 24))
 have hR := Lib.hid (h.mono hG1)
 have hX : GrX rb W (W.alloc (.cells #[.int .i64 0, .int .i64 0, .int .i64 0, .slice none 0 0] 24)) := GrX.ofG hG1
 clear h hG1
 have D0 := Lib.hid (done4 hR.out)
 rw [hd] at D0
 have K := hR.out.here
 obtain ⟨⟨k0, k1, k2, k3⟩, _, hrb2⟩ := K
 have k0' := cell_regrown k0
 have k1' := cell_regrown k1
 obtain ⟨q0, q1⟩ := hR.out.word s.n _ (tk4_lt hs)
 have q0' := cell_regrown q0
 have hbd : (0 : Int) ≤ (s.n : Int) ∧ (s.n : Int) < (T.length : Int) := ⟨by omega, by omega⟩
 have e0 : ((bZ (w4T (tk4 T s))).toList == [40]) = false := by rw [eqw, hk]; decide
 have e1 : ((bZ (w4T (tk4 T s))).toList == [111, 100, 100]) = true := by rw [eqw, hk]; decide
 have e2 : ((bZ (w4T (tk4 T s))).toList == [101, 118, 101, 110]) = false := by rw [eqw, hk]; decide
 have e3 : ((bZ (w4T (tk4 T s))).toList == [98, 97, 99, 107]) = false := by rw [eqw, hk]; decide
 have e4 : ((bZ (w4T (tk4 T s))).toList == [101, 118, 101, 114, 121]) = false := by rw [eqw, hk]; decide
 have hdI : ((100 : Int) < (deep : Int)) := by omega
 have hwd : IntKind.i64.wrap ((deep : Int) + 1) = (deep : Int) + 1 := wrap_in (by omega)
 have HE := Lib.hid (And.intro k0' (And.intro k1' (And.intro q0' (And.intro e0 (And.intro e1 (And.intro e2 (And.intro e3 e4)))))))
 clear e0 e1 e2 e3 e4 k0 k1 k2 k3 k0' k1' q0 q1 q0' hk
 go_enter Tryd.func28, Tryd.ntmps28
 go_wp2_with (go_at_call 17; (with_reducible refine D0.out.mono ?_); rintro e w1 ⟨rfl, hw1⟩; obtain rfl := hw1.symm)
 obtain ⟨k0', k1', q0', e0, e1, e2, e3, e4⟩ := HE.out
 refine wp_region_quiet_below (by kernel_rfl) (by kernel_rfl) ?_
 repeat (quiet_step (fail))
 refine wpQuiet_nil ?_
 intro w' hw'
 obtain ⟨⟨dq, osq⟩, rfl⟩ := hw'
 have g3 := below_regrown (W.alloc (.cells #[.int .i64 0, .int .i64 0, .int .i64 0, .slice none 0 0] 24)) dq osq
 replace hA := Lib.hid ((g3.block _ (Array.getElem?_eq_some_iff.1 hA.out).1).trans hA.out)
 replace hR := Lib.hid (hR.out.mono g3)
 replace hX := hX.trans (GrX.of g3)
 clear g3 k0' k1' q0' D0 HE
 generalize grow (redrawn (W.alloc (.cells #[.int .i64 0, .int .i64 0, .int .i64 0, .slice none 0 0] 24)) dq) osq = W3 at *
 have BA := Box4.of hA.out
 obtain ⟨⟨k0, k1, k2, k3⟩, ⟨f0, f1, f2, f3⟩, hbl⟩ := BA
 have KR := hR.out.here
 obtain ⟨⟨r0, r1, r2, r3⟩, ⟨g0, g1, g2, g3⟩, hrl⟩ := KR
 have hX2 := hX.set (o := 3) (.bool true)
 have hR2 := hR.out.to (s' := ⟨s.n, s.bad, true⟩) ((GrX.refl rb W3).set (o := 3) (.bool true)) (Box4.st3 hR.out.here)
 have BA2 := Box4.other (Box4.of hA.out) (c := rb) (o := 3) (u := .bool true) (Ne.symm hne)
 have BB2 := BA2
 obtain ⟨⟨m0, m1, m2, m3⟩, ⟨x0, x1, x2, x3⟩, hbl2⟩ := BB2
 go_wp2_with fail
 obtain ⟨⟨c0, c1, c2, c3⟩, hXf, hRf, hkf, hsf⟩ := fin4R hX2 (Nat.le_refl _) hne hne2 BA2 hR2 (.int .i64 0) (.int .i64 0) (.int .i64 0) (.slice none 0 0)
 refine bodyPost_ret (v := .agg #[.int .i64 0, .int .i64 0, .int .i64 0, .slice none 0 0]) (by simp [results, Tryd.results28, go_sem, c0, c1, c2, c3]) rfl ?_
 exact ⟨_, rfl, hXf, hRf, svAt_leaf _ _ _ _ _⟩
set_option maxHeartbeats 2000000 in
theorem sim_large_even {f deep : Nat} {s : S4} {W : World} (hT : TokOk T) (hs : S4In T s) (hd : s.done = false) (hdp : 100 < deep ∧ deep ≤ 101) (hk : w4T (tk4 T s) = wEven) (h : R4At T tb off cap rb W s) : Calls Tryd.prog 28 #[.pointer (some ⟨rb, 0, none⟩), .int .i64 (deep : Int)] W (Post4 T tb off cap rb W (zP, ⟨s.n, s.bad, true⟩)) := by
 have hlt := hs.lt
 have hrb := h.here.2.2
 have htb := h.tb_lt (by omega)
 have hne : W.heap.size ≠ rb := by omega
 have hne2 : W.heap.size ≠ tb := by omega
 have hG1 : Gr W (W.alloc (.cells #[.int .i64 0, .int .i64 0, .int .i64 0, .slice none 0 0] 24)) := Gr.alloc (Gr.refl W) _
 have hA := Lib.hid (heap_last W (.cells #[.int .i64 0, .int .i64 0, .int .i64 0, .slice none 0 0] 24))
 have hR := Lib.hid (h.mono hG1)
 have hX : GrX rb W (W.alloc (.cells #[.int .i64 0, .int .i64 0, .int .i64 0, .slice none 0 0] 24)) := GrX.ofG hG1
 clear h hG1
 have D0 := Lib.hid (done4 hR.out)
 rw [hd] at D0
 have K := hR.out.here
 obtain ⟨⟨k0, k1, k2, k3⟩, _, hrb2⟩ := K
 have k0' := cell_regrown k0
 have k1' := cell_regrown k1
 obtain ⟨q0, q1⟩ := hR.out.word s.n _ (tk4_lt hs)
 have q0' := cell_regrown q0
 have hbd : (0 : Int) ≤ (s.n : Int) ∧ (s.n : Int) < (T.length : Int) := ⟨by omega, by omega⟩
 have e0 : ((bZ (w4T (tk4 T s))).toList == [40]) = false := by rw [eqw, hk]; decide
 have e1 : ((bZ (w4T (tk4 T s))).toList == [111, 100, 100]) = false := by rw [eqw, hk]; decide
 have e2 : ((bZ (w4T (tk4 T s))).toList == [101, 118, 101, 110]) = true := by rw [eqw, hk]; decide
 have e3 : ((bZ (w4T (tk4 T s))).toList == [98, 97, 99, 107]) = false := by rw [eqw, hk]; decide
 have e4 : ((bZ (w4T (tk4 T s))).toList == [101, 118, 101, 114, 121]) = false := by rw [eqw, hk]; decide
 have hdI : ((100 : Int) < (deep : Int)) := by omega
 have hwd : IntKind.i64.wrap ((deep : Int) + 1) = (deep : Int) + 1 := wrap_in (by omega)
 have HE := Lib.hid (And.intro k0' (And.intro k1' (And.intro q0' (And.intro e0 (And.intro e1 (And.intro e2 (And.intro e3 e4)))))))
 clear e0 e1 e2 e3 e4 k0 k1 k2 k3 k0' k1' q0 q1 q0' hk
 go_enter Tryd.func28, Tryd.ntmps28
 go_wp2_with (go_at_call 17; (with_reducible refine D0.out.mono ?_); rintro e w1 ⟨rfl, hw1⟩; obtain rfl := hw1.symm)
 obtain ⟨k0', k1', q0', e0, e1, e2, e3, e4⟩ := HE.out
 refine wp_region_quiet_below (by kernel_rfl) (by kernel_rfl) ?_
 repeat (quiet_step (fail))
 refine wpQuiet_nil ?_
 intro w' hw'
 obtain ⟨⟨dq, osq⟩, rfl⟩ := hw'
 have g3 := below_regrown (W.alloc (.cells #[.int .i64 0, .int .i64 0, .int .i64 0, .slice none 0 0] 24)) dq osq
 replace hA := Lib.hid ((g3.block _ (Array.getElem?_eq_some_iff.1 hA.out).1).trans hA.out)
 replace hR := Lib.hid (hR.out.mono g3)
 replace hX := hX.trans (GrX.of g3)
 clear g3 k0' k1' q0' D0 HE
 generalize grow (redrawn (W.alloc (.cells #[.int .i64 0, .int .i64 0, .int .i64 0, .slice none 0 0] 24)) dq) osq = W3 at *
 have BA := Box4.of hA.out
 obtain ⟨⟨k0, k1, k2, k3⟩, ⟨f0, f1, f2, f3⟩, hbl⟩ := BA
 have KR := hR.out.here
 obtain ⟨⟨r0, r1, r2, r3⟩, ⟨g0, g1, g2, g3⟩, hrl⟩ := KR
 have hX2 := hX.set (o := 3) (.bool true)
 have hR2 := hR.out.to (s' := ⟨s.n, s.bad, true⟩) ((GrX.refl rb W3).set (o := 3) (.bool true)) (Box4.st3 hR.out.here)
 have BA2 := Box4.other (Box4.of hA.out) (c := rb) (o := 3) (u := .bool true) (Ne.symm hne)
 have BB2 := BA2
 obtain ⟨⟨m0, m1, m2, m3⟩, ⟨x0, x1, x2, x3⟩, hbl2⟩ := BB2
 go_wp2_with fail
 obtain ⟨⟨c0, c1, c2, c3⟩, hXf, hRf, hkf, hsf⟩ := fin4R hX2 (Nat.le_refl _) hne hne2 BA2 hR2 (.int .i64 0) (.int .i64 0) (.int .i64 0) (.slice none 0 0)
 refine bodyPost_ret (v := .agg #[.int .i64 0, .int .i64 0, .int .i64 0, .slice none 0 0]) (by simp [results, Tryd.results28, go_sem, c0, c1, c2, c3]) rfl ?_
 exact ⟨_, rfl, hXf, hRf, svAt_leaf _ _ _ _ _⟩
set_option maxHeartbeats 2000000 in
theorem sim_large_back {f deep : Nat} {s : S4} {W : World} (hT : TokOk T) (hs : S4In T s) (hd : s.done = false) (hdp : 100 < deep ∧ deep ≤ 101) (hk : w4T (tk4 T s) = wBk) (h : R4At T tb off cap rb W s) : Calls Tryd.prog 28 #[.pointer (some ⟨rb, 0, none⟩), .int .i64 (deep : Int)] W (Post4 T tb off cap rb W (zP, ⟨s.n, s.bad, true⟩)) := by
 have hlt := hs.lt
 have hrb := h.here.2.2
 have htb := h.tb_lt (by omega)
 have hne : W.heap.size ≠ rb := by omega
 have hne2 : W.heap.size ≠ tb := by omega
 have hG1 : Gr W (W.alloc (.cells #[.int .i64 0, .int .i64 0, .int .i64 0, .slice none 0 0] 24)) := Gr.alloc (Gr.refl W) _
 have hA := Lib.hid (heap_last W (.cells #[.int .i64 0, .int .i64 0, .int .i64 0, .slice none 0 0] 24))
 have hR := Lib.hid (h.mono hG1)
 have hX : GrX rb W (W.alloc (.cells #[.int .i64 0, .int .i64 0, .int .i64 0, .slice none 0 0] 24)) := GrX.ofG hG1
 clear h hG1
 have D0 := Lib.hid (done4 hR.out)
 rw [hd] at D0
 have K := hR.out.here
 obtain ⟨⟨k0, k1, k2, k3⟩, _, hrb2⟩ := K
 have k0' := cell_regrown k0
 have k1' := cell_regrown k1
 obtain ⟨q0, q1⟩ := hR.out.word s.n _ (tk4_lt hs)
 have q0' := cell_regrown q0
 have hbd : (0 : Int) ≤ (s.n : Int) ∧ (s.n : Int) < (T.length : Int) := ⟨by omega, by omega⟩
 have e0 : ((bZ (w4T (tk4 T s))).toList == [40]) = false := by rw [eqw, hk]; decide
 have e1 : ((bZ (w4T (tk4 T s))).toList == [111, 100, 100]) = false := by rw [eqw, hk]; decide
 have e2 : ((bZ (w4T (tk4 T s))).toList == [101, 118, 101, 110]) = false := by rw [eqw, hk]; decide
 have e3 : ((bZ (w4T (tk4 T s))).toList == [98, 97, 99, 107]) = true := by rw [eqw, hk]; decide
 have e4 : ((bZ (w4T (tk4 T s))).toList == [101, 118, 101, 114, 121]) = false := by rw [eqw, hk]; decide
 have hdI : ((100 : Int) < (deep : Int)) := by omega
 have hwd : IntKind.i64.wrap ((deep : Int) + 1) = (deep : Int) + 1 := wrap_in (by omega)
 have HE := Lib.hid (And.intro k0' (And.intro k1' (And.intro q0' (And.intro e0 (And.intro e1 (And.intro e2 (And.intro e3 e4)))))))
 clear e0 e1 e2 e3 e4 k0 k1 k2 k3 k0' k1' q0 q1 q0' hk
 go_enter Tryd.func28, Tryd.ntmps28
 go_wp2_with (go_at_call 17; (with_reducible refine D0.out.mono ?_); rintro e w1 ⟨rfl, hw1⟩; obtain rfl := hw1.symm)
 obtain ⟨k0', k1', q0', e0, e1, e2, e3, e4⟩ := HE.out
 refine wp_region_quiet_below (by kernel_rfl) (by kernel_rfl) ?_
 repeat (quiet_step (fail))
 refine wpQuiet_nil ?_
 intro w' hw'
 obtain ⟨⟨dq, osq⟩, rfl⟩ := hw'
 have g3 := below_regrown (W.alloc (.cells #[.int .i64 0, .int .i64 0, .int .i64 0, .slice none 0 0] 24)) dq osq
 replace hA := Lib.hid ((g3.block _ (Array.getElem?_eq_some_iff.1 hA.out).1).trans hA.out)
 replace hR := Lib.hid (hR.out.mono g3)
 replace hX := hX.trans (GrX.of g3)
 clear g3 k0' k1' q0' D0 HE
 generalize grow (redrawn (W.alloc (.cells #[.int .i64 0, .int .i64 0, .int .i64 0, .slice none 0 0] 24)) dq) osq = W3 at *
 have BA := Box4.of hA.out
 obtain ⟨⟨k0, k1, k2, k3⟩, ⟨f0, f1, f2, f3⟩, hbl⟩ := BA
 have KR := hR.out.here
 obtain ⟨⟨r0, r1, r2, r3⟩, ⟨g0, g1, g2, g3⟩, hrl⟩ := KR
 have hX2 := hX.set (o := 3) (.bool true)
 have hR2 := hR.out.to (s' := ⟨s.n, s.bad, true⟩) ((GrX.refl rb W3).set (o := 3) (.bool true)) (Box4.st3 hR.out.here)
 have BA2 := Box4.other (Box4.of hA.out) (c := rb) (o := 3) (u := .bool true) (Ne.symm hne)
 have BB2 := BA2
 obtain ⟨⟨m0, m1, m2, m3⟩, ⟨x0, x1, x2, x3⟩, hbl2⟩ := BB2
 go_wp2_with fail
 obtain ⟨⟨c0, c1, c2, c3⟩, hXf, hRf, hkf, hsf⟩ := fin4R hX2 (Nat.le_refl _) hne hne2 BA2 hR2 (.int .i64 0) (.int .i64 0) (.int .i64 0) (.slice none 0 0)
 refine bodyPost_ret (v := .agg #[.int .i64 0, .int .i64 0, .int .i64 0, .slice none 0 0]) (by simp [results, Tryd.results28, go_sem, c0, c1, c2, c3]) rfl ?_
 exact ⟨_, rfl, hXf, hRf, svAt_leaf _ _ _ _ _⟩
set_option maxHeartbeats 2000000 in
theorem sim_large_every {f deep : Nat} {s : S4} {W : World} (hT : TokOk T) (hs : S4In T s) (hd : s.done = false) (hdp : 100 < deep ∧ deep ≤ 101) (hk : w4T (tk4 T s) = wEvery) (h : R4At T tb off cap rb W s) : Calls Tryd.prog 28 #[.pointer (some ⟨rb, 0, none⟩), .int .i64 (deep : Int)] W (Post4 T tb off cap rb W (zP, ⟨s.n, s.bad, true⟩)) := by
 have hlt := hs.lt
 have hrb := h.here.2.2
 have htb := h.tb_lt (by omega)
 have hne : W.heap.size ≠ rb := by omega
 have hne2 : W.heap.size ≠ tb := by omega
 have hG1 : Gr W (W.alloc (.cells #[.int .i64 0, .int .i64 0, .int .i64 0, .slice none 0 0] 24)) := Gr.alloc (Gr.refl W) _
 have hA := Lib.hid (heap_last W (.cells #[.int .i64 0, .int .i64 0, .int .i64 0, .slice none 0 0] 24))
 have hR := Lib.hid (h.mono hG1)
 have hX : GrX rb W (W.alloc (.cells #[.int .i64 0, .int .i64 0, .int .i64 0, .slice none 0 0] 24)) := GrX.ofG hG1
 clear h hG1
 have D0 := Lib.hid (done4 hR.out)
 rw [hd] at D0
 have K := hR.out.here
 obtain ⟨⟨k0, k1, k2, k3⟩, _, hrb2⟩ := K
 have k0' := cell_regrown k0
 have k1' := cell_regrown k1
 obtain ⟨q0, q1⟩ := hR.out.word s.n _ (tk4_lt hs)
 have q0' := cell_regrown q0
 have hbd : (0 : Int) ≤ (s.n : Int) ∧ (s.n : Int) < (T.length : Int) := ⟨by omega, by omega⟩
 have e0 : ((bZ (w4T (tk4 T s))).toList == [40]) = false := by rw [eqw, hk]; decide
 have e1 : ((bZ (w4T (tk4 T s))).toList == [111, 100, 100]) = false := by rw [eqw, hk]; decide
 have e2 : ((bZ (w4T (tk4 T s))).toList == [101, 118, 101, 110]) = false := by rw [eqw, hk]; decide
 have e3 : ((bZ (w4T (tk4 T s))).toList == [98, 97, 99, 107]) = false := by rw [eqw, hk]; decide
 have e4 : ((bZ (w4T (tk4 T s))).toList == [101, 118, 101, 114, 121]) = true := by rw [eqw, hk]; decide
 have hdI : ((100 : Int) < (deep : Int)) := by omega
 have hwd : IntKind.i64.wrap ((deep : Int) + 1) = (deep : Int) + 1 := wrap_in (by omega)
 have HE := Lib.hid (And.intro k0' (And.intro k1' (And.intro q0' (And.intro e0 (And.intro e1 (And.intro e2 (And.intro e3 e4)))))))
 clear e0 e1 e2 e3 e4 k0 k1 k2 k3 k0' k1' q0 q1 q0' hk
 go_enter Tryd.func28, Tryd.ntmps28
 go_wp2_with (go_at_call 17; (with_reducible refine D0.out.mono ?_); rintro e w1 ⟨rfl, hw1⟩; obtain rfl := hw1.symm)
 obtain ⟨k0', k1', q0', e0, e1, e2, e3, e4⟩ := HE.out
 refine wp_region_quiet_below (by kernel_rfl) (by kernel_rfl) ?_
 repeat (quiet_step (fail))
 refine wpQuiet_nil ?_
 intro w' hw'
 obtain ⟨⟨dq, osq⟩, rfl⟩ := hw'
 have g3 := below_regrown (W.alloc (.cells #[.int .i64 0, .int .i64 0, .int .i64 0, .slice none 0 0] 24)) dq osq
 replace hA := Lib.hid ((g3.block _ (Array.getElem?_eq_some_iff.1 hA.out).1).trans hA.out)
 replace hR := Lib.hid (hR.out.mono g3)
 replace hX := hX.trans (GrX.of g3)
 clear g3 k0' k1' q0' D0 HE
 generalize grow (redrawn (W.alloc (.cells #[.int .i64 0, .int .i64 0, .int .i64 0, .slice none 0 0] 24)) dq) osq = W3 at *
 have BA := Box4.of hA.out
 obtain ⟨⟨k0, k1, k2, k3⟩, ⟨f0, f1, f2, f3⟩, hbl⟩ := BA
 have KR := hR.out.here
 obtain ⟨⟨r0, r1, r2, r3⟩, ⟨g0, g1, g2, g3⟩, hrl⟩ := KR
 have hX2 := hX.set (o := 3) (.bool true)
 have hR2 := hR.out.to (s' := ⟨s.n, s.bad, true⟩) ((GrX.refl rb W3).set (o := 3) (.bool true)) (Box4.st3 hR.out.here)
 have BA2 := Box4.other (Box4.of hA.out) (c := rb) (o := 3) (u := .bool true) (Ne.symm hne)
 have BB2 := BA2
 obtain ⟨⟨m0, m1, m2, m3⟩, ⟨x0, x1, x2, x3⟩, hbl2⟩ := BB2
 go_wp2_with fail
 obtain ⟨⟨c0, c1, c2, c3⟩, hXf, hRf, hkf, hsf⟩ := fin4R hX2 (Nat.le_refl _) hne hne2 BA2 hR2 (.int .i64 0) (.int .i64 0) (.int .i64 0) (.slice none 0 0)
 refine bodyPost_ret (v := .agg #[.int .i64 0, .int .i64 0, .int .i64 0, .slice none 0 0]) (by simp [results, Tryd.results28, go_sem, c0, c1, c2, c3]) rfl ?_
 exact ⟨_, rfl, hXf, hRf, svAt_leaf _ _ _ _ _⟩
set_option maxHeartbeats 2000000 in
theorem sim_open {f deep : Nat} {s : S4} {W : World} (hT : TokOk T) (hs : S4In T s) (hd : s.done = false) (hdp : deep ≤ 100) (hw : WhS4 T tb off cap rb f) {x : PickD × S4} (hk : w4T (tk4 T s) = wOpen) (hx : whS T f (deep + 1) (nxS s) = some x) (h : R4At T tb off cap rb W s) : Calls Tryd.prog 28 #[.pointer (some ⟨rb, 0, none⟩), .int .i64 (deep : Int)] W (Post4 T tb off cap rb W (x.1, mustS T wShut x.2)) := by
 have hlt := hs.lt
 have hrb := h.here.2.2
 have htb := h.tb_lt (by omega)
 have hne : W.heap.size ≠ rb := by omega
 have hne2 : W.heap.size ≠ tb := by omega
 have hG1 : Gr W (W.alloc (.cells #[.int .i64 0, .int .i64 0, .int .i64 0, .slice none 0 0] 24)) := Gr.alloc (Gr.refl W) _
 have hA := Lib.hid (heap_last W (.cells #[.int .i64 0, .int .i64 0, .int .i64 0, .slice none 0 0] 24))
 have hR := Lib.hid (h.mono hG1)
 have hX : GrX rb W (W.alloc (.cells #[.int .i64 0, .int .i64 0, .int .i64 0, .slice none 0 0] 24)) := GrX.ofG hG1
 clear h hG1
 have D0 := Lib.hid (done4 hR.out)
 rw [hd] at D0
 have K := hR.out.here
 obtain ⟨⟨k0, k1, k2, k3⟩, _, hrb2⟩ := K
 have k0' := cell_regrown k0
 have k1' := cell_regrown k1
 obtain ⟨q0, q1⟩ := hR.out.word s.n _ (tk4_lt hs)
 have q0' := cell_regrown q0
 have hbd : (0 : Int) ≤ (s.n : Int) ∧ (s.n : Int) < (T.length : Int) := ⟨by omega, by omega⟩
 have e0 : ((bZ (w4T (tk4 T s))).toList == [40]) = true := by rw [eqw, hk]; decide
 have e1 : ((bZ (w4T (tk4 T s))).toList == [111, 100, 100]) = false := by rw [eqw, hk]; decide
 have e2 : ((bZ (w4T (tk4 T s))).toList == [101, 118, 101, 110]) = false := by rw [eqw, hk]; decide
 have e3 : ((bZ (w4T (tk4 T s))).toList == [98, 97, 99, 107]) = false := by rw [eqw, hk]; decide
 have e4 : ((bZ (w4T (tk4 T s))).toList == [101, 118, 101, 114, 121]) = false := by rw [eqw, hk]; decide
 have I0 : ∀ w, R4At T tb off cap rb w s → Calls Tryd.prog 29 #[.pointer (some ⟨rb, 0, none⟩), .string ⟨#[40]⟩] w fun e w' => e = .returned (.bool true) ∧ GrX rb w w' ∧ R4At T tb off cap rb w' (nxS s) := fun w hw => is_y hs hw hT.few wOpen (isB_eq hd hk)
 have hsn : S4In T (nxS s) := nx_in hT hs (b := 40) (w := []) (by decide) (isB_eq hd hk)
 have hdI : ¬ ((100 : Int) < (deep : Int)) := by omega
 have hwd : IntKind.i64.wrap ((deep : Int) + 1) = (deep : Int) + 1 := wrap_in (by omega)
 have HE := Lib.hid (And.intro k0' (And.intro k1' (And.intro q0' (And.intro e0 (And.intro e1 (And.intro e2 (And.intro e3 e4)))))))
 clear e0 e1 e2 e3 e4 k0 k1 k2 k3 k0' k1' q0 q1 q0' hk
 have E : ∀ w, R4At T tb off cap rb w (nxS s) → Calls Tryd.prog 16 #[.pointer (some ⟨rb, 0, none⟩), .int .i64 ((deep : Int) + 1)] w (Post4 T tb off cap rb w x) := fun w h4 => hw w (nxS s) (deep + 1) x (by omega) hsn h4 hx
 have hs1 := (all_in hT f).2.2.1 _ _ _ hsn hx
 clear hx hw
 obtain ⟨p, s1⟩ := x
 have M : ∀ w, R4At T tb off cap rb w s1 → Calls Tryd.prog 38 #[.pointer (some ⟨rb, 0, none⟩), .string ⟨#[41]⟩] w fun e w' => e = .returned (.tuple #[]) ∧ GrX rb w w' ∧ R4At T tb off cap rb w' (mustS T wShut s1) := fun w h4 => must4 hs1 h4 hT.few wShut
 go_enter Tryd.func28, Tryd.ntmps28
 go_wp2_with (go_at_call 17; (with_reducible refine D0.out.mono ?_); rintro e w1 ⟨rfl, hw1⟩; obtain rfl := hw1.symm)
 obtain ⟨k0', k1', q0', e0, e1, e2, e3, e4⟩ := HE.out
 refine wp_region_quiet_below (by kernel_rfl) (by kernel_rfl) ?_
 repeat (quiet_step (fail))
 refine wpQuiet_nil ?_
 intro w' hw'
 obtain ⟨⟨dq, osq⟩, rfl⟩ := hw'
 have g3 := below_regrown (W.alloc (.cells #[.int .i64 0, .int .i64 0, .int .i64 0, .slice none 0 0] 24)) dq osq
 replace hA := Lib.hid ((g3.block _ (Array.getElem?_eq_some_iff.1 hA.out).1).trans hA.out)
 replace hR := Lib.hid (hR.out.mono g3)
 replace hX := hX.trans (GrX.of g3)
 clear g3 k0' k1' q0' D0 HE
 generalize grow (redrawn (W.alloc (.cells #[.int .i64 0, .int .i64 0, .int .i64 0, .slice none 0 0] 24)) dq) osq = W3 at *
 go_wp2_with (first
  | (go_at_call 29; (with_reducible refine (I0 _ hR.out).mono ?_); rintro e w1 ⟨rfl, hXn, hRn⟩; replace hX := hX.trans hXn; replace hR := Lib.hid hRn; replace hA := Lib.hid (hXn.heap hA.out hne); clear hXn hRn)
  | (go_at_call 16; (with_reducible refine (E _ hR.out).mono ?_); rintro e w1 ⟨sv, rfl, hXn, hRn, hS⟩; obtain ⟨sa, sn, sc, rfl⟩ := svAt_shape hS; have hz := (Array.getElem?_eq_some_iff.1 hA.out).1; have hz2 := hXn.size; have hB := Lib.hid (heap_last w1 (.cells #[.int .i64 p.kind, .int .i64 p.frm, .int .i64 p.to, .slice sa sn sc] 24)); replace hX := (hX.trans hXn).alloc (.cells #[.int .i64 p.kind, .int .i64 p.frm, .int .i64 p.to, .slice sa sn sc] 24); replace hA := Lib.hid (heap_old _ (.cells #[.int .i64 p.kind, .int .i64 p.frm, .int .i64 p.to, .slice sa sn sc] 24) _ _ (Nat.lt_of_lt_of_le hz hz2) (hXn.heap hA.out hne)); replace hR := Lib.hid (hRn.mono (Gr.alloc (Gr.refl w1) (.cells #[.int .i64 p.kind, .int .i64 p.frm, .int .i64 p.to, .slice sa sn sc] 24))); replace hS := Lib.hid (SvAt.mono (Q := fun k => W.heap.size < k ∧ k < w1.heap.size) (Gr.alloc (Gr.refl w1) (.cells #[.int .i64 p.kind, .int .i64 p.frm, .int .i64 p.to, .slice sa sn sc] 24)).size (fun k _ hk => (Gr.alloc (Gr.refl w1) (.cells #[.int .i64 p.kind, .int .i64 p.frm, .int .i64 p.to, .slice sa sn sc] 24)).below.block k hk) (fun k hk1 hk2 => ⟨by have := hk1.1; omega, hk2⟩) p _ hS); clear hXn hRn; )
  | (go_at_call 38; (with_reducible refine (M _ hR.out).mono ?_); rintro e w1 ⟨rfl, hXn, hRn⟩; have hzb := (Array.getElem?_eq_some_iff.1 hB.out).1; have hB2 := hXn.heap hB.out (by omega); have hz8 := hXn.size; replace hX := hX.trans hXn; replace hA := Lib.hid (hXn.heap hA.out hne); replace hR := Lib.hid hRn; replace hS := Lib.hid (SvAt.mono (Q := fun k => W.heap.size < k) hXn.size (fun k hk1 hk2 => hXn.block k hk2 (by have := hk1.1; omega)) (fun k hk1 _ => hk1.1) p _ hS.out); clear hXn hRn; have BB := Box4.of hB2; obtain ⟨⟨b0, b1, b2, b3⟩, _, _⟩ := BB; have BA := Box4.of hA.out; obtain ⟨⟨k0, k1, k2, k3⟩, ⟨f0, f1, f2, f3⟩, hbl⟩ := BA))
 obtain ⟨⟨c0, c1, c2, c3⟩, hXf, hRf, hkf, hsf⟩ := fin4R hX (Nat.le_refl _) hne hne2 (Box4.of hA.out) hR.out (.int .i64 p.kind) (.int .i64 p.frm) (.int .i64 p.to) (.slice sa sn sc)
 refine bodyPost_ret (v := .agg #[.int .i64 p.kind, .int .i64 p.frm, .int .i64 p.to, .slice sa sn sc]) (by simp [results, Tryd.results28, go_sem, c0, c1, c2, c3]) rfl ?_
 exact ⟨_, rfl, hXf, hRf, SvAt.mono (by omega) (fun k hk1 hk2 => hkf k (by have := hk1; omega)) (fun k hk1 hk2 => ⟨by have := hk1; omega, by omega⟩) p _ hS.out⟩
set_option maxHeartbeats 2000000 in
theorem sim_odd {f deep : Nat} {s : S4} {W : World} (hT : TokOk T) (hs : S4In T s) (hd : s.done = false) (hdp : deep ≤ 100) (hp : PreS4 T tb off cap rb f) {x : PickD × S4} (hk : w4T (tk4 T s) = wOdd) (hx : preS T f (deep + 1) (nxS s) = some x) (h : R4At T tb off cap rb W s) : Calls Tryd.prog 28 #[.pointer (some ⟨rb, 0, none⟩), .int .i64 (deep : Int)] W (Post4 T tb off cap rb W (.mk 6 0 0 [x.1], x.2)) := by
 have hlt := hs.lt
 have hrb := h.here.2.2
 have htb := h.tb_lt (by omega)
 have hne : W.heap.size ≠ rb := by omega
 have hne2 : W.heap.size ≠ tb := by omega
 have hG1 : Gr W (W.alloc (.cells #[.int .i64 0, .int .i64 0, .int .i64 0, .slice none 0 0] 24)) := Gr.alloc (Gr.refl W) _
 have hA := Lib.hid (heap_last W (.cells #[.int .i64 0, .int .i64 0, .int .i64 0, .slice none 0 0] 24))
 have hR := Lib.hid (h.mono hG1)
 have hX : GrX rb W (W.alloc (.cells #[.int .i64 0, .int .i64 0, .int .i64 0, .slice none 0 0] 24)) := GrX.ofG hG1
 clear h hG1
 have D0 := Lib.hid (done4 hR.out)
 rw [hd] at D0
 have K := hR.out.here
 obtain ⟨⟨k0, k1, k2, k3⟩, _, hrb2⟩ := K
 have k0' := cell_regrown k0
 have k1' := cell_regrown k1
 obtain ⟨q0, q1⟩ := hR.out.word s.n _ (tk4_lt hs)
 have q0' := cell_regrown q0
 have hbd : (0 : Int) ≤ (s.n : Int) ∧ (s.n : Int) < (T.length : Int) := ⟨by omega, by omega⟩
 have e0 : ((bZ (w4T (tk4 T s))).toList == [40]) = false := by rw [eqw, hk]; decide
 have e1 : ((bZ (w4T (tk4 T s))).toList == [111, 100, 100]) = true := by rw [eqw, hk]; decide
 have e2 : ((bZ (w4T (tk4 T s))).toList == [101, 118, 101, 110]) = false := by rw [eqw, hk]; decide
 have e3 : ((bZ (w4T (tk4 T s))).toList == [98, 97, 99, 107]) = false := by rw [eqw, hk]; decide
 have e4 : ((bZ (w4T (tk4 T s))).toList == [101, 118, 101, 114, 121]) = false := by rw [eqw, hk]; decide
 have I0 : ∀ w, R4At T tb off cap rb w s → Calls Tryd.prog 29 #[.pointer (some ⟨rb, 0, none⟩), .string ⟨#[40]⟩] w fun e w' => e = .returned (.bool false) ∧ GrX rb w w' ∧ R4At T tb off cap rb w' s := fun w hw => is_n hs hw hT.few wOpen (isB_ne (by rw [hk]; decide))
 have I1 : ∀ w, R4At T tb off cap rb w s → Calls Tryd.prog 29 #[.pointer (some ⟨rb, 0, none⟩), .string ⟨#[111, 100, 100]⟩] w fun e w' => e = .returned (.bool true) ∧ GrX rb w w' ∧ R4At T tb off cap rb w' (nxS s) := fun w hw => is_y hs hw hT.few wOdd (isB_eq hd hk)
 have hsn : S4In T (nxS s) := nx_in hT hs (b := 111) (w := [100, 100]) (by decide) (isB_eq hd hk)
 have hdI : ¬ ((100 : Int) < (deep : Int)) := by omega
 have hwd : IntKind.i64.wrap ((deep : Int) + 1) = (deep : Int) + 1 := wrap_in (by omega)
 have HE := Lib.hid (And.intro k0' (And.intro k1' (And.intro q0' (And.intro e0 (And.intro e1 (And.intro e2 (And.intro e3 e4)))))))
 clear e0 e1 e2 e3 e4 k0 k1 k2 k3 k0' k1' q0 q1 q0' hk
 have E : ∀ w, R4At T tb off cap rb w (nxS s) → Calls Tryd.prog 28 #[.pointer (some ⟨rb, 0, none⟩), .int .i64 ((deep : Int) + 1)] w (Post4 T tb off cap rb w x) := fun w h4 => hp w (nxS s) (deep + 1) x (by omega) hsn h4 hx
 clear hx hp
 obtain ⟨p, s1⟩ := x
 go_enter Tryd.func28, Tryd.ntmps28
 go_wp2_with (go_at_call 17; (with_reducible refine D0.out.mono ?_); rintro e w1 ⟨rfl, hw1⟩; obtain rfl := hw1.symm)
 obtain ⟨k0', k1', q0', e0, e1, e2, e3, e4⟩ := HE.out
 refine wp_region_quiet_below (by kernel_rfl) (by kernel_rfl) ?_
 repeat (quiet_step (fail))
 refine wpQuiet_nil ?_
 intro w' hw'
 obtain ⟨⟨dq, osq⟩, rfl⟩ := hw'
 have g3 := below_regrown (W.alloc (.cells #[.int .i64 0, .int .i64 0, .int .i64 0, .slice none 0 0] 24)) dq osq
 replace hA := Lib.hid ((g3.block _ (Array.getElem?_eq_some_iff.1 hA.out).1).trans hA.out)
 replace hR := Lib.hid (hR.out.mono g3)
 replace hX := hX.trans (GrX.of g3)
 clear g3 k0' k1' q0' D0 HE
 generalize grow (redrawn (W.alloc (.cells #[.int .i64 0, .int .i64 0, .int .i64 0, .slice none 0 0] 24)) dq) osq = W3 at *
 go_wp2_with (first
  | (go_at_call 29; (with_reducible refine (I0 _ hR.out).mono ?_); rintro e w1 ⟨rfl, hXn, hRn⟩; replace hX := hX.trans hXn; replace hR := Lib.hid hRn; replace hA := Lib.hid (hXn.heap hA.out hne); clear hXn hRn)
  | (go_at_call 29; (with_reducible refine (I1 _ hR.out).mono ?_); rintro e w1 ⟨rfl, hXn, hRn⟩; replace hX := hX.trans hXn; replace hR := Lib.hid hRn; replace hA := Lib.hid (hXn.heap hA.out hne); clear hXn hRn)
  | (go_at_call 28; (with_reducible refine (E _ hR.out).mono ?_); rintro e w1 ⟨sv, rfl, hXn, hRn, hS⟩; obtain ⟨sa, sn, sc, rfl⟩ := svAt_shape hS; have hz := (Array.getElem?_eq_some_iff.1 hA.out).1; have hz2 := hXn.size; have hB := Lib.hid (heap_last w1 (.cells #[.int .i64 p.kind, .int .i64 p.frm, .int .i64 p.to, .slice sa sn sc] 24)); replace hX := (hX.trans hXn).alloc (.cells #[.int .i64 p.kind, .int .i64 p.frm, .int .i64 p.to, .slice sa sn sc] 24); replace hA := Lib.hid (heap_old _ (.cells #[.int .i64 p.kind, .int .i64 p.frm, .int .i64 p.to, .slice sa sn sc] 24) _ _ (Nat.lt_of_lt_of_le hz hz2) (hXn.heap hA.out hne)); replace hR := Lib.hid (hRn.mono (Gr.alloc (Gr.refl w1) (.cells #[.int .i64 p.kind, .int .i64 p.frm, .int .i64 p.to, .slice sa sn sc] 24))); replace hS := Lib.hid (SvAt.mono (Q := fun k => W.heap.size < k ∧ k < w1.heap.size) (Gr.alloc (Gr.refl w1) (.cells #[.int .i64 p.kind, .int .i64 p.frm, .int .i64 p.to, .slice sa sn sc] 24)).size (fun k _ hk => (Gr.alloc (Gr.refl w1) (.cells #[.int .i64 p.kind, .int .i64 p.frm, .int .i64 p.to, .slice sa sn sc] 24)).below.block k hk) (fun k hk1 hk2 => ⟨by have := hk1.1; omega, hk2⟩) p _ hS); clear hXn hRn; have BA := Box4.of hA.out; obtain ⟨⟨k0, k1, k2, k3⟩, ⟨f0, f1, f2, f3⟩, hbl⟩ := BA))
 have hs9 := (Array.getElem?_eq_some_iff.1 hB.out).1
 obtain ⟨⟨c0, c1, c2, c3⟩, hXf, hRf, hkf, hsf⟩ := fin4R hX (Nat.le_refl _) hne hne2 (Box4.of hA.out) hR.out (.int .i64 6) (.int .i64 0) (.int .i64 0) (.slice (some ⟨w1.heap.size, 0, none⟩) 1 1)
 refine bodyPost_ret (v := .agg #[.int .i64 6, .int .i64 0, .int .i64 0, .slice (some ⟨w1.heap.size, 0, none⟩) 1 1]) (by simp [results, Tryd.results28, go_sem, c0, c1, c2, c3]) rfl ?_
 exact ⟨_, rfl, hXf, hRf, svAt_one (T := 24) ⟨by omega, by omega⟩ ((hkf _ (by omega)).trans hB.out) (SvAt.mono (by omega) (fun k hk1 hk2 => hkf k (by have := hk1.1; omega)) (fun k hk1 hk2 => ⟨by have := hk1.1; omega, by have := hk1.2; omega⟩) p _ hS.out)⟩
set_option maxHeartbeats 2000000 in
theorem sim_even {f deep : Nat} {s : S4} {W : World} (hT : TokOk T) (hs : S4In T s) (hd : s.done = false) (hdp : deep ≤ 100) (hp : PreS4 T tb off cap rb f) {x : PickD × S4} (hk : w4T (tk4 T s) = wEven) (hx : preS T f (deep + 1) (nxS s) = some x) (h : R4At T tb off cap rb W s) : Calls Tryd.prog 28 #[.pointer (some ⟨rb, 0, none⟩), .int .i64 (deep : Int)] W (Post4 T tb off cap rb W (.mk 7 0 0 [x.1], x.2)) := by
 have hlt := hs.lt
 have hrb := h.here.2.2
 have htb := h.tb_lt (by omega)
 have hne : W.heap.size ≠ rb := by omega
 have hne2 : W.heap.size ≠ tb := by omega
 have hG1 : Gr W (W.alloc (.cells #[.int .i64 0, .int .i64 0, .int .i64 0, .slice none 0 0] 24)) := Gr.alloc (Gr.refl W) _
 have hA := Lib.hid (heap_last W (.cells #[.int .i64 0, .int .i64 0, .int .i64 0, .slice none 0 0] 24))
 have hR := Lib.hid (h.mono hG1)
 have hX : GrX rb W (W.alloc (.cells #[.int .i64 0, .int .i64 0, .int .i64 0, .slice none 0 0] 24)) := GrX.ofG hG1
 clear h hG1
 have D0 := Lib.hid (done4 hR.out)
 rw [hd] at D0
 have K := hR.out.here
 obtain ⟨⟨k0, k1, k2, k3⟩, _, hrb2⟩ := K
 have k0' := cell_regrown k0
 have k1' := cell_regrown k1
 obtain ⟨q0, q1⟩ := hR.out.word s.n _ (tk4_lt hs)
 have q0' := cell_regrown q0
 have hbd : (0 : Int) ≤ (s.n : Int) ∧ (s.n : Int) < (T.length : Int) := ⟨by omega, by omega⟩
 have e0 : ((bZ (w4T (tk4 T s))).toList == [40]) = false := by rw [eqw, hk]; decide
 have e1 : ((bZ (w4T (tk4 T s))).toList == [111, 100, 100]) = false := by rw [eqw, hk]; decide
 have e2 : ((bZ (w4T (tk4 T s))).toList == [101, 118, 101, 110]) = true := by rw [eqw, hk]; decide
 have e3 : ((bZ (w4T (tk4 T s))).toList == [98, 97, 99, 107]) = false := by rw [eqw, hk]; decide
 have e4 : ((bZ (w4T (tk4 T s))).toList == [101, 118, 101, 114, 121]) = false := by rw [eqw, hk]; decide
 have I0 : ∀ w, R4At T tb off cap rb w s → Calls Tryd.prog 29 #[.pointer (some ⟨rb, 0, none⟩), .string ⟨#[40]⟩] w fun e w' => e = .returned (.bool false) ∧ GrX rb w w' ∧ R4At T tb off cap rb w' s := fun w hw => is_n hs hw hT.few wOpen (isB_ne (by rw [hk]; decide))
 have I1 : ∀ w, R4At T tb off cap rb w s → Calls Tryd.prog 29 #[.pointer (some ⟨rb, 0, none⟩), .string ⟨#[111, 100, 100]⟩] w fun e w' => e = .returned (.bool false) ∧ GrX rb w w' ∧ R4At T tb off cap rb w' s := fun w hw => is_n hs hw hT.few wOdd (isB_ne (by rw [hk]; decide))
 have I2 : ∀ w, R4At T tb off cap rb w s → Calls Tryd.prog 29 #[.pointer (some ⟨rb, 0, none⟩), .string ⟨#[101, 118, 101, 110]⟩] w fun e w' => e = .returned (.bool true) ∧ GrX rb w w' ∧ R4At T tb off cap rb w' (nxS s) := fun w hw => is_y hs hw hT.few wEven (isB_eq hd hk)
 have hsn : S4In T (nxS s) := nx_in hT hs (b := 101) (w := [118, 101, 110]) (by decide) (isB_eq hd hk)
 have hdI : ¬ ((100 : Int) < (deep : Int)) := by omega
 have hwd : IntKind.i64.wrap ((deep : Int) + 1) = (deep : Int) + 1 := wrap_in (by omega)
 have HE := Lib.hid (And.intro k0' (And.intro k1' (And.intro q0' (And.intro e0 (And.intro e1 (And.intro e2 (And.intro e3 e4)))))))
 clear e0 e1 e2 e3 e4 k0 k1 k2 k3 k0' k1' q0 q1 q0' hk
 have E : ∀ w, R4At T tb off cap rb w (nxS s) → Calls Tryd.prog 28 #[.pointer (some ⟨rb, 0, none⟩), .int .i64 ((deep : Int) + 1)] w (Post4 T tb off cap rb w x) := fun w h4 => hp w (nxS s) (deep + 1) x (by omega) hsn h4 hx
 clear hx hp
 obtain ⟨p, s1⟩ := x
 go_enter Tryd.func28, Tryd.ntmps28
 go_wp2_with (go_at_call 17; (with_reducible refine D0.out.mono ?_); rintro e w1 ⟨rfl, hw1⟩; obtain rfl := hw1.symm)
 obtain ⟨k0', k1', q0', e0, e1, e2, e3, e4⟩ := HE.out
 refine wp_region_quiet_below (by kernel_rfl) (by kernel_rfl) ?_
 repeat (quiet_step (fail))
 refine wpQuiet_nil ?_
 intro w' hw'
 obtain ⟨⟨dq, osq⟩, rfl⟩ := hw'
 have g3 := below_regrown (W.alloc (.cells #[.int .i64 0, .int .i64 0, .int .i64 0, .slice none 0 0] 24)) dq osq
 replace hA := Lib.hid ((g3.block _ (Array.getElem?_eq_some_iff.1 hA.out).1).trans hA.out)
 replace hR := Lib.hid (hR.out.mono g3)
 replace hX := hX.trans (GrX.of g3)
 clear g3 k0' k1' q0' D0 HE
 generalize grow (redrawn (W.alloc (.cells #[.int .i64 0, .int .i64 0, .int .i64 0, .slice none 0 0] 24)) dq) osq = W3 at *
 go_wp2_with (first
  | (go_at_call 29; (with_reducible refine (I0 _ hR.out).mono ?_); rintro e w1 ⟨rfl, hXn, hRn⟩; replace hX := hX.trans hXn; replace hR := Lib.hid hRn; replace hA := Lib.hid (hXn.heap hA.out hne); clear hXn hRn)
  | (go_at_call 29; (with_reducible refine (I1 _ hR.out).mono ?_); rintro e w1 ⟨rfl, hXn, hRn⟩; replace hX := hX.trans hXn; replace hR := Lib.hid hRn; replace hA := Lib.hid (hXn.heap hA.out hne); clear hXn hRn)
  | (go_at_call 29; (with_reducible refine (I2 _ hR.out).mono ?_); rintro e w1 ⟨rfl, hXn, hRn⟩; replace hX := hX.trans hXn; replace hR := Lib.hid hRn; replace hA := Lib.hid (hXn.heap hA.out hne); clear hXn hRn)
  | (go_at_call 28; (with_reducible refine (E _ hR.out).mono ?_); rintro e w1 ⟨sv, rfl, hXn, hRn, hS⟩; obtain ⟨sa, sn, sc, rfl⟩ := svAt_shape hS; have hz := (Array.getElem?_eq_some_iff.1 hA.out).1; have hz2 := hXn.size; have hB := Lib.hid (heap_last w1 (.cells #[.int .i64 p.kind, .int .i64 p.frm, .int .i64 p.to, .slice sa sn sc] 24)); replace hX := (hX.trans hXn).alloc (.cells #[.int .i64 p.kind, .int .i64 p.frm, .int .i64 p.to, .slice sa sn sc] 24); replace hA := Lib.hid (heap_old _ (.cells #[.int .i64 p.kind, .int .i64 p.frm, .int .i64 p.to, .slice sa sn sc] 24) _ _ (Nat.lt_of_lt_of_le hz hz2) (hXn.heap hA.out hne)); replace hR := Lib.hid (hRn.mono (Gr.alloc (Gr.refl w1) (.cells #[.int .i64 p.kind, .int .i64 p.frm, .int .i64 p.to, .slice sa sn sc] 24))); replace hS := Lib.hid (SvAt.mono (Q := fun k => W.heap.size < k ∧ k < w1.heap.size) (Gr.alloc (Gr.refl w1) (.cells #[.int .i64 p.kind, .int .i64 p.frm, .int .i64 p.to, .slice sa sn sc] 24)).size (fun k _ hk => (Gr.alloc (Gr.refl w1) (.cells #[.int .i64 p.kind, .int .i64 p.frm, .int .i64 p.to, .slice sa sn sc] 24)).below.block k hk) (fun k hk1 hk2 => ⟨by have := hk1.1; omega, hk2⟩) p _ hS); clear hXn hRn; have BA := Box4.of hA.out; obtain ⟨⟨k0, k1, k2, k3⟩, ⟨f0, f1, f2, f3⟩, hbl⟩ := BA))
 have hs9 := (Array.getElem?_eq_some_iff.1 hB.out).1
 obtain ⟨⟨c0, c1, c2, c3⟩, hXf, hRf, hkf, hsf⟩ := fin4R hX (Nat.le_refl _) hne hne2 (Box4.of hA.out) hR.out (.int .i64 7) (.int .i64 0) (.int .i64 0) (.slice (some ⟨w1.heap.size, 0, none⟩) 1 1)
 refine bodyPost_ret (v := .agg #[.int .i64 7, .int .i64 0, .int .i64 0, .slice (some ⟨w1.heap.size, 0, none⟩) 1 1]) (by simp [results, Tryd.results28, go_sem, c0, c1, c2, c3]) rfl ?_
 exact ⟨_, rfl, hXf, hRf, svAt_one (T := 24) ⟨by omega, by omega⟩ ((hkf _ (by omega)).trans hB.out) (SvAt.mono (by omega) (fun k hk1 hk2 => hkf k (by have := hk1.1; omega)) (fun k hk1 hk2 => ⟨by have := hk1.1; omega, by have := hk1.2; omega⟩) p _ hS.out)⟩
set_option maxHeartbeats 2000000 in
theorem sim_back {f deep : Nat} {s : S4} {W : World} (hT : TokOk T) (hs : S4In T s) (hd : s.done = false) (hdp : deep ≤ 100) (hp : PreS4 T tb off cap rb f) {x : PickD × S4} (hk : w4T (tk4 T s) = wBk) (hx : preS T f (deep + 1) (nxS s) = some x) (h : R4At T tb off cap rb W s) : Calls Tryd.prog 28 #[.pointer (some ⟨rb, 0, none⟩), .int .i64 (deep : Int)] W (Post4 T tb off cap rb W (.mk 8 0 0 [x.1], x.2)) := by
 have hlt := hs.lt
 have hrb := h.here.2.2
 have htb := h.tb_lt (by omega)
 have hne : W.heap.size ≠ rb := by omega
 have hne2 : W.heap.size ≠ tb := by omega
 have hG1 : Gr W (W.alloc (.cells #[.int .i64 0, .int .i64 0, .int .i64 0, .slice none 0 0] 24)) := Gr.alloc (Gr.refl W) _
 have hA := Lib.hid (heap_last W (.cells #[.int .i64 0, .int .i64 0, .int .i64 0, .slice none 0 0] 24))
 have hR := Lib.hid (h.mono hG1)
 have hX : GrX rb W (W.alloc (.cells #[.int .i64 0, .int .i64 0, .int .i64 0, .slice none 0 0] 24)) := GrX.ofG hG1
 clear h hG1
 have D0 := Lib.hid (done4 hR.out)
 rw [hd] at D0
 have K := hR.out.here
 obtain ⟨⟨k0, k1, k2, k3⟩, _, hrb2⟩ := K
 have k0' := cell_regrown k0
 have k1' := cell_regrown k1
 obtain ⟨q0, q1⟩ := hR.out.word s.n _ (tk4_lt hs)
 have q0' := cell_regrown q0
 have hbd : (0 : Int) ≤ (s.n : Int) ∧ (s.n : Int) < (T.length : Int) := ⟨by omega, by omega⟩
 have e0 : ((bZ (w4T (tk4 T s))).toList == [40]) = false := by rw [eqw, hk]; decide
 have e1 : ((bZ (w4T (tk4 T s))).toList == [111, 100, 100]) = false := by rw [eqw, hk]; decide
 have e2 : ((bZ (w4T (tk4 T s))).toList == [101, 118, 101, 110]) = false := by rw [eqw, hk]; decide
 have e3 : ((bZ (w4T (tk4 T s))).toList == [98, 97, 99, 107]) = true := by rw [eqw, hk]; decide
 have e4 : ((bZ (w4T (tk4 T s))).toList == [101, 118, 101, 114, 121]) = false := by rw [eqw, hk]; decide
 have I0 : ∀ w, R4At T tb off cap rb w s → Calls Tryd.prog 29 #[.pointer (some ⟨rb, 0, none⟩), .string ⟨#[40]⟩] w fun e w' => e = .returned (.bool false) ∧ GrX rb w w' ∧ R4At T tb off cap rb w' s := fun w hw => is_n hs hw hT.few wOpen (isB_ne (by rw [hk]; decide))
 have I1 : ∀ w, R4At T tb off cap rb w s → Calls Tryd.prog 29 #[.pointer (some ⟨rb, 0, none⟩), .string ⟨#[111, 100, 100]⟩] w fun e w' => e = .returned (.bool false) ∧ GrX rb w w' ∧ R4At T tb off cap rb w' s := fun w hw => is_n hs hw hT.few wOdd (isB_ne (by rw [hk]; decide))
 have I2 : ∀ w, R4At T tb off cap rb w s → Calls Tryd.prog 29 #[.pointer (some ⟨rb, 0, none⟩), .string ⟨#[101, 118, 101, 110]⟩] w fun e w' => e = .returned (.bool false) ∧ GrX rb w w' ∧ R4At T tb off cap rb w' s := fun w hw => is_n hs hw hT.few wEven (isB_ne (by rw [hk]; decide))
 have I3 : ∀ w, R4At T tb off cap rb w s → Calls Tryd.prog 29 #[.pointer (some ⟨rb, 0, none⟩), .string ⟨#[98, 97, 99, 107]⟩] w fun e w' => e = .returned (.bool true) ∧ GrX rb w w' ∧ R4At T tb off cap rb w' (nxS s) := fun w hw => is_y hs hw hT.few wBk (isB_eq hd hk)
 have hsn : S4In T (nxS s) := nx_in hT hs (b := 98) (w := [97, 99, 107]) (by decide) (isB_eq hd hk)
 have hdI : ¬ ((100 : Int) < (deep : Int)) := by omega
 have hwd : IntKind.i64.wrap ((deep : Int) + 1) = (deep : Int) + 1 := wrap_in (by omega)
 have HE := Lib.hid (And.intro k0' (And.intro k1' (And.intro q0' (And.intro e0 (And.intro e1 (And.intro e2 (And.intro e3 e4)))))))
 clear e0 e1 e2 e3 e4 k0 k1 k2 k3 k0' k1' q0 q1 q0' hk
 have E : ∀ w, R4At T tb off cap rb w (nxS s) → Calls Tryd.prog 28 #[.pointer (some ⟨rb, 0, none⟩), .int .i64 ((deep : Int) + 1)] w (Post4 T tb off cap rb w x) := fun w h4 => hp w (nxS s) (deep + 1) x (by omega) hsn h4 hx
 clear hx hp
 obtain ⟨p, s1⟩ := x
 go_enter Tryd.func28, Tryd.ntmps28
 go_wp2_with (go_at_call 17; (with_reducible refine D0.out.mono ?_); rintro e w1 ⟨rfl, hw1⟩; obtain rfl := hw1.symm)
 obtain ⟨k0', k1', q0', e0, e1, e2, e3, e4⟩ := HE.out
 refine wp_region_quiet_below (by kernel_rfl) (by kernel_rfl) ?_
 repeat (quiet_step (fail))
 refine wpQuiet_nil ?_
 intro w' hw'
 obtain ⟨⟨dq, osq⟩, rfl⟩ := hw'
 have g3 := below_regrown (W.alloc (.cells #[.int .i64 0, .int .i64 0, .int .i64 0, .slice none 0 0] 24)) dq osq
 replace hA := Lib.hid ((g3.block _ (Array.getElem?_eq_some_iff.1 hA.out).1).trans hA.out)
 replace hR := Lib.hid (hR.out.mono g3)
 replace hX := hX.trans (GrX.of g3)
 clear g3 k0' k1' q0' D0 HE
 generalize grow (redrawn (W.alloc (.cells #[.int .i64 0, .int .i64 0, .int .i64 0, .slice none 0 0] 24)) dq) osq = W3 at *
 go_wp2_with (first
  | (go_at_call 29; (with_reducible refine (I0 _ hR.out).mono ?_); rintro e w1 ⟨rfl, hXn, hRn⟩; replace hX := hX.trans hXn; replace hR := Lib.hid hRn; replace hA := Lib.hid (hXn.heap hA.out hne); clear hXn hRn)
  | (go_at_call 29; (with_reducible refine (I1 _ hR.out).mono ?_); rintro e w1 ⟨rfl, hXn, hRn⟩; replace hX := hX.trans hXn; replace hR := Lib.hid hRn; replace hA := Lib.hid (hXn.heap hA.out hne); clear hXn hRn)
  | (go_at_call 29; (with_reducible refine (I2 _ hR.out).mono ?_); rintro e w1 ⟨rfl, hXn, hRn⟩; replace hX := hX.trans hXn; replace hR := Lib.hid hRn; replace hA := Lib.hid (hXn.heap hA.out hne); clear hXn hRn)
  | (go_at_call 29; (with_reducible refine (I3 _ hR.out).mono ?_); rintro e w1 ⟨rfl, hXn, hRn⟩; replace hX := hX.trans hXn; replace hR := Lib.hid hRn; replace hA := Lib.hid (hXn.heap hA.out hne); clear hXn hRn)
  | (go_at_call 28; (with_reducible refine (E _ hR.out).mono ?_); rintro e w1 ⟨sv, rfl, hXn, hRn, hS⟩; obtain ⟨sa, sn, sc, rfl⟩ := svAt_shape hS; have hz := (Array.getElem?_eq_some_iff.1 hA.out).1; have hz2 := hXn.size; have hB := Lib.hid (heap_last w1 (.cells #[.int .i64 p.kind, .int .i64 p.frm, .int .i64 p.to, .slice sa sn sc] 24)); replace hX := (hX.trans hXn).alloc (.cells #[.int .i64 p.kind, .int .i64 p.frm, .int .i64 p.to, .slice sa sn sc] 24); replace hA := Lib.hid (heap_old _ (.cells #[.int .i64 p.kind, .int .i64 p.frm, .int .i64 p.to, .slice sa sn sc] 24) _ _ (Nat.lt_of_lt_of_le hz hz2) (hXn.heap hA.out hne)); replace hR := Lib.hid (hRn.mono (Gr.alloc (Gr.refl w1) (.cells #[.int .i64 p.kind, .int .i64 p.frm, .int .i64 p.to, .slice sa sn sc] 24))); replace hS := Lib.hid (SvAt.mono (Q := fun k => W.heap.size < k ∧ k < w1.heap.size) (Gr.alloc (Gr.refl w1) (.cells #[.int .i64 p.kind, .int .i64 p.frm, .int .i64 p.to, .slice sa sn sc] 24)).size (fun k _ hk => (Gr.alloc (Gr.refl w1) (.cells #[.int .i64 p.kind, .int .i64 p.frm, .int .i64 p.to, .slice sa sn sc] 24)).below.block k hk) (fun k hk1 hk2 => ⟨by have := hk1.1; omega, hk2⟩) p _ hS); clear hXn hRn; have BA := Box4.of hA.out; obtain ⟨⟨k0, k1, k2, k3⟩, ⟨f0, f1, f2, f3⟩, hbl⟩ := BA))
 have hs9 := (Array.getElem?_eq_some_iff.1 hB.out).1
 obtain ⟨⟨c0, c1, c2, c3⟩, hXf, hRf, hkf, hsf⟩ := fin4R hX (Nat.le_refl _) hne hne2 (Box4.of hA.out) hR.out (.int .i64 8) (.int .i64 0) (.int .i64 0) (.slice (some ⟨w1.heap.size, 0, none⟩) 1 1)
 refine bodyPost_ret (v := .agg #[.int .i64 8, .int .i64 0, .int .i64 0, .slice (some ⟨w1.heap.size, 0, none⟩) 1 1]) (by simp [results, Tryd.results28, go_sem, c0, c1, c2, c3]) rfl ?_
 exact ⟨_, rfl, hXf, hRf, svAt_one (T := 24) ⟨by omega, by omega⟩ ((hkf _ (by omega)).trans hB.out) (SvAt.mono (by omega) (fun k hk1 hk2 => hkf k (by have := hk1.1; omega)) (fun k hk1 hk2 => ⟨by have := hk1.1; omega, by have := hk1.2; omega⟩) p _ hS.out)⟩
end
end Go.Proofs.YtfalbgflabajbaaDoor

namespace Go.Proofs.YtfalbgflabajbaaDoor
set_option linter.unusedSectionVars false
open Go.RowKit Go.Sort
set_option linter.unusedVariables false
set_option linter.unusedSimpArgs false
set_option maxRecDepth 100000
section
variable {T : List TokD} {tb off cap rb : Nat}
set_option maxHeartbeats 2000000 in
theorem sim_every {f deep : Nat} {s : S4} {W : World} (hT : TokOk T) (hs : S4In T s) (hd : s.done = false) (hdp : deep ≤ 100) (hp : PreS4 T tb off cap rb f) {x : PickD × S4} (hk : w4T (tk4 T s) = wEvery) (hx : preS T f (deep + 1) (numS T (mustS T wFrom (numS T (nxS s)).2)).2 = some x) (h : R4At T tb off cap rb W s) : Calls Tryd.prog 28 #[.pointer (some ⟨rb, 0, none⟩), .int .i64 (deep : Int)] W (Post4 T tb off cap rb W (.mk 9 (numS T (nxS s)).1 (numS T (mustS T wFrom (numS T (nxS s)).2)).1 [x.1], x.2)) := by
 have hlt := hs.lt
 have hrb := h.here.2.2
 have htb := h.tb_lt (by omega)
 have hne : W.heap.size ≠ rb := by omega
 have hne2 : W.heap.size ≠ tb := by omega
 have hG1 : Gr W (W.alloc (.cells #[.int .i64 0, .int .i64 0, .int .i64 0, .slice none 0 0] 24)) := Gr.alloc (Gr.refl W) _
 have hA := Lib.hid (heap_last W (.cells #[.int .i64 0, .int .i64 0, .int .i64 0, .slice none 0 0] 24))
 have hR := Lib.hid (h.mono hG1)
 have hX : GrX rb W (W.alloc (.cells #[.int .i64 0, .int .i64 0, .int .i64 0, .slice none 0 0] 24)) := GrX.ofG hG1
 clear h hG1
 have D0 := Lib.hid (done4 hR.out)
 rw [hd] at D0
 have K := hR.out.here
 obtain ⟨⟨k0, k1, k2, k3⟩, _, hrb2⟩ := K
 have k0' := cell_regrown k0
 have k1' := cell_regrown k1
 obtain ⟨q0, q1⟩ := hR.out.word s.n _ (tk4_lt hs)
 have q0' := cell_regrown q0
 have hbd : (0 : Int) ≤ (s.n : Int) ∧ (s.n : Int) < (T.length : Int) := ⟨by omega, by omega⟩
 have e0 : ((bZ (w4T (tk4 T s))).toList == [40]) = false := by rw [eqw, hk]; decide
 have e1 : ((bZ (w4T (tk4 T s))).toList == [111, 100, 100]) = false := by rw [eqw, hk]; decide
 have e2 : ((bZ (w4T (tk4 T s))).toList == [101, 118, 101, 110]) = false := by rw [eqw, hk]; decide
 have e3 : ((bZ (w4T (tk4 T s))).toList == [98, 97, 99, 107]) = false := by rw [eqw, hk]; decide
 have e4 : ((bZ (w4T (tk4 T s))).toList == [101, 118, 101, 114, 121]) = true := by rw [eqw, hk]; decide
 have I0 : ∀ w, R4At T tb off cap rb w s → Calls Tryd.prog 29 #[.pointer (some ⟨rb, 0, none⟩), .string ⟨#[40]⟩] w fun e w' => e = .returned (.bool false) ∧ GrX rb w w' ∧ R4At T tb off cap rb w' s := fun w hw => is_n hs hw hT.few wOpen (isB_ne (by rw [hk]; decide))
 have I1 : ∀ w, R4At T tb off cap rb w s → Calls Tryd.prog 29 #[.pointer (some ⟨rb, 0, none⟩), .string ⟨#[111, 100, 100]⟩] w fun e w' => e = .returned (.bool false) ∧ GrX rb w w' ∧ R4At T tb off cap rb w' s := fun w hw => is_n hs hw hT.few wOdd (isB_ne (by rw [hk]; decide))
 have I2 : ∀ w, R4At T tb off cap rb w s → Calls Tryd.prog 29 #[.pointer (some ⟨rb, 0, none⟩), .string ⟨#[101, 118, 101, 110]⟩] w fun e w' => e = .returned (.bool false) ∧ GrX rb w w' ∧ R4At T tb off cap rb w' s := fun w hw => is_n hs hw hT.few wEven (isB_ne (by rw [hk]; decide))
 have I3 : ∀ w, R4At T tb off cap rb w s → Calls Tryd.prog 29 #[.pointer (some ⟨rb, 0, none⟩), .string ⟨#[98, 97, 99, 107]⟩] w fun e w' => e = .returned (.bool false) ∧ GrX rb w w' ∧ R4At T tb off cap rb w' s := fun w hw => is_n hs hw hT.few wBk (isB_ne (by rw [hk]; decide))
 have I4 : ∀ w, R4At T tb off cap rb w s → Calls Tryd.prog 29 #[.pointer (some ⟨rb, 0, none⟩), .string ⟨#[101, 118, 101, 114, 121]⟩] w fun e w' => e = .returned (.bool true) ∧ GrX rb w w' ∧ R4At T tb off cap rb w' (nxS s) := fun w hw => is_y hs hw hT.few wEvery (isB_eq hd hk)
 have hsn : S4In T (nxS s) := nx_in hT hs (b := 101) (w := [118, 101, 114, 121]) (by decide) (isB_eq hd hk)
 have hdI : ¬ ((100 : Int) < (deep : Int)) := by omega
 have hwd : IntKind.i64.wrap ((deep : Int) + 1) = (deep : Int) + 1 := wrap_in (by omega)
 have HE := Lib.hid (And.intro k0' (And.intro k1' (And.intro q0' (And.intro e0 (And.intro e1 (And.intro e2 (And.intro e3 e4)))))))
 clear e0 e1 e2 e3 e4 k0 k1 k2 k3 k0' k1' q0 q1 q0' hk
 have hn1 := num_in hT hsn
 have hm1 : S4In T (mustS T wFrom (numS T (nxS s)).2) := must_in hT (b := 102) (w := [114, 111, 109]) hn1 (by decide)
 have hn2 := num_in hT hm1
 have N0 : ∀ w, R4At T tb off cap rb w (nxS s) → _ := fun w hw => num4 hsn hw hT.few hT.text
 have M : ∀ w, R4At T tb off cap rb w (numS T (nxS s)).2 → Calls Tryd.prog 38 #[.pointer (some ⟨rb, 0, none⟩), .string ⟨#[102, 114, 111, 109]⟩] w fun e w' => e = .returned (.tuple #[]) ∧ GrX rb w w' ∧ R4At T tb off cap rb w' (mustS T wFrom (numS T (nxS s)).2) := fun w h4 => must4 hn1 h4 hT.few wFrom
 have N1 : ∀ w, R4At T tb off cap rb w (mustS T wFrom (numS T (nxS s)).2) → _ := fun w hw => num4 hm1 hw hT.few hT.text
 have E : ∀ w, R4At T tb off cap rb w (numS T (mustS T wFrom (numS T (nxS s)).2)).2 → Calls Tryd.prog 28 #[.pointer (some ⟨rb, 0, none⟩), .int .i64 ((deep : Int) + 1)] w (Post4 T tb off cap rb w x) := fun w h4 => hp w _ (deep + 1) x (by omega) hn2 h4 hx
 clear hx hp
 obtain ⟨p, sx⟩ := x
 generalize numS T (nxS s) = nr1 at *
 obtain ⟨m1, s1⟩ := nr1
 simp only at N0 M N1 E hn1 hm1 hn2 ⊢
 generalize mustS T wFrom s1 = ms at *
 generalize numS T ms = nr2 at *
 obtain ⟨m2, s2⟩ := nr2
 simp only at N1 E hn2 ⊢
 go_enter Tryd.func28, Tryd.ntmps28
 go_wp2_with (go_at_call 17; (with_reducible refine D0.out.mono ?_); rintro e w1 ⟨rfl, hw1⟩; obtain rfl := hw1.symm)
 obtain ⟨k0', k1', q0', e0, e1, e2, e3, e4⟩ := HE.out
 refine wp_region_quiet_below (by kernel_rfl) (by kernel_rfl) ?_
 repeat (quiet_step (fail))
 refine wpQuiet_nil ?_
 intro w' hw'
 obtain ⟨⟨dq, osq⟩, rfl⟩ := hw'
 have g3 := below_regrown (W.alloc (.cells #[.int .i64 0, .int .i64 0, .int .i64 0, .slice none 0 0] 24)) dq osq
 replace hA := Lib.hid ((g3.block _ (Array.getElem?_eq_some_iff.1 hA.out).1).trans hA.out)
 replace hR := Lib.hid (hR.out.mono g3)
 replace hX := hX.trans (GrX.of g3)
 clear g3 k0' k1' q0' D0 HE
 generalize grow (redrawn (W.alloc (.cells #[.int .i64 0, .int .i64 0, .int .i64 0, .slice none 0 0] 24)) dq) osq = W3 at *
 go_wp2_with (first
  | (go_at_call 29; (with_reducible refine (I0 _ hR.out).mono ?_); rintro e w1 ⟨rfl, hXn, hRn⟩; replace hX := hX.trans hXn; replace hR := Lib.hid hRn; replace hA := Lib.hid (hXn.heap hA.out hne); clear hXn hRn)
  | (go_at_call 29; (with_reducible refine (I1 _ hR.out).mono ?_); rintro e w1 ⟨rfl, hXn, hRn⟩; replace hX := hX.trans hXn; replace hR := Lib.hid hRn; replace hA := Lib.hid (hXn.heap hA.out hne); clear hXn hRn)
  | (go_at_call 29; (with_reducible refine (I2 _ hR.out).mono ?_); rintro e w1 ⟨rfl, hXn, hRn⟩; replace hX := hX.trans hXn; replace hR := Lib.hid hRn; replace hA := Lib.hid (hXn.heap hA.out hne); clear hXn hRn)
  | (go_at_call 29; (with_reducible refine (I3 _ hR.out).mono ?_); rintro e w1 ⟨rfl, hXn, hRn⟩; replace hX := hX.trans hXn; replace hR := Lib.hid hRn; replace hA := Lib.hid (hXn.heap hA.out hne); clear hXn hRn)
  | (go_at_call 29; (with_reducible refine (I4 _ hR.out).mono ?_); rintro e w1 ⟨rfl, hXn, hRn⟩; replace hX := hX.trans hXn; replace hR := Lib.hid hRn; replace hA := Lib.hid (hXn.heap hA.out hne); clear hXn hRn)
  | (go_at_call 39; (with_reducible refine (N0 _ hR.out).mono ?_); rintro e w2 ⟨rfl, hXn, hRn⟩; have hz := (Array.getElem?_eq_some_iff.1 hA.out).1; have hz2 := hXn.size; have hpb : W.heap.size < w2.heap.size := Nat.lt_of_lt_of_le hz hz2; have hB := Lib.hid (Box4.of (heap_last w2 (.cells #[.int .i64 9, .int .i64 m1, .int .i64 0, .slice none 0 0] 24))); replace hX := (hX.trans hXn).alloc (.cells #[.int .i64 9, .int .i64 m1, .int .i64 0, .slice none 0 0] 24); replace hA := Lib.hid (heap_old _ (.cells #[.int .i64 9, .int .i64 m1, .int .i64 0, .slice none 0 0] 24) _ _ hpb (hXn.heap hA.out hne)); replace hR := Lib.hid (hRn.mono (Gr.alloc (Gr.refl w2) (.cells #[.int .i64 9, .int .i64 m1, .int .i64 0, .slice none 0 0] 24))); clear hXn hRn)
  | (go_at_call 38; (with_reducible refine (M _ hR.out).mono ?_); rintro e w3 ⟨rfl, hXn, hRn⟩; replace hB := Lib.hid (Box4.grx hB.out hXn (by omega)); replace hX := hX.trans hXn; replace hR := Lib.hid hRn; replace hA := Lib.hid (hXn.heap hA.out hne); clear hXn hRn)
  | (go_at_call 39; (with_reducible refine (N1 _ hR.out).mono ?_); rintro e w4 ⟨rfl, hXn, hRn⟩; replace hB := Lib.hid (Box4.grx hB.out hXn (by omega)); replace hX := (hX.trans hXn).put (b := w2.heap.size) (o := 2) (by omega) (.int .i64 m2); replace hA := Lib.hid ((heap_setCell_ne w4 (show w2.heap.size ≠ W.heap.size by omega) 2 (.int .i64 m2)).trans (hXn.heap hA.out hne)); replace hR := Lib.hid (hRn.other (b := w2.heap.size) (o := 2) (u := .int .i64 m2) (by omega) (by omega)); have BB := hB.out; obtain ⟨⟨b0, b1, b2, b3⟩, ⟨z0, z1, z2, z3⟩, hzl⟩ := BB; replace hB := Lib.hid (Box4.st2 hB.out (u := .int .i64 m2)); clear hXn hRn)
  | (go_at_call 28; (with_reducible refine (E _ hR.out).mono ?_); rintro e w5 ⟨sv, rfl, hXn, hRn, hS⟩; obtain ⟨sa, sn, sc, rfl⟩ := svAt_shape hS; replace hB := Lib.hid (Box4.grx hB.out hXn (by omega)); have hz4 := (Array.getElem?_eq_some_iff.1 hA.out).1; have hz5 := hXn.size; have BB := (hB.out).mono (Gr.alloc (Gr.refl w5) (.cells #[.int .i64 p.kind, .int .i64 p.frm, .int .i64 p.to, .slice sa sn sc] 24)); have hB9 := Lib.hid (Box4.st3 BB (u := .slice (some ⟨w5.heap.size, 0, none⟩) 1 1)); have hL := Lib.hid (heap_last w5 (.cells #[.int .i64 p.kind, .int .i64 p.frm, .int .i64 p.to, .slice sa sn sc] 24)); replace hX := ((hX.trans hXn).alloc (.cells #[.int .i64 p.kind, .int .i64 p.frm, .int .i64 p.to, .slice sa sn sc] 24)).put (b := w2.heap.size) (o := 3) (by omega) (.slice (some ⟨w5.heap.size, 0, none⟩) 1 1); replace hA := Lib.hid ((heap_setCell_ne _ (show w2.heap.size ≠ W.heap.size by omega) 3 (.slice (some ⟨w5.heap.size, 0, none⟩) 1 1)).trans (heap_old _ (.cells #[.int .i64 p.kind, .int .i64 p.frm, .int .i64 p.to, .slice sa sn sc] 24) _ _ (Nat.lt_of_lt_of_le hz4 hz5) (hXn.heap hA.out hne))); replace hR := Lib.hid ((hRn.mono (Gr.alloc (Gr.refl w5) (.cells #[.int .i64 p.kind, .int .i64 p.frm, .int .i64 p.to, .slice sa sn sc] 24))).other (b := w2.heap.size) (o := 3) (u := .slice (some ⟨w5.heap.size, 0, none⟩) 1 1) (by omega) (by omega)); clear hXn hRn; obtain ⟨⟨b0, b1, b2, b3⟩, ⟨z0, z1, z2, z3⟩, hzl⟩ := BB; have BA := Box4.of hA.out; obtain ⟨⟨k0, k1, k2, k3⟩, ⟨f0, f1, f2, f3⟩, hbl⟩ := BA; have BC := hB9.out; obtain ⟨⟨d0, d1, d2, d3⟩, _, _⟩ := BC))
 have hs9 := (Array.getElem?_eq_some_iff.1 hL.out).1
 have hzq : w4.heap.size ≤ w5.heap.size := by simpa using hz5
 have hsz9 : ((w5.alloc (.cells #[.int .i64 p.kind, .int .i64 p.frm, .int .i64 p.to, .slice sa sn sc] 24)).setCell ⟨w2.heap.size, 3, none⟩ (.slice (some ⟨w5.heap.size, 0, none⟩) 1 1)).heap.size = w5.heap.size + 1 := by simp
 obtain ⟨⟨c0, c1, c2, c3⟩, hXf, hRf, hkf, hsf⟩ := fin4R hX (Nat.le_refl _) hne hne2 (Box4.of hA.out) hR.out (.int .i64 9) (.int .i64 m1) (.int .i64 m2) (.slice (some ⟨w5.heap.size, 0, none⟩) 1 1)
 refine bodyPost_ret (v := .agg #[.int .i64 9, .int .i64 m1, .int .i64 m2, .slice (some ⟨w5.heap.size, 0, none⟩) 1 1]) (by simp [results, Tryd.results28, go_sem, c0, c1, c2, c3]) rfl ?_
 exact ⟨_, rfl, hXf, hRf, svAt_one (T := 24) ⟨by omega, by omega⟩ ((hkf _ (by omega)).trans ((heap_setCell_ne _ (show w2.heap.size ≠ w5.heap.size by omega) 3 _).trans hL.out)) (SvAt.mono (by omega) (fun k hk1 hk2 => (hkf k (by have := hk1.1; simp at this; omega)).trans ((heap_setCell_ne _ (show w2.heap.size ≠ k by have := hk1.1; simp at this; omega) 3 _).trans (Below.heap_alloc w5 (.cells #[.int .i64 p.kind, .int .i64 p.frm, .int .i64 p.to, .slice sa sn sc] 24) k hk2))) (fun k hk1 hk2 => ⟨by have := hk1.1; simp at this; omega, by omega⟩) p _ hS)⟩
end
end Go.Proofs.YtfalbgflabajbaaDoor

namespace Go.Proofs.YtfalbgflabajbaaDoor
set_option linter.unusedSectionVars false
open Go.RowKit Go.Sort
set_option linter.unusedVariables false
set_option linter.unusedSimpArgs false
set_option maxRecDepth 100000
section
variable {T : List TokD} {tb off cap rb : Nat}
set_option maxHeartbeats 2000000 in
theorem sim_units_no {f deep : Nat} {s : S4} {W : World} (hT : TokOk T) (hs : S4In T s) (hd : s.done = false) (hdp : deep ≤ 101) (hk0 : w4T (tk4 T s) ≠ wOpen) (hk1 : w4T (tk4 T s) ≠ wOdd) (hk2 : w4T (tk4 T s) ≠ wEven) (hk3 : w4T (tk4 T s) ≠ wBk) (hk4 : w4T (tk4 T s) ≠ wEvery) (hk5 : w4T (tk4 T s) ≠ wGroup) (hk6 : w4T (tk4 T s) ≠ wPreset) (hB0 : isB T wThru (numS T s).2 = false) (h : R4At T tb off cap rb W s) : Calls Tryd.prog 28 #[.pointer (some ⟨rb, 0, none⟩), .int .i64 (deep : Int)] W (Post4 T tb off cap rb W (.mk 1 (numS T s).1 (numS T s).1 [], (numS T s).2)) := by
 have I0 : ∀ w, R4At T tb off cap rb w s → Calls Tryd.prog 29 #[.pointer (some ⟨rb, 0, none⟩), .string ⟨#[40]⟩] w fun e w' => e = .returned (.bool false) ∧ GrX rb w w' ∧ R4At T tb off cap rb w' s := fun w hw => is_n hs hw hT.few wOpen (isB_ne hk0)
 have I1 : ∀ w, R4At T tb off cap rb w s → Calls Tryd.prog 29 #[.pointer (some ⟨rb, 0, none⟩), .string ⟨#[111, 100, 100]⟩] w fun e w' => e = .returned (.bool false) ∧ GrX rb w w' ∧ R4At T tb off cap rb w' s := fun w hw => is_n hs hw hT.few wOdd (isB_ne hk1)
 have I2 : ∀ w, R4At T tb off cap rb w s → Calls Tryd.prog 29 #[.pointer (some ⟨rb, 0, none⟩), .string ⟨#[101, 118, 101, 110]⟩] w fun e w' => e = .returned (.bool false) ∧ GrX rb w w' ∧ R4At T tb off cap rb w' s := fun w hw => is_n hs hw hT.few wEven (isB_ne hk2)
 have I3 : ∀ w, R4At T tb off cap rb w s → Calls Tryd.prog 29 #[.pointer (some ⟨rb, 0, none⟩), .string ⟨#[98, 97, 99, 107]⟩] w fun e w' => e = .returned (.bool false) ∧ GrX rb w w' ∧ R4At T tb off cap rb w' s := fun w hw => is_n hs hw hT.few wBk (isB_ne hk3)
 have I4 : ∀ w, R4At T tb off cap rb w s → Calls Tryd.prog 29 #[.pointer (some ⟨rb, 0, none⟩), .string ⟨#[101, 118, 101, 114, 121]⟩] w fun e w' => e = .returned (.bool false) ∧ GrX rb w w' ∧ R4At T tb off cap rb w' s := fun w hw => is_n hs hw hT.few wEvery (isB_ne hk4)
 have I5 : ∀ w, R4At T tb off cap rb w s → Calls Tryd.prog 29 #[.pointer (some ⟨rb, 0, none⟩), .string ⟨#[103, 114, 111, 117, 112]⟩] w fun e w' => e = .returned (.bool false) ∧ GrX rb w w' ∧ R4At T tb off cap rb w' s := fun w hw => is_n hs hw hT.few wGroup (isB_ne hk5)
 have I6 : ∀ w, R4At T tb off cap rb w s → Calls Tryd.prog 29 #[.pointer (some ⟨rb, 0, none⟩), .string ⟨#[112, 114, 101, 115, 101, 116]⟩] w fun e w' => e = .returned (.bool false) ∧ GrX rb w w' ∧ R4At T tb off cap rb w' s := fun w hw => is_n hs hw hT.few wPreset (isB_ne hk6)
 have hlt := hs.lt
 have hrb := h.here.2.2
 have htb := h.tb_lt (by omega)
 have hne : W.heap.size ≠ rb := by omega
 have hne2 : W.heap.size ≠ tb := by omega
 have hG1 : Gr W (W.alloc (.cells #[.int .i64 0, .int .i64 0, .int .i64 0, .slice none 0 0] 24)) := Gr.alloc (Gr.refl W) _
 have hA := Lib.hid (heap_last W (.cells #[.int .i64 0, .int .i64 0, .int .i64 0, .slice none 0 0] 24))
 have hR := Lib.hid (h.mono hG1)
 have hX : GrX rb W (W.alloc (.cells #[.int .i64 0, .int .i64 0, .int .i64 0, .slice none 0 0] 24)) := GrX.ofG hG1
 clear h hG1
 have D0 := Lib.hid (done4 hR.out)
 rw [hd] at D0
 have K := hR.out.here
 obtain ⟨⟨k0, k1, k2, k3⟩, _, hrb2⟩ := K
 have k0' := cell_regrown k0
 have k1' := cell_regrown k1
 obtain ⟨q0, q1⟩ := hR.out.word s.n _ (tk4_lt hs)
 have q0' := cell_regrown q0
 have hbd : (0 : Int) ≤ (s.n : Int) ∧ (s.n : Int) < (T.length : Int) := ⟨by omega, by omega⟩
 have e0 : ((bZ (w4T (tk4 T s))).toList == [40]) = false := by rw [eqw]; exact decide_eq_false hk0
 have e1 : ((bZ (w4T (tk4 T s))).toList == [111, 100, 100]) = false := by rw [eqw]; exact decide_eq_false hk1
 have e2 : ((bZ (w4T (tk4 T s))).toList == [101, 118, 101, 110]) = false := by rw [eqw]; exact decide_eq_false hk2
 have e3 : ((bZ (w4T (tk4 T s))).toList == [98, 97, 99, 107]) = false := by rw [eqw]; exact decide_eq_false hk3
 have e4 : ((bZ (w4T (tk4 T s))).toList == [101, 118, 101, 114, 121]) = false := by rw [eqw]; exact decide_eq_false hk4
 have hwd : IntKind.i64.wrap ((deep : Int) + 1) = (deep : Int) + 1 := wrap_in (by omega)
 have HE := Lib.hid (And.intro k0' (And.intro k1' (And.intro q0' (And.intro e0 (And.intro e1 (And.intro e2 (And.intro e3 e4)))))))
 clear e0 e1 e2 e3 e4 k0 k1 k2 k3 k0' k1' q0 q1 q0' hk0 hk1 hk2 hk3 hk4 hk5 hk6
 have hn1 := num_in hT hs
 have N0 : ∀ w, R4At T tb off cap rb w s → _ := fun w hw => num4 hs hw hT.few hT.text
 have I7 : ∀ w, R4At T tb off cap rb w (numS T s).2 → Calls Tryd.prog 29 #[.pointer (some ⟨rb, 0, none⟩), .string ⟨#[116, 104, 114, 117]⟩] w fun e w' => e = .returned (.bool false) ∧ GrX rb w w' ∧ R4At T tb off cap rb w' (numS T s).2 := fun w h4 => is_n hn1 h4 hT.few wThru hB0
 generalize numS T s = nr1 at *
 obtain ⟨m1, s1⟩ := nr1
 simp only at N0 I7 hn1 ⊢
 go_enter Tryd.func28, Tryd.ntmps28
 go_wp2_with (go_at_call 17; (with_reducible refine D0.out.mono ?_); rintro e w1 ⟨rfl, hw1⟩; obtain rfl := hw1.symm)
 obtain ⟨k0', k1', q0', e0, e1, e2, e3, e4⟩ := HE.out
 refine wp_region_quiet_below (by kernel_rfl) (by kernel_rfl) ?_
 repeat (quiet_step (fail))
 refine wpQuiet_nil ?_
 intro w' hw'
 obtain ⟨⟨dq, osq⟩, rfl⟩ := hw'
 have g3 := below_regrown (W.alloc (.cells #[.int .i64 0, .int .i64 0, .int .i64 0, .slice none 0 0] 24)) dq osq
 replace hA := Lib.hid ((g3.block _ (Array.getElem?_eq_some_iff.1 hA.out).1).trans hA.out)
 replace hR := Lib.hid (hR.out.mono g3)
 replace hX := hX.trans (GrX.of g3)
 clear g3 k0' k1' q0' D0 HE
 generalize grow (redrawn (W.alloc (.cells #[.int .i64 0, .int .i64 0, .int .i64 0, .slice none 0 0] 24)) dq) osq = W3 at *
 go_wp2_with (first
  | (go_at_call 29; (with_reducible refine (I0 _ hR.out).mono ?_); rintro e w1 ⟨rfl, hXn, hRn⟩; replace hX := hX.trans hXn; replace hR := Lib.hid hRn; replace hA := Lib.hid (hXn.heap hA.out hne); clear hXn hRn)
  | (go_at_call 29; (with_reducible refine (I1 _ hR.out).mono ?_); rintro e w1 ⟨rfl, hXn, hRn⟩; replace hX := hX.trans hXn; replace hR := Lib.hid hRn; replace hA := Lib.hid (hXn.heap hA.out hne); clear hXn hRn)
  | (go_at_call 29; (with_reducible refine (I2 _ hR.out).mono ?_); rintro e w1 ⟨rfl, hXn, hRn⟩; replace hX := hX.trans hXn; replace hR := Lib.hid hRn; replace hA := Lib.hid (hXn.heap hA.out hne); clear hXn hRn)
  | (go_at_call 29; (with_reducible refine (I3 _ hR.out).mono ?_); rintro e w1 ⟨rfl, hXn, hRn⟩; replace hX := hX.trans hXn; replace hR := Lib.hid hRn; replace hA := Lib.hid (hXn.heap hA.out hne); clear hXn hRn)
  | (go_at_call 29; (with_reducible refine (I4 _ hR.out).mono ?_); rintro e w1 ⟨rfl, hXn, hRn⟩; replace hX := hX.trans hXn; replace hR := Lib.hid hRn; replace hA := Lib.hid (hXn.heap hA.out hne); clear hXn hRn)
  | (go_at_call 29; (with_reducible refine (I5 _ hR.out).mono ?_); rintro e w1 ⟨rfl, hXn, hRn⟩; replace hX := hX.trans hXn; replace hR := Lib.hid hRn; replace hA := Lib.hid (hXn.heap hA.out hne); clear hXn hRn)
  | (go_at_call 29; (with_reducible refine (I6 _ hR.out).mono ?_); rintro e w1 ⟨rfl, hXn, hRn⟩; replace hX := hX.trans hXn; replace hR := Lib.hid hRn; replace hA := Lib.hid (hXn.heap hA.out hne); clear hXn hRn)
  | (go_at_call 39; (with_reducible refine (N0 _ hR.out).mono ?_); rintro e w2 ⟨rfl, hXn, hRn⟩; have hz := (Array.getElem?_eq_some_iff.1 hA.out).1; have hz2 := hXn.size; have hpb : W.heap.size < w2.heap.size := Nat.lt_of_lt_of_le hz hz2; have hB := Lib.hid (Box4.of (heap_last w2 (.cells #[.int .i64 1, .int .i64 m1, .int .i64 m1, .slice none 0 0] 24))); replace hX := (hX.trans hXn).alloc (.cells #[.int .i64 1, .int .i64 m1, .int .i64 m1, .slice none 0 0] 24); replace hA := Lib.hid (heap_old _ (.cells #[.int .i64 1, .int .i64 m1, .int .i64 m1, .slice none 0 0] 24) _ _ hpb (hXn.heap hA.out hne)); replace hR := Lib.hid (hRn.mono (Gr.alloc (Gr.refl w2) (.cells #[.int .i64 1, .int .i64 m1, .int .i64 m1, .slice none 0 0] 24))); clear hXn hRn)
  | (go_at_call 29; (with_reducible refine (I7 _ hR.out).mono ?_); rintro e w3 ⟨rfl, hXn, hRn⟩; replace hB := Lib.hid (Box4.grx hB.out hXn (by omega)); replace hX := hX.trans hXn; replace hR := Lib.hid hRn; replace hA := Lib.hid (hXn.heap hA.out hne); clear hXn hRn; have BA := Box4.of hA.out; obtain ⟨⟨k0, k1, k2, k3⟩, ⟨f0, f1, f2, f3⟩, hbl⟩ := BA; have BB := hB.out; obtain ⟨⟨b0, b1, b2, b3⟩, _, _⟩ := BB))
 obtain ⟨⟨c0, c1, c2, c3⟩, hXf, hRf, hkf, hsf⟩ := fin4R hX (Nat.le_refl _) hne hne2 (Box4.of hA.out) hR.out (.int .i64 1) (.int .i64 m1) (.int .i64 m1) (.slice none 0 0)
 refine bodyPost_ret (v := .agg #[.int .i64 1, .int .i64 m1, .int .i64 m1, .slice none 0 0]) (by simp [results, Tryd.results28, go_sem, c0, c1, c2, c3]) rfl ?_
 exact ⟨_, rfl, hXf, hRf, svAt_leaf _ _ _ _ _⟩
set_option maxHeartbeats 2000000 in
theorem sim_units {f deep : Nat} {s : S4} {W : World} (hT : TokOk T) (hs : S4In T s) (hd : s.done = false) (hdp : deep ≤ 101) (hk0 : w4T (tk4 T s) ≠ wOpen) (hk1 : w4T (tk4 T s) ≠ wOdd) (hk2 : w4T (tk4 T s) ≠ wEven) (hk3 : w4T (tk4 T s) ≠ wBk) (hk4 : w4T (tk4 T s) ≠ wEvery) (hk5 : w4T (tk4 T s) ≠ wGroup) (hk6 : w4T (tk4 T s) ≠ wPreset) (hB0 : isB T wThru (numS T s).2 = true) (h : R4At T tb off cap rb W s) : Calls Tryd.prog 28 #[.pointer (some ⟨rb, 0, none⟩), .int .i64 (deep : Int)] W (Post4 T tb off cap rb W (.mk 1 (numS T s).1 (numS T (nxS (numS T s).2)).1 [], if (!(numS T (nxS (numS T s).2)).2.done && decide ((numS T (nxS (numS T s).2)).1 = (numS T s).1)) = true then ⟨(numS T (nxS (numS T s).2)).2.n, (tk4 T (nxS (numS T s).2)).pos, (numS T (nxS (numS T s).2)).2.lg⟩ else (numS T (nxS (numS T s).2)).2)) := by
 obtain ⟨sf, hsf9⟩ : ∃ sf, sf = (if (!(numS T (nxS (numS T s).2)).2.done && decide ((numS T (nxS (numS T s).2)).1 = (numS T s).1)) = true then (⟨(numS T (nxS (numS T s).2)).2.n, (tk4 T (nxS (numS T s).2)).pos, (numS T (nxS (numS T s).2)).2.lg⟩ : S4) else (numS T (nxS (numS T s).2)).2) := ⟨_, rfl⟩
 rw [← hsf9]
 have HSF := Lib.hid hsf9
 clear hsf9
 have I0 : ∀ w, R4At T tb off cap rb w s → Calls Tryd.prog 29 #[.pointer (some ⟨rb, 0, none⟩), .string ⟨#[40]⟩] w fun e w' => e = .returned (.bool false) ∧ GrX rb w w' ∧ R4At T tb off cap rb w' s := fun w hw => is_n hs hw hT.few wOpen (isB_ne hk0)
 have I1 : ∀ w, R4At T tb off cap rb w s → Calls Tryd.prog 29 #[.pointer (some ⟨rb, 0, none⟩), .string ⟨#[111, 100, 100]⟩] w fun e w' => e = .returned (.bool false) ∧ GrX rb w w' ∧ R4At T tb off cap rb w' s := fun w hw => is_n hs hw hT.few wOdd (isB_ne hk1)
 have I2 : ∀ w, R4At T tb off cap rb w s → Calls Tryd.prog 29 #[.pointer (some ⟨rb, 0, none⟩), .string ⟨#[101, 118, 101, 110]⟩] w fun e w' => e = .returned (.bool false) ∧ GrX rb w w' ∧ R4At T tb off cap rb w' s := fun w hw => is_n hs hw hT.few wEven (isB_ne hk2)
 have I3 : ∀ w, R4At T tb off cap rb w s → Calls Tryd.prog 29 #[.pointer (some ⟨rb, 0, none⟩), .string ⟨#[98, 97, 99, 107]⟩] w fun e w' => e = .returned (.bool false) ∧ GrX rb w w' ∧ R4At T tb off cap rb w' s := fun w hw => is_n hs hw hT.few wBk (isB_ne hk3)
 have I4 : ∀ w, R4At T tb off cap rb w s → Calls Tryd.prog 29 #[.pointer (some ⟨rb, 0, none⟩), .string ⟨#[101, 118, 101, 114, 121]⟩] w fun e w' => e = .returned (.bool false) ∧ GrX rb w w' ∧ R4At T tb off cap rb w' s := fun w hw => is_n hs hw hT.few wEvery (isB_ne hk4)
 have I5 : ∀ w, R4At T tb off cap rb w s → Calls Tryd.prog 29 #[.pointer (some ⟨rb, 0, none⟩), .string ⟨#[103, 114, 111, 117, 112]⟩] w fun e w' => e = .returned (.bool false) ∧ GrX rb w w' ∧ R4At T tb off cap rb w' s := fun w hw => is_n hs hw hT.few wGroup (isB_ne hk5)
 have I6 : ∀ w, R4At T tb off cap rb w s → Calls Tryd.prog 29 #[.pointer (some ⟨rb, 0, none⟩), .string ⟨#[112, 114, 101, 115, 101, 116]⟩] w fun e w' => e = .returned (.bool false) ∧ GrX rb w w' ∧ R4At T tb off cap rb w' s := fun w hw => is_n hs hw hT.few wPreset (isB_ne hk6)
 have hlt := hs.lt
 have hrb := h.here.2.2
 have htb := h.tb_lt (by omega)
 have hne : W.heap.size ≠ rb := by omega
 have hne2 : W.heap.size ≠ tb := by omega
 have hG1 : Gr W (W.alloc (.cells #[.int .i64 0, .int .i64 0, .int .i64 0, .slice none 0 0] 24)) := Gr.alloc (Gr.refl W) _
 have hA := Lib.hid (heap_last W (.cells #[.int .i64 0, .int .i64 0, .int .i64 0, .slice none 0 0] 24))
 have hR := Lib.hid (h.mono hG1)
 have hX : GrX rb W (W.alloc (.cells #[.int .i64 0, .int .i64 0, .int .i64 0, .slice none 0 0] 24)) := GrX.ofG hG1
 clear h hG1
 have D0 := Lib.hid (done4 hR.out)
 rw [hd] at D0
 have K := hR.out.here
 obtain ⟨⟨k0, k1, k2, k3⟩, _, hrb2⟩ := K
 have k0' := cell_regrown k0
 have k1' := cell_regrown k1
 obtain ⟨q0, q1⟩ := hR.out.word s.n _ (tk4_lt hs)
 have q0' := cell_regrown q0
 have hbd : (0 : Int) ≤ (s.n : Int) ∧ (s.n : Int) < (T.length : Int) := ⟨by omega, by omega⟩
 have e0 : ((bZ (w4T (tk4 T s))).toList == [40]) = false := by rw [eqw]; exact decide_eq_false hk0
 have e1 : ((bZ (w4T (tk4 T s))).toList == [111, 100, 100]) = false := by rw [eqw]; exact decide_eq_false hk1
 have e2 : ((bZ (w4T (tk4 T s))).toList == [101, 118, 101, 110]) = false := by rw [eqw]; exact decide_eq_false hk2
 have e3 : ((bZ (w4T (tk4 T s))).toList == [98, 97, 99, 107]) = false := by rw [eqw]; exact decide_eq_false hk3
 have e4 : ((bZ (w4T (tk4 T s))).toList == [101, 118, 101, 114, 121]) = false := by rw [eqw]; exact decide_eq_false hk4
 have hwd : IntKind.i64.wrap ((deep : Int) + 1) = (deep : Int) + 1 := wrap_in (by omega)
 have HE := Lib.hid (And.intro k0' (And.intro k1' (And.intro q0' (And.intro e0 (And.intro e1 (And.intro e2 (And.intro e3 e4)))))))
 clear e0 e1 e2 e3 e4 k0 k1 k2 k3 k0' k1' q0 q1 q0' hk0 hk1 hk2 hk3 hk4 hk5 hk6
 have hn1 := num_in hT hs
 have N0 : ∀ w, R4At T tb off cap rb w s → _ := fun w hw => num4 hs hw hT.few hT.text
 have I7 : ∀ w, R4At T tb off cap rb w (numS T s).2 → Calls Tryd.prog 29 #[.pointer (some ⟨rb, 0, none⟩), .string ⟨#[116, 104, 114, 117]⟩] w fun e w' => e = .returned (.bool true) ∧ GrX rb w w' ∧ R4At T tb off cap rb w' (nxS (numS T s).2) := fun w h4 => is_y hn1 h4 hT.few wThru hB0
 have hx1 : S4In T (nxS (numS T s).2) := nx_in hT hn1 (b := 116) (w := [104, 114, 117]) (by decide) hB0
 have N1 : ∀ w, R4At T tb off cap rb w (nxS (numS T s).2) → _ := fun w hw => num4 hx1 hw hT.few hT.text
 have hn2 := num_in hT hx1
 generalize numS T s = nr1 at *
 obtain ⟨m1, s1⟩ := nr1
 simp only at N0 I7 N1 hn1 hx1 hn2 ⊢
 clear hB0
 go_enter Tryd.func28, Tryd.ntmps28
 go_wp2_with (go_at_call 17; (with_reducible refine D0.out.mono ?_); rintro e w1 ⟨rfl, hw1⟩; obtain rfl := hw1.symm)
 obtain ⟨k0', k1', q0', e0, e1, e2, e3, e4⟩ := HE.out
 refine wp_region_quiet_below (by kernel_rfl) (by kernel_rfl) ?_
 repeat (quiet_step (fail))
 refine wpQuiet_nil ?_
 intro w' hw'
 obtain ⟨⟨dq, osq⟩, rfl⟩ := hw'
 have g3 := below_regrown (W.alloc (.cells #[.int .i64 0, .int .i64 0, .int .i64 0, .slice none 0 0] 24)) dq osq
 replace hA := Lib.hid ((g3.block _ (Array.getElem?_eq_some_iff.1 hA.out).1).trans hA.out)
 replace hR := Lib.hid (hR.out.mono g3)
 replace hX := hX.trans (GrX.of g3)
 clear g3 k0' k1' q0' D0 HE
 generalize grow (redrawn (W.alloc (.cells #[.int .i64 0, .int .i64 0, .int .i64 0, .slice none 0 0] 24)) dq) osq = W3 at *
 go_wp2_with (first
  | (go_at_call 29; (with_reducible refine (I0 _ hR.out).mono ?_); rintro e w1 ⟨rfl, hXn, hRn⟩; replace hX := hX.trans hXn; replace hR := Lib.hid hRn; replace hA := Lib.hid (hXn.heap hA.out hne); clear hXn hRn)
  | (go_at_call 29; (with_reducible refine (I1 _ hR.out).mono ?_); rintro e w1 ⟨rfl, hXn, hRn⟩; replace hX := hX.trans hXn; replace hR := Lib.hid hRn; replace hA := Lib.hid (hXn.heap hA.out hne); clear hXn hRn)
  | (go_at_call 29; (with_reducible refine (I2 _ hR.out).mono ?_); rintro e w1 ⟨rfl, hXn, hRn⟩; replace hX := hX.trans hXn; replace hR := Lib.hid hRn; replace hA := Lib.hid (hXn.heap hA.out hne); clear hXn hRn)
  | (go_at_call 29; (with_reducible refine (I3 _ hR.out).mono ?_); rintro e w1 ⟨rfl, hXn, hRn⟩; replace hX := hX.trans hXn; replace hR := Lib.hid hRn; replace hA := Lib.hid (hXn.heap hA.out hne); clear hXn hRn)
  | (go_at_call 29; (with_reducible refine (I4 _ hR.out).mono ?_); rintro e w1 ⟨rfl, hXn, hRn⟩; replace hX := hX.trans hXn; replace hR := Lib.hid hRn; replace hA := Lib.hid (hXn.heap hA.out hne); clear hXn hRn)
  | (go_at_call 29; (with_reducible refine (I5 _ hR.out).mono ?_); rintro e w1 ⟨rfl, hXn, hRn⟩; replace hX := hX.trans hXn; replace hR := Lib.hid hRn; replace hA := Lib.hid (hXn.heap hA.out hne); clear hXn hRn)
  | (go_at_call 29; (with_reducible refine (I6 _ hR.out).mono ?_); rintro e w1 ⟨rfl, hXn, hRn⟩; replace hX := hX.trans hXn; replace hR := Lib.hid hRn; replace hA := Lib.hid (hXn.heap hA.out hne); clear hXn hRn)
  | (go_at_call 39; (with_reducible refine (N0 _ hR.out).mono ?_); rintro e w2 ⟨rfl, hXn, hRn⟩; have hz := (Array.getElem?_eq_some_iff.1 hA.out).1; have hz2 := hXn.size; have hpb : W.heap.size < w2.heap.size := Nat.lt_of_lt_of_le hz hz2; have hB := Lib.hid (Box4.of (heap_last w2 (.cells #[.int .i64 1, .int .i64 m1, .int .i64 m1, .slice none 0 0] 24))); replace hX := (hX.trans hXn).alloc (.cells #[.int .i64 1, .int .i64 m1, .int .i64 m1, .slice none 0 0] 24); replace hA := Lib.hid (heap_old _ (.cells #[.int .i64 1, .int .i64 m1, .int .i64 m1, .slice none 0 0] 24) _ _ hpb (hXn.heap hA.out hne)); replace hR := Lib.hid (hRn.mono (Gr.alloc (Gr.refl w2) (.cells #[.int .i64 1, .int .i64 m1, .int .i64 m1, .slice none 0 0] 24))); clear hXn hRn)
  | (go_at_call 29; (with_reducible refine (I7 _ hR.out).mono ?_); rintro e w3 ⟨rfl, hXn, hRn⟩; replace hB := Lib.hid (Box4.grx hB.out hXn (by omega)); replace hX := hX.trans hXn; replace hR := Lib.hid hRn; replace hA := Lib.hid (hXn.heap hA.out hne); clear hXn hRn))
 have hK3 := hR.out.here
 obtain ⟨⟨k0, k1, k2, k3⟩, _, hrb3⟩ := hK3
 have k0' := cell_regrown k0
 have k1' := cell_regrown k1
 obtain ⟨q0, q1⟩ := hR.out.word (nxS s1).n _ (tk4_lt hx1)
 have q1' := cell_regrown q1
 have hbx : (0 : Int) ≤ ((nxS s1).n : Int) ∧ ((nxS s1).n : Int) < (T.length : Int) := ⟨by omega, by have := hx1.lt; omega⟩
 refine wp_region_quiet_below (by kernel_rfl) (by kernel_rfl) ?_
 repeat (quiet_step (fail))
 refine wpQuiet_nil ?_
 intro w' hw'
 obtain ⟨⟨dq2, osq2⟩, rfl⟩ := hw'
 have g3 := below_regrown w3 dq2 osq2
 replace hA := Lib.hid ((g3.block _ (Array.getElem?_eq_some_iff.1 hA.out).1).trans hA.out)
 replace hR := Lib.hid (hR.out.mono g3)
 replace hX := hX.trans (GrX.of g3)
 replace hB := Lib.hid ((hB.out).mono g3)
 clear g3 k0 k1 k2 k3 k0' k1' q0 q1 q1' hbx
 generalize grow (redrawn w3 dq2) osq2 = W5 at *
 generalize (tk4 T (nxS s1)).pos = pos at *
 have hD : ∀ w, R4At T tb off cap rb w (numS T (nxS s1)).2 → _ := fun w hw => done4 hw
 generalize numS T (nxS s1) = nr2 at *
 obtain ⟨m2, s2⟩ := nr2
 simp only at N1 hD hn2 ⊢
 cases hd2 : s2.done with
 | true =>
  rw [hd2] at hD
  have hq9 := HSF.out
  simp only [hd2] at hq9
  rw [if_neg (by simp)] at hq9
  subst hq9
  clear HSF
  go_wp2_with (first
   | (go_at_call 39; (with_reducible refine (N1 _ hR.out).mono ?_); rintro e w4 ⟨rfl, hXn, hRn⟩; replace hB := Lib.hid (Box4.grx hB.out hXn (by omega)); replace hX := (hX.trans hXn).put (b := w2.heap.size) (o := 2) (by omega) (.int .i64 m2); replace hA := Lib.hid ((heap_setCell_ne w4 (show w2.heap.size ≠ W.heap.size by omega) 2 (.int .i64 m2)).trans (hXn.heap hA.out hne)); replace hR := Lib.hid (hRn.other (b := w2.heap.size) (o := 2) (u := .int .i64 m2) (by omega) (by omega)); have BB := hB.out; obtain ⟨⟨b0, b1, b2, b3⟩, ⟨z0, z1, z2, z3⟩, hzl⟩ := BB; replace hB := Lib.hid (Box4.st2 hB.out (u := .int .i64 m2)); clear hXn hRn)
   | (go_at_call 17; (with_reducible refine (hD _ hR.out).mono ?_); rintro e w6 ⟨rfl, hw6⟩; obtain rfl := hw6.symm; have BD := hB.out; obtain ⟨⟨d0, d1, d2, d3⟩, _, _⟩ := BD; have BA := Box4.of hA.out; obtain ⟨⟨k0, k1, k2, k3⟩, ⟨f0, f1, f2, f3⟩, hbl⟩ := BA))
  obtain ⟨⟨c0, c1, c2, c3⟩, hXf, hRf, hkf, hsf⟩ := fin4R hX (Nat.le_refl _) hne hne2 (Box4.of hA.out) hR.out (.int .i64 1) (.int .i64 m1) (.int .i64 m2) (.slice none 0 0)
  refine bodyPost_ret (v := .agg #[.int .i64 1, .int .i64 m1, .int .i64 m2, .slice none 0 0]) (by simp [results, Tryd.results28, go_sem, c0, c1, c2, c3]) rfl ?_
  exact ⟨_, rfl, hXf, hRf, svAt_leaf _ _ _ _ _⟩
 | false =>
  rw [hd2] at hD
  by_cases he : m2 = m1
  ·subst he
   have hq9 := HSF.out
   simp only [hd2] at hq9
   rw [if_pos (by simp)] at hq9
   subst hq9
   clear HSF
   go_wp2_with (first
    | (go_at_call 39; (with_reducible refine (N1 _ hR.out).mono ?_); rintro e w4 ⟨rfl, hXn, hRn⟩; replace hB := Lib.hid (Box4.grx hB.out hXn (by omega)); replace hX := (hX.trans hXn).put (b := w2.heap.size) (o := 2) (by omega) (.int .i64 m2); replace hA := Lib.hid ((heap_setCell_ne w4 (show w2.heap.size ≠ W.heap.size by omega) 2 (.int .i64 m2)).trans (hXn.heap hA.out hne)); replace hR := Lib.hid (hRn.other (b := w2.heap.size) (o := 2) (u := .int .i64 m2) (by omega) (by omega)); have BB := hB.out; obtain ⟨⟨b0, b1, b2, b3⟩, ⟨z0, z1, z2, z3⟩, hzl⟩ := BB; replace hB := Lib.hid (Box4.st2 hB.out (u := .int .i64 m2)); clear hXn hRn)
    | (go_at_call 17; (with_reducible refine (hD _ hR.out).mono ?_); rintro e w6 ⟨rfl, hw6⟩; obtain rfl := hw6.symm; have BD := hB.out; obtain ⟨⟨d0, d1, d2, d3⟩, _, _⟩ := BD; have BA := Box4.of hA.out; obtain ⟨⟨k0, k1, k2, k3⟩, ⟨f0, f1, f2, f3⟩, hbl⟩ := BA; have KR := hR.out.here; obtain ⟨⟨r0, r1, r2, r3⟩, ⟨g0, g1, g2, g3⟩, hrl⟩ := KR; have hX2 := hX.set (o := 2) (.int .i64 (pos : Int)); have hR2 := hR.out.to (s' := ⟨s2.n, (pos : Int), s2.lg⟩) ((GrX.refl rb _).set (o := 2) (.int .i64 (pos : Int))) (Box4.st2 hR.out.here); have BA2 := Box4.other (Box4.of hA.out) (c := rb) (o := 2) (u := .int .i64 (pos : Int)) (Ne.symm hne); have BB2 := Box4.other hB.out (c := rb) (o := 2) (u := .int .i64 (pos : Int)) (by omega); have BA3 := BA2; obtain ⟨⟨a0, a1, a2, a3⟩, ⟨x0, x1, x2, x3⟩, hbl2⟩ := BA3; obtain ⟨⟨y0, y1, y2, y3⟩, _, _⟩ := BB2))
   obtain ⟨⟨c0, c1, c2, c3⟩, hXf, hRf, hkf, hsf⟩ := fin4R hX2 (Nat.le_refl _) hne hne2 BA2 hR2 (.int .i64 1) (.int .i64 m2) (.int .i64 m2) (.slice none 0 0)
   refine bodyPost_ret (v := .agg #[.int .i64 1, .int .i64 m2, .int .i64 m2, .slice none 0 0]) (by simp [results, Tryd.results28, go_sem, c0, c1, c2, c3]) rfl ?_
   exact ⟨_, rfl, hXf, hRf, svAt_leaf _ _ _ _ _⟩
  ·have hq9 := HSF.out
   simp only [hd2] at hq9
   rw [if_neg (by simp [he])] at hq9
   subst hq9
   clear HSF
   have hne9 : (m2 == m1) = false := by simpa using he
   go_wp2_with (first
    | (go_at_call 39; (with_reducible refine (N1 _ hR.out).mono ?_); rintro e w4 ⟨rfl, hXn, hRn⟩; replace hB := Lib.hid (Box4.grx hB.out hXn (by omega)); replace hX := (hX.trans hXn).put (b := w2.heap.size) (o := 2) (by omega) (.int .i64 m2); replace hA := Lib.hid ((heap_setCell_ne w4 (show w2.heap.size ≠ W.heap.size by omega) 2 (.int .i64 m2)).trans (hXn.heap hA.out hne)); replace hR := Lib.hid (hRn.other (b := w2.heap.size) (o := 2) (u := .int .i64 m2) (by omega) (by omega)); have BB := hB.out; obtain ⟨⟨b0, b1, b2, b3⟩, ⟨z0, z1, z2, z3⟩, hzl⟩ := BB; replace hB := Lib.hid (Box4.st2 hB.out (u := .int .i64 m2)); clear hXn hRn)
    | (go_at_call 17; (with_reducible refine (hD _ hR.out).mono ?_); rintro e w6 ⟨rfl, hw6⟩; obtain rfl := hw6.symm; have BD := hB.out; obtain ⟨⟨d0, d1, d2, d3⟩, _, _⟩ := BD; have BA := Box4.of hA.out; obtain ⟨⟨k0, k1, k2, k3⟩, ⟨f0, f1, f2, f3⟩, hbl⟩ := BA))
   obtain ⟨⟨c0, c1, c2, c3⟩, hXf, hRf, hkf, hsf⟩ := fin4R hX (Nat.le_refl _) hne hne2 (Box4.of hA.out) hR.out (.int .i64 1) (.int .i64 m1) (.int .i64 m2) (.slice none 0 0)
   refine bodyPost_ret (v := .agg #[.int .i64 1, .int .i64 m1, .int .i64 m2, .slice none 0 0]) (by simp [results, Tryd.results28, go_sem, c0, c1, c2, c3]) rfl ?_
   exact ⟨_, rfl, hXf, hRf, svAt_leaf _ _ _ _ _⟩
end
end Go.Proofs.YtfalbgflabajbaaDoor

namespace Go.Proofs.YtfalbgflabajbaaDoor
set_option linter.unusedSectionVars false
open Go.RowKit Go.Sort
set_option linter.unusedVariables false
set_option linter.unusedSimpArgs false
section
variable {T : List TokD} {tb off cap rb : Nat}
theorem isB_f {s : S4} {w : List UInt8} (hd : s.done = false) (h : ¬ isB T w s = true) : w4T (tk4 T s) ≠ w := fun e => h (isB_eq hd e)
theorem kw_y {w : List UInt8} (h : kwB w = true) : w = wOpen ∨ w = wOdd ∨ w = wEven ∨ w = wBk ∨ w = wEvery := by
 unfold kwB at h
 simp only [Bool.or_eq_true, decide_eq_true_eq] at h
 rcases h with (((h | h) | h) | h) | h
 ·exact .inl h
 ·exact .inr (.inl h)
 ·exact .inr (.inr (.inl h))
 ·exact .inr (.inr (.inr (.inl h)))
 ·exact .inr (.inr (.inr (.inr h)))
theorem pre_step {f : Nat} (h0 : 0 < T.length) (ih : SimS4 T tb off cap rb f) : PreS4 T tb off cap rb (f + 1) := by
 intro W s deep r hd hs h hx
 rw [preS] at hx
 by_cases c0 : s.done = true
 ·rw [if_pos c0] at hx
  injection hx with hx
  subst hx
  exact sim_done h0 c0 h
 ·rw [if_neg c0] at hx
  exact ih W s deep r hd hs h hx
theorem pre_zero (h0 : 0 < T.length) : PreS4 T tb off cap rb 0 := by
 intro W s deep r hd hs h hx
 rw [preS] at hx
 by_cases c0 : s.done = true
 ·rw [if_pos c0] at hx
  injection hx with hx
  subst hx
  exact sim_done h0 c0 h
 ·rw [if_neg c0] at hx; cases hx
theorem sim_zero (h0 : 0 < T.length) : SimS4 T tb off cap rb 0 := by
 intro W s deep r hd hs h hx
 rw [simS] at hx
 by_cases c0 : s.done = true
 ·rw [if_pos c0] at hx
  injection hx with hx
  subst hx
  exact sim_done h0 c0 h
 ·rw [if_neg c0] at hx; cases hx
theorem sim_step {f : Nat} (hT : TokOk T) (h0 : 0 < T.length) (hw : WhS4 T tb off cap rb f) (hp : PreS4 T tb off cap rb f) : SimS4 T tb off cap rb (f + 1) := by
 intro W s deep r hd hs h hx
 rw [simS] at hx
 by_cases c0 : s.done = true
 ·rw [if_pos c0] at hx
  injection hx with hx
  subst hx
  exact sim_done h0 c0 h
 rw [if_neg c0] at hx
 have c0 := Bool.eq_false_iff.2 c0
 by_cases c1 : (kwB (w4T (tk4 T s)) && decide (100 < deep)) = true
 ·rw [if_pos c1] at hx
  injection hx with hx
  subst hx
  rw [Bool.and_eq_true, decide_eq_true_eq] at c1
  rcases kw_y c1.1 with hk | hk | hk | hk | hk
  ·exact sim_large_open (f := f) hT hs c0 ⟨c1.2, hd⟩ hk h
  ·exact sim_large_odd (f := f) hT hs c0 ⟨c1.2, hd⟩ hk h
  ·exact sim_large_even (f := f) hT hs c0 ⟨c1.2, hd⟩ hk h
  ·exact sim_large_back (f := f) hT hs c0 ⟨c1.2, hd⟩ hk h
  ·exact sim_large_every (f := f) hT hs c0 ⟨c1.2, hd⟩ hk h
 rw [if_neg c1] at hx
 have hdk : kwB (w4T (tk4 T s)) = true → deep ≤ 100 := fun hk => by
  rw [hk, Bool.true_and, decide_eq_true_eq] at c1
  omega
 clear c1
 by_cases b0 : isB T wOpen s = true
 ·rw [if_pos b0] at hx
  obtain ⟨x, hy, rfl⟩ := map_in hx
  have hk := (isB_w b0).2
  exact sim_open hT hs c0 (hdk (by rw [hk]; decide)) hw hk hy h
 rw [if_neg b0] at hx
 by_cases b1 : isB T wOdd s = true
 ·rw [if_pos b1] at hx
  obtain ⟨x, hy, rfl⟩ := map_in hx
  have hk := (isB_w b1).2
  exact sim_odd hT hs c0 (hdk (by rw [hk]; decide)) hp hk hy h
 rw [if_neg b1] at hx
 by_cases b2 : isB T wEven s = true
 ·rw [if_pos b2] at hx
  obtain ⟨x, hy, rfl⟩ := map_in hx
  have hk := (isB_w b2).2
  exact sim_even hT hs c0 (hdk (by rw [hk]; decide)) hp hk hy h
 rw [if_neg b2] at hx
 by_cases b3 : isB T wBk s = true
 ·rw [if_pos b3] at hx
  obtain ⟨x, hy, rfl⟩ := map_in hx
  have hk := (isB_w b3).2
  exact sim_back hT hs c0 (hdk (by rw [hk]; decide)) hp hk hy h
 rw [if_neg b3] at hx
 by_cases b4 : isB T wEvery s = true
 ·rw [if_pos b4] at hx
  obtain ⟨x, hy, rfl⟩ := map_in hx
  have hk := (isB_w b4).2
  exact sim_every hT hs c0 (hdk (by rw [hk]; decide)) hp hk hy h
 rw [if_neg b4] at hx
 by_cases b5 : isB T wGroup s = true
 ·rw [if_pos b5] at hx
  injection hx with hx
  subst hx
  exact sim_group (f := f) hT hs c0 hd (isB_w b5).2 h
 rw [if_neg b5] at hx
 by_cases b6 : isB T wPreset s = true
 ·rw [if_pos b6] at hx
  injection hx with hx
  subst hx
  exact sim_preset (f := f) hT hs c0 hd (isB_w b6).2 h
 rw [if_neg b6] at hx
 by_cases b7 : isB T wThru (numS T s).2 = true
 ·rw [if_pos b7] at hx
  have key := sim_units (f := f) hT hs c0 hd (isB_f c0 b0) (isB_f c0 b1) (isB_f c0 b2) (isB_f c0 b3) (isB_f c0 b4) (isB_f c0 b5) (isB_f c0 b6) b7 h
  by_cases c2 : (!(numS T (nxS (numS T s).2)).2.done && decide ((numS T (nxS (numS T s).2)).1 = (numS T s).1)) = true
  ·rw [if_pos c2] at hx key
   injection hx with hx
   subst hx
   exact key
  ·rw [if_neg c2] at hx key
   injection hx with hx
   subst hx
   exact key
 ·rw [if_neg b7] at hx
  injection hx with hx
  subst hx
  exact sim_units_no (f := f) hT hs c0 hd (isB_f c0 b0) (isB_f c0 b1) (isB_f c0 b2) (isB_f c0 b3) (isB_f c0 b4) (isB_f c0 b5) (isB_f c0 b6) (Bool.eq_false_iff.2 b7) h
end
end Go.Proofs.YtfalbgflabajbaaDoor

namespace Go.Proofs.YtfalbgflabajbaaDoor
set_option linter.unusedSectionVars false
set_option linter.unusedVariables false
set_option linter.unusedSimpArgs false
section
variable {T : List TokD}
theorem num_up (s : S4) : s.n ≤ (numS T s).2.n := by
 unfold numS stopS nxS
 split
 ·exact Nat.le_refl _
 ·split
  ·exact Nat.le_succ _
  ·split <;> exact Nat.le_refl _
theorem must_up (w : List UInt8) (s : S4) : s.n ≤ (mustS T w s).n := by
 unfold mustS stopS nxS
 split
 ·exact Nat.le_refl _
 ·split
  ·exact Nat.le_succ _
  ·split <;> exact Nat.le_refl _
theorem nx_up (s : S4) : s.n + 1 = (nxS s).n := rfl
theorem all_up (f : Nat) : (∀ deep s r, simS T f deep s = some r → s.n ≤ r.2.n) ∧ (∀ deep s r, preS T f deep s = some r → s.n ≤ r.2.n) ∧ (∀ deep s r, whS T f deep s = some r → s.n ≤ r.2.n) ∧ (∀ deep p b s r, rwS T f deep p b s = some r → s.n ≤ r.2.n) := by
 induction f with
 | zero =>
  refine ⟨fun deep s r h => ?_, fun deep s r h => ?_, fun deep s r h => ?_, fun deep p b s r h => ?_⟩
  ·rw [simS] at h; split at h
   ·injection h with h; subst h; exact Nat.le_refl _
   ·cases h
  ·rw [preS] at h; split at h
   ·injection h with h; subst h; exact Nat.le_refl _
   ·cases h
  ·rw [whS] at h; cases h
  ·rw [rwS] at h; split at h
   ·injection h with h; subst h; exact Nat.le_refl _
   ·cases h
 | succ f ih =>
  obtain ⟨i1, i2, i3, i4⟩ := ih
  refine ⟨fun deep s r h => ?_, fun deep s r h => ?_, fun deep s r h => ?_, fun deep p b s r h => ?_⟩
  ·rw [simS] at h
   have hx := nx_up s
   by_cases c0 : s.done = true
   ·rw [if_pos c0] at h; injection h with h; subst h; exact Nat.le_refl _
   rw [if_neg c0] at h
   by_cases c1 : (kwB (w4T (tk4 T s)) && decide (100 < deep)) = true
   ·rw [if_pos c1] at h; injection h with h; subst h; exact Nat.le_refl _
   rw [if_neg c1] at h
   by_cases hB : isB T wOpen s = true
   ·rw [if_pos hB] at h
    obtain ⟨x, hy, rfl⟩ := map_in h
    have h1 := i3 _ _ _ hy
    have h2 := must_up (T := T) wShut x.2
    exact Nat.le_trans (by omega) h2
   rw [if_neg hB] at h
   clear hB
   by_cases hB : isB T wOdd s = true
   ·rw [if_pos hB] at h
    obtain ⟨x, hy, rfl⟩ := map_in h
    have h1 := i2 _ _ _ hy
    exact Nat.le_trans (by omega) h1
   rw [if_neg hB] at h
   clear hB
   by_cases hB : isB T wEven s = true
   ·rw [if_pos hB] at h
    obtain ⟨x, hy, rfl⟩ := map_in h
    have h1 := i2 _ _ _ hy
    exact Nat.le_trans (by omega) h1
   rw [if_neg hB] at h
   clear hB
   by_cases hB : isB T wBk s = true
   ·rw [if_pos hB] at h
    obtain ⟨x, hy, rfl⟩ := map_in h
    have h1 := i2 _ _ _ hy
    exact Nat.le_trans (by omega) h1
   rw [if_neg hB] at h
   clear hB
   by_cases hB : isB T wEvery s = true
   ·rw [if_pos hB] at h
    obtain ⟨x, hy, rfl⟩ := map_in h
    have h1 := i2 _ _ _ hy
    have h2 := num_up (T := T) (nxS s)
    have h3 := must_up (T := T) wFrom (numS T (nxS s)).2
    have h4 := num_up (T := T) (mustS T wFrom (numS T (nxS s)).2)
    exact Nat.le_trans (by omega) h1
   rw [if_neg hB] at h
   clear hB
   by_cases hB : isB T wGroup s = true
   ·rw [if_pos hB] at h
    injection h with h; subst h
    have h2 := num_up (T := T) (nxS s)
    exact Nat.le_trans (by omega) h2
   rw [if_neg hB] at h
   clear hB
   by_cases hB : isB T wPreset s = true
   ·rw [if_pos hB] at h
    injection h with h; subst h
    have h2 := num_up (T := T) (nxS s)
    exact Nat.le_trans (by omega) h2
   rw [if_neg hB] at h
   clear hB
   have h2 := num_up (T := T) s
   by_cases hB : isB T wThru (numS T s).2 = true
   ·rw [if_pos hB] at h
    have h3 := num_up (T := T) (nxS (numS T s).2)
    have h4 := nx_up (numS T s).2
    by_cases c2 : (!(numS T (nxS (numS T s).2)).2.done && decide ((numS T (nxS (numS T s).2)).1 = (numS T s).1)) = true
    ·rw [if_pos c2] at h
     injection h with h; subst h
     show s.n ≤ (numS T (nxS (numS T s).2)).2.n
     omega
    ·rw [if_neg c2] at h
     injection h with h; subst h
     show s.n ≤ (numS T (nxS (numS T s).2)).2.n
     omega
   ·rw [if_neg hB] at h
    injection h with h; subst h; exact h2
  ·rw [preS] at h; split at h
   ·injection h with h; subst h; exact Nat.le_refl _
   ·exact i1 _ _ _ h
  ·rw [whS] at h
   obtain ⟨x, hx, h⟩ := Option.bind_eq_some_iff.1 h
   exact Nat.le_trans (i1 _ _ _ hx) (i4 _ _ _ _ _ h)
  ·rw [rwS] at h
   have hn := nx_up s
   split at h
   ·injection h with h; subst h; exact Nat.le_refl _
   split at h
   ·obtain ⟨x, hx, h⟩ := Option.bind_eq_some_iff.1 h
    have h1 := i1 _ _ _ hx
    exact Nat.le_trans (by omega) (i4 _ _ _ _ _ h)
   split at h
   ·obtain ⟨x, hx, h⟩ := Option.bind_eq_some_iff.1 h
    have h1 := i1 _ _ _ hx
    exact Nat.le_trans (by omega) (i4 _ _ _ _ _ h)
   ·injection h with h; subst h; exact Nat.le_refl _
end
end Go.Proofs.YtfalbgflabajbaaDoor

namespace Go.Proofs.YtfalbgflabajbaaDoor
set_option linter.unusedSectionVars false
open Go.RowKit Go.Sort
set_option linter.unusedVariables false
set_option linter.unusedSimpArgs false
set_option maxRecDepth 100000
section
variable {T : List TokD} {tb off cap rb : Nat}
theorem leftW_at4 {w : World} {s : S4} (h : R4At T tb off cap rb w s) : leftW T rb w = T.length - s.n := by
 unfold leftW
 rw [h.here.1.2.1]
 simp
set_option maxHeartbeats 4000000 in
theorem wh_step {f : Nat} (hT : TokOk T) (ih : ∀ g, g ≤ f → SimS4 T tb off cap rb g) : WhS4 T tb off cap rb (f + 1) := by
 intro W s deep r hd hs h hx
 rw [whS] at hx
 obtain ⟨x, hx1, hx2⟩ := Option.bind_eq_some_iff.1 hx
 clear hx
 have hs1 := (all_in hT f).1 _ _ _ hs hx1
 have hlt := hs.lt
 have hrb := h.here.2.2
 have htb := h.tb_lt (by omega)
 have hne : W.heap.size ≠ rb := by omega
 have hne2 : W.heap.size ≠ tb := by omega
 have hG1 : Gr W (W.alloc (.cells #[.int .i64 0, .int .i64 0, .int .i64 0, .slice none 0 0] 24)) := Gr.alloc (Gr.refl W) _
 have hA := Lib.hid (heap_last W (.cells #[.int .i64 0, .int .i64 0, .int .i64 0, .slice none 0 0] 24))
 have hR := Lib.hid (h.mono hG1)
 have hX : GrX rb W (W.alloc (.cells #[.int .i64 0, .int .i64 0, .int .i64 0, .slice none 0 0] 24)) := GrX.ofG hG1
 clear h hG1
 have E : ∀ w, R4At T tb off cap rb w s → _ := fun w h4 => ih f (Nat.le_refl f) w s deep x hd hs h4 hx1
 clear hx1
 obtain ⟨p, s1⟩ := x
 replace hx2 := Lib.hid (show rwS T f deep p false s1 = some r from hx2)
 go_enter Tryd.func16, Tryd.ntmps16
 go_wp2_with (go_at_call 28; (with_reducible refine (E _ hR.out).mono ?_); rintro e w1 ⟨sv, rfl, hXn, hRn, hS⟩; obtain ⟨sa, sn, sc, rfl⟩ := svAt_shape hS)
 have hz := (Array.getElem?_eq_some_iff.1 hA.out).1
 have hz2 := hXn.size
 have hB0 := Lib.hid (Box4.of (heap_last w1 (.cells #[.int .i64 p.kind, .int .i64 p.frm, .int .i64 p.to, .slice sa sn sc] 24)))
 have hA0 := Lib.hid (heap_old _ (.cells #[.int .i64 p.kind, .int .i64 p.frm, .int .i64 p.to, .slice sa sn sc] 24) _ _ (Nat.lt_of_lt_of_le hz hz2) (hXn.heap hA.out hne))
 have hX0 := (hX.trans hXn).alloc (.cells #[.int .i64 p.kind, .int .i64 p.frm, .int .i64 p.to, .slice sa sn sc] 24)
 have hR0 := Lib.hid (hRn.mono (Gr.alloc (Gr.refl w1) (.cells #[.int .i64 p.kind, .int .i64 p.frm, .int .i64 p.to, .slice sa sn sc] 24)))
 have hS0 := SvAt.mono (Q := fun k => W.heap.size < k ∧ k ≠ w1.heap.size) (Gr.alloc (Gr.refl w1) (.cells #[.int .i64 p.kind, .int .i64 p.frm, .int .i64 p.to, .slice sa sn sc] 24)).size (fun k _ hk => (Gr.alloc (Gr.refl w1) (.cells #[.int .i64 p.kind, .int .i64 p.frm, .int .i64 p.to, .slice sa sn sc] 24)).below.block k hk) (fun k hk1 hk2 => ⟨by have := hk1.1; omega, by omega⟩) p _ hS
 have hpW : W.heap.size < w1.heap.size := by omega
 have hpr : w1.heap.size ≠ rb := by omega
 have hpt : w1.heap.size ≠ tb := by omega
 clear hS hRn hXn hX hR hA E hz hz2
 go_wp2_with fail
 generalize w1.alloc (.cells #[.int .i64 p.kind, .int .i64 p.frm, .int .i64 p.to, .slice sa sn sc] 24) = w0 at *
 generalize w1.heap.size = pb at *
 go_loopw [6] (fun rv wr => ∃ (b : Bool) (g : Nat) (s3 : S4) (p : PickD) (sa : Option Addr) (sn sc : Nat), rv = .bool b ∧ S4In T s3 ∧ GrX rb W wr ∧ Hid (R4At T tb off cap rb wr s3) ∧ Hid (wr.heap[W.heap.size]? = some (.cells #[.int .i64 0, .int .i64 0, .int .i64 0, .slice none 0 0] 24 (0, 0))) ∧ Hid (Box4 wr pb (.int .i64 p.kind) (.int .i64 p.frm) (.int .i64 p.to) (.slice sa sn sc)) ∧ Hid (RowI wr (fun k => W.heap.size < k ∧ k ≠ pb) W.heap.size b p (.slice sa sn sc)) ∧ Hid (b = true → p.args.length ≤ s3.n + 2) ∧ Hid (g ≤ f) ∧ Hid (rwS T g deep p b s3 = some r)) (fun _ wr => leftW T rb wr)
 case atStart => exact ⟨false, f, s1, p, sa, sn, sc, rfl, hs1, hX0, hR0, hA0, hB0, Lib.hid (by unfold RowI; rw [if_neg (by simp)]; exact hS0), Lib.hid (fun e => by cases e), Lib.hid (Nat.le_refl f), hx2⟩
 case round =>
  clear hX0 hR0 hA0 hB0 hS0 hx2 hs1
  obtain ⟨b, g, s3, p, sa, sn, sc, rfl, hs3, hX, hR, hA, hB, hI, hlen, hg, hRR⟩ := hrel
  have hlw := Lib.hid (leftW_at4 hR.out)
  have hn3 := hs3.lt
  have D : ∀ w, R4At T tb off cap rb w s3 → _ := fun w hw => done4 hw
  by_cases c0 : s3.done = true
  ·have hE := hRR.out
   rw [rwS_done c0] at hE
   injection hE with hE
   subst hE
   rw [c0] at D
   clear hRR c0
   go_wp2_with (go_at_call 17; (with_reducible refine (D _ hR.out).mono ?_); rintro e w9 ⟨rfl, hw9⟩; obtain rfl := hw9.symm; have BB := hB.out; obtain ⟨⟨b0, b1, b2, b3⟩, _, _⟩ := BB; have BA := Box4.of hA.out; obtain ⟨⟨k0, k1, k2, k3⟩, ⟨f0, f1, f2, f3⟩, hbl⟩ := BA)
   obtain ⟨⟨c0, c1, c2, c3⟩, hXf, hRf, hkf, hsf⟩ := fin4R hX (Nat.le_refl _) hne hne2 (Box4.of hA.out) hR.out (.int .i64 p.kind) (.int .i64 p.frm) (.int .i64 p.to) (.slice sa sn sc)
   refine bodyPost_ret (v := .agg #[.int .i64 p.kind, .int .i64 p.frm, .int .i64 p.to, .slice sa sn sc]) (by simp [results, Tryd.results16, go_sem, c0, c1, c2, c3]) rfl ?_
   exact ⟨_, rfl, hXf, hRf, SvAt.mono (by omega) (fun k hk1 hk2 => hkf k (by have := hk1.1; omega)) (fun k hk1 hk2 => ⟨by have := hk1.1; omega, by omega⟩) p _ hI.out.at⟩
  have c0 := Bool.eq_false_iff.2 c0
  rw [c0] at D
  cases g with
  | zero =>
   exfalso
   have hE := hRR.out
   rw [rwS, c0, if_neg (by simp)] at hE
   cases hE
  | succ g =>
   have hE := hRR.out
   rw [rwS, c0, if_neg (by simp)] at hE
   by_cases qp : isB T wPlus s3 = true
   ·rw [if_pos qp] at hE
    have hs4 : S4In T (nxS s3) := nx_in hT hs3 (b := 43) (w := []) (by decide) qp
    have C1 : ∀ w, R4At T tb off cap rb w s3 → Calls Tryd.prog 29 #[.pointer (some ⟨rb, 0, none⟩), .string ⟨#[43]⟩] w fun e w' => e = .returned (.bool true) ∧ GrX rb w w' ∧ R4At T tb off cap rb w' (nxS s3) := fun w hw => is_y hs3 hw hT.few wPlus qp
    obtain ⟨x, hy, hE2⟩ := Option.bind_eq_some_iff.1 hE
    have hs5 := (all_in hT g).1 _ _ _ hs4 hy
    have hup := (all_up g).1 _ _ _ hy
    have hnx : (nxS s3).n = s3.n + 1 := rfl
    have E : ∀ w, R4At T tb off cap rb w (nxS s3) → _ := fun w h4 => ih g (by have := hg.out; omega) w (nxS s3) deep x hd hs4 h4 hy
    clear hy hRR qp c0 hE
    obtain ⟨q, s5⟩ := x
    simp only at hup hs5 E hE2
    cases b
    ·have hE := Lib.hid (show rwS T g deep (.mk 4 0 0 [p, q]) true s5 = some r from hE2)
     replace hI := Lib.hid hI.out.at
     go_wp2_with (first
      | (go_at_call 17; (with_reducible refine (D _ hR.out).mono ?_); rintro e w9 ⟨rfl, hw9⟩; obtain rfl := hw9.symm)
      | (go_at_call 29; (with_reducible refine (C1 _ hR.out).mono ?_); rintro e w2 ⟨rfl, hXn, hRn⟩; replace hX := hX.trans hXn; replace hI := Lib.hid (SvAt.mono (Q := fun k => W.heap.size < k ∧ k ≠ pb) hXn.size (fun k hk1 hk2 => hXn.block k hk2 (by have := hk1.1; omega)) (fun k hk1 _ => hk1) p _ hI.out); replace hA := Lib.hid (hXn.heap hA.out hne); replace hB := Lib.hid (Box4.grx hB.out hXn hpr); replace hR := Lib.hid hRn; clear hXn hRn)
      | (go_at_call 28; (with_reducible refine (E _ hR.out).mono ?_); rintro e w3 ⟨sv, rfl, hXn, hRn, hS⟩; obtain ⟨qa, qn, qz, rfl⟩ := svAt_shape hS; have hz := hB.out.2.2; have hz2 := hXn.size; replace hI := Lib.hid (SvAt.mono (Q := fun k => (W.heap.size < k ∧ k ≠ pb) ∧ k < w3.heap.size) hXn.size (fun k hk1 hk2 => hXn.block k hk2 (by have := hk1.1; omega)) (fun k hk1 hk2 => ⟨hk1, by omega⟩) p _ hI.out); replace hS := Lib.hid (SvAt.mono (Q := fun k => (W.heap.size < k ∧ k ≠ pb) ∧ k < w3.heap.size) (Nat.le_refl _) (fun _ _ _ => rfl) (fun k hk1 hk2 => ⟨⟨by have := hk1.1; omega, by have := hk1.1; omega⟩, hk2⟩) q _ hS); replace hX := hX.trans hXn; replace hA := Lib.hid (hXn.heap hA.out hne); replace hB := Lib.hid (Box4.grx hB.out hXn hpr); replace hR := Lib.hid hRn; clear hXn hRn; have BBa := (hB.out).mono (Gr.alloc (Gr.refl w3) (.cells #[.int .i64 q.kind, .int .i64 q.frm, .int .i64 q.to, .slice qa qn qz] 24)); have BBb := BBa.mono (Gr.alloc (Gr.refl (w3.alloc (.cells #[.int .i64 q.kind, .int .i64 q.frm, .int .i64 q.to, .slice qa qn qz] 24))) (.cells #[.int .i64 p.kind, .int .i64 p.frm, .int .i64 p.to, .slice sa sn sc, .int .i64 q.kind, .int .i64 q.frm, .int .i64 q.to, .slice qa qn qz] 24)); obtain ⟨⟨x0, x1, x2, x3⟩, ⟨y0, y1, y2, y3⟩, hxl⟩ := BBa; obtain ⟨⟨u0, u1, u2, u3⟩, ⟨v0, v1, v2, v3⟩, hul⟩ := BBb))
     have hsz : (w3.alloc (.cells #[.int .i64 q.kind, .int .i64 q.frm, .int .i64 q.to, .slice qa qn qz] 24)).heap.size = w3.heap.size + 1 := by simp
     have hXb := (hX.alloc (.cells #[.int .i64 q.kind, .int .i64 q.frm, .int .i64 q.to, .slice qa qn qz] 24)).alloc (.cells #[.int .i64 p.kind, .int .i64 p.frm, .int .i64 p.to, .slice sa sn sc, .int .i64 q.kind, .int .i64 q.frm, .int .i64 q.to, .slice qa qn qz] 24)
     have hRb := hR.out.mono (Gr.alloc (Gr.alloc (Gr.refl w3) (.cells #[.int .i64 q.kind, .int .i64 q.frm, .int .i64 q.to, .slice qa qn qz] 24)) (.cells #[.int .i64 p.kind, .int .i64 p.frm, .int .i64 p.to, .slice sa sn sc, .int .i64 q.kind, .int .i64 q.frm, .int .i64 q.to, .slice qa qn qz] 24))
     have BBb := ((hB.out).mono (Gr.alloc (Gr.refl w3) (.cells #[.int .i64 q.kind, .int .i64 q.frm, .int .i64 q.to, .slice qa qn qz] 24))).mono (Gr.alloc (Gr.refl (w3.alloc (.cells #[.int .i64 q.kind, .int .i64 q.frm, .int .i64 q.to, .slice qa qn qz] 24))) (.cells #[.int .i64 p.kind, .int .i64 p.frm, .int .i64 p.to, .slice sa sn sc, .int .i64 q.kind, .int .i64 q.frm, .int .i64 q.to, .slice qa qn qz] 24))
     obtain ⟨_, hXf, hRf, hkf, hsf⟩ := fin4R hXb (b := pb) (by omega) hpr hpt BBb hRb (.int .i64 4) (.int .i64 0) (.int .i64 0) (.slice (some ⟨w3.heap.size + 1, 0, none⟩) 2 2)
     have hO : OwnA ((w3.alloc (.cells #[.int .i64 q.kind, .int .i64 q.frm, .int .i64 q.to, .slice qa qn qz] 24)).alloc (.cells #[.int .i64 p.kind, .int .i64 p.frm, .int .i64 p.to, .slice sa sn sc, .int .i64 q.kind, .int .i64 q.frm, .int .i64 q.to, .slice qa qn qz] 24)) (fun k => W.heap.size < k ∧ k ≠ pb) W.heap.size [p, q] (.slice (some ⟨(w3.alloc (.cells #[.int .i64 q.kind, .int .i64 q.frm, .int .i64 q.to, .slice qa qn qz] 24)).heap.size, 0, none⟩) 2 2) := OwnA.two (by rw [hsz]; omega) (by rw [hsz]; exact ⟨by omega, by omega⟩) (SvAt.mono (by rw [hsz]; omega) (fun k _ hk => Below.heap_alloc w3 _ k hk) (fun k hk1 hk2 => ⟨hk1.1, by rw [hsz]; omega⟩) p _ hI.out) (SvAt.mono (by rw [hsz]; omega) (fun k _ hk => Below.heap_alloc w3 _ k hk) (fun k hk1 hk2 => ⟨hk1.1, by rw [hsz]; omega⟩) q _ hS.out)
     rw [hsz] at hO
     have hAb := heap_old (w3.alloc (.cells #[.int .i64 q.kind, .int .i64 q.frm, .int .i64 q.to, .slice qa qn qz] 24)) (.cells #[.int .i64 p.kind, .int .i64 p.frm, .int .i64 p.to, .slice sa sn sc, .int .i64 q.kind, .int .i64 q.frm, .int .i64 q.to, .slice qa qn qz] 24) _ _ (by rw [hsz]; have := (Array.getElem?_eq_some_iff.1 hA.out).1; omega) (heap_old w3 (.cells #[.int .i64 q.kind, .int .i64 q.frm, .int .i64 q.to, .slice qa qn qz] 24) _ _ (Array.getElem?_eq_some_iff.1 hA.out).1 hA.out)
     refine ⟨⟨true, g, s5, .mk 4 0 0 [p, q], some ⟨w3.heap.size + 1, 0, none⟩, 2, 2, rfl, hs5, hXf, Lib.hid hRf, Lib.hid ((hkf _ (by omega)).trans hAb), Lib.hid (Box4.st3 (Box4.st2 (Box4.st1 (Box4.st0 BBb)))), Lib.hid ?_, Lib.hid (fun _ => by show 2 ≤ s5.n + 2; omega), Lib.hid (by have := hg.out; omega), hE⟩, ?_⟩
     ·unfold RowI
      rw [if_pos rfl]
      exact ⟨OwnA.mono hO (by omega) (fun k hk1 hk2 => hkf k hk1.2) (fun k hk1 _ => hk1), rfl, rfl, rfl⟩
     ·rw [leftW_at4 hRf, hlw.out]
      have := hs5.lt
      omega
    ·have hE := Lib.hid (show rwS T g deep (.mk p.kind p.frm p.to (p.args ++ [q])) true s5 = some r from hE2)
     have hIo := hI.out
     unfold RowI at hIo
     rw [if_pos rfl] at hIo
     obtain ⟨⟨bk, cc, xs0, hsv, _, hPb, hbl, _⟩, hk4, hkf, hkt⟩ := hIo
     injection hsv with h1 h2 h3
     subst h1 h2 h3
     have hlen2 := Lib.hid (hlen.out rfl)
     have hbr : bk ≠ rb := by have := hPb.1; omega
     have hbt : bk ≠ tb := by have := hPb.1; omega
     go_wp2_with (first
      | (go_at_call 17; (with_reducible refine (D _ hR.out).mono ?_); rintro e w9 ⟨rfl, hw9⟩; obtain rfl := hw9.symm)
      | (go_at_call 29; (with_reducible refine (C1 _ hR.out).mono ?_); rintro e w2 ⟨rfl, hXn, hRn⟩; have hz0 := hXn.size; replace hX := hX.trans hXn; replace hI := Lib.hid (hI.out.mono (Q := fun k => W.heap.size < k ∧ k ≠ pb) hXn.size (fun k hk1 hk2 => hXn.block k hk2 (by have := hk1.1; omega)) (fun k hk1 _ => hk1)); replace hA := Lib.hid (hXn.heap hA.out hne); replace hB := Lib.hid (Box4.grx hB.out hXn hpr); replace hR := Lib.hid hRn; clear hXn hRn)
      | (go_at_call 28; (with_reducible refine (E _ hR.out).mono ?_); rintro e w3 ⟨sv, rfl, hXn, hRn, hS⟩; obtain ⟨qa, qn, qz, rfl⟩ := svAt_shape hS; have hz := hB.out.2.2; have hz2 := hXn.size; replace hI := Lib.hid (hI.out.mono (Q := fun k => W.heap.size < k ∧ k ≠ pb) hXn.size (fun k hk1 hk2 => hXn.block k hk2 (by have := hk1.1; omega)) (fun k hk1 _ => hk1)); replace hS := Lib.hid (SvAt.mono (Q := fun k => (W.heap.size < k ∧ k ≠ pb) ∧ k ≠ bk) (Nat.le_refl _) (fun _ _ _ => rfl) (fun k hk1 hk2 => ⟨⟨by have := hk1.1; omega, by have := hk1.1; omega⟩, by have := hk1.1; omega⟩) q _ hS); replace hX := hX.trans hXn; replace hA := Lib.hid (hXn.heap hA.out hne); replace hB := Lib.hid (Box4.grx hB.out hXn hpr); replace hR := Lib.hid hRn; clear hXn hRn; have BBa := (hB.out).mono (Gr.alloc (Gr.refl w3) (.cells #[.int .i64 q.kind, .int .i64 q.frm, .int .i64 q.to, .slice qa qn qz] 24)); obtain ⟨⟨x0, x1, x2, x3⟩, ⟨y0, y1, y2, y3⟩, hxl⟩ := BBa)
      | (at_builtin; go_loud (have hIb := hI.out.mono (Q := fun k => W.heap.size < k ∧ k ≠ pb) (Gr.alloc (Gr.alloc (Gr.refl w3) (.cells #[.int .i64 q.kind, .int .i64 q.frm, .int .i64 q.to, .slice qa qn qz] 24)) (.cells #[.int .i64 q.kind, .int .i64 q.frm, .int .i64 q.to, .slice qa qn qz] 24)).size (fun k _ hk => (Gr.alloc (Gr.alloc (Gr.refl w3) (.cells #[.int .i64 q.kind, .int .i64 q.frm, .int .i64 q.to, .slice qa qn qz] 24)) (.cells #[.int .i64 q.kind, .int .i64 q.frm, .int .i64 q.to, .slice qa qn qz] 24)).below.block k hk) (fun k hk1 _ => hk1); unfold RowI at hIb; rw [if_pos rfl] at hIb; obtain ⟨⟨bk2, cc2, xs, hsv, hown, _, hbl2, hcs⟩, _, _, _⟩ := hIb; injection hsv with h1 h2 h3; injection h1 with h1; injection h1 with h1; subst h1 h3; refine wpList_more _ rfl _ _ 22 rfl W.heap.size 24 (.agg #[.int .i64 0, .int .i64 0, .int .i64 0, .slice none 0 0]) 4 48 Tryd.underlying22 (by kernel_rfl) rfl (by decide) bk p.args.length _ xs rfl hown ⟨w3.heap.size + 1, 0, none⟩ 1 1 [.int .i64 q.kind, .int .i64 q.frm, .int .i64 q.to, .slice qa qn qz] rfl rfl (more_news w3 (.cells #[.int .i64 q.kind, .int .i64 q.frm, .int .i64 q.to, .slice qa qn qz] 24) #[] rfl) (by simp [Value.oneCell']) (by have := hlen2.out; have := hT.few; unfold maxLen; omega) (by have := hlen2.out; have := hT.few; omega) (by have := (Gr.alloc (Gr.alloc (Gr.refl w3) (.cells #[.int .i64 q.kind, .int .i64 q.frm, .int .i64 q.to, .slice qa qn qz] 24)) (.cells #[.int .i64 q.kind, .int .i64 q.frm, .int .i64 q.to, .slice qa qn qz] 24)).size; have := hX.size; omega) ?_; intro g2 c2 w9 ho9 hg9 hor; have BBc := Box4.grown ((hB.out).mono (Gr.alloc (Gr.alloc (Gr.refl w3) (.cells #[.int .i64 q.kind, .int .i64 q.frm, .int .i64 q.to, .slice qa qn qz] 24)) (.cells #[.int .i64 q.kind, .int .i64 q.frm, .int .i64 q.to, .slice qa qn qz] 24))) hg9 (Ne.symm hPb.2); have BBd := BBc; obtain ⟨⟨d0, d1, d2, d3⟩, ⟨e0, e1, e2, e3⟩, hdl⟩ := BBd)))
     have hpb := hB.out.2.2
     have hs3z : w3.heap.size ≤ ((w3.alloc (.cells #[.int .i64 q.kind, .int .i64 q.frm, .int .i64 q.to, .slice qa qn qz] 24)).alloc (.cells #[.int .i64 q.kind, .int .i64 q.frm, .int .i64 q.to, .slice qa qn qz] 24)).heap.size := (Gr.alloc (Gr.alloc (Gr.refl w3) (.cells #[.int .i64 q.kind, .int .i64 q.frm, .int .i64 q.to, .slice qa qn qz] 24)) (.cells #[.int .i64 q.kind, .int .i64 q.frm, .int .i64 q.to, .slice qa qn qz] 24)).size
     have hX9 := ((hX.alloc (.cells #[.int .i64 q.kind, .int .i64 q.frm, .int .i64 q.to, .slice qa qn qz] 24)).alloc (.cells #[.int .i64 q.kind, .int .i64 q.frm, .int .i64 q.to, .slice qa qn qz] 24)).grown hg9 (by have := hPb.1; omega)
     have hR9 := (hR.out.mono (Gr.alloc (Gr.alloc (Gr.refl w3) (.cells #[.int .i64 q.kind, .int .i64 q.frm, .int .i64 q.to, .slice qa qn qz] 24)) (.cells #[.int .i64 q.kind, .int .i64 q.frm, .int .i64 q.to, .slice qa qn qz] 24))).grown hg9 hbr hbt
     have hA9 := (hg9.block W.heap.size (by omega) (fun e => by injection e with e; have := hPb.1; omega)).trans (((Gr.alloc (Gr.alloc (Gr.refl w3) (.cells #[.int .i64 q.kind, .int .i64 q.frm, .int .i64 q.to, .slice qa qn qz] 24)) (.cells #[.int .i64 q.kind, .int .i64 q.frm, .int .i64 q.to, .slice qa qn qz] 24)).below.block _ (Array.getElem?_eq_some_iff.1 hA.out).1).trans hA.out)
     have hO := OwnA.more (c := 0) (sv := .slice (some ⟨bk, 0, none⟩) p.args.length 0) (P := (fun k => W.heap.size < k ∧ k ≠ pb)) (base := W.heap.size) rfl hbl2 hcs (SvAt.mono hs3z (fun k _ hk => (Gr.alloc (Gr.alloc (Gr.refl w3) (.cells #[.int .i64 q.kind, .int .i64 q.frm, .int .i64 q.to, .slice qa qn qz] 24)) (.cells #[.int .i64 q.kind, .int .i64 q.frm, .int .i64 q.to, .slice qa qn qz] 24)).below.block k hk) (fun k hk1 _ => hk1) q _ hS.out) ho9 hg9 hPb (fun k hk => ⟨by omega, by omega⟩) (fun e => by cases e) (fun g n cc e => by injection e with e _ _; injection e with e; injection e with e; rw [← e]; exact hor)
     refine ⟨⟨true, g, s5, .mk p.kind p.frm p.to (p.args ++ [q]), some ⟨g2, 0, none⟩, p.args.length + 1, c2, rfl, hs5, hX9.put (by omega) _, Lib.hid (hR9.other hpr hpt), Lib.hid ((heap_setCell_ne w9 (show pb ≠ W.heap.size by omega) 3 _).trans hA9), Lib.hid (Box4.st3 BBc), Lib.hid ?_, Lib.hid (fun _ => ?_), Lib.hid (by have := hg.out; omega), hE⟩, ?_⟩
     ·unfold RowI
      rw [if_pos rfl]
      exact ⟨OwnA.mono hO (by simp) (fun k hk1 _ => heap_setCell_ne w9 (Ne.symm hk1.2) 3 _) (fun k hk1 _ => hk1), hk4, hkf, hkt⟩
     ·have := hlen2.out
      show (p.args ++ [q]).length ≤ s5.n + 2
      simp only [List.length_append, List.length_cons, List.length_nil]
      omega
     ·rw [leftW_at4 (hR9.other hpr hpt), hlw.out]
      have := hs5.lt
      omega
   ·rw [if_neg qp] at hE
    have C1 : ∀ w, R4At T tb off cap rb w s3 → Calls Tryd.prog 29 #[.pointer (some ⟨rb, 0, none⟩), .string ⟨#[43]⟩] w fun e w' => e = .returned (.bool false) ∧ GrX rb w w' ∧ R4At T tb off cap rb w' s3 := fun w hw => is_n hs3 hw hT.few wPlus (Bool.eq_false_iff.2 qp)
    by_cases qm : isB T wMinus s3 = true
    ·rw [if_pos qm] at hE
     have hs4 : S4In T (nxS s3) := nx_in hT hs3 (b := 45) (w := []) (by decide) qm
     have C2 : ∀ w, R4At T tb off cap rb w s3 → Calls Tryd.prog 29 #[.pointer (some ⟨rb, 0, none⟩), .string ⟨#[45]⟩] w fun e w' => e = .returned (.bool true) ∧ GrX rb w w' ∧ R4At T tb off cap rb w' (nxS s3) := fun w hw => is_y hs3 hw hT.few wMinus qm
     obtain ⟨x, hy, hE2⟩ := Option.bind_eq_some_iff.1 hE
     have hs5 := (all_in hT g).1 _ _ _ hs4 hy
     have hup := (all_up g).1 _ _ _ hy
     have hnx : (nxS s3).n = s3.n + 1 := rfl
     have E : ∀ w, R4At T tb off cap rb w (nxS s3) → _ := fun w h4 => ih g (by have := hg.out; omega) w (nxS s3) deep x hd hs4 h4 hy
     clear hy hRR qp qm c0 hE
     obtain ⟨q, s5⟩ := x
     simp only at hup hs5 E hE2
     have hE := Lib.hid (show rwS T g deep (.mk 5 0 0 [p, q]) false s5 = some r from hE2)
     replace hI := Lib.hid hI.out.at
     go_wp2_with (first
      | (go_at_call 17; (with_reducible refine (D _ hR.out).mono ?_); rintro e w9 ⟨rfl, hw9⟩; obtain rfl := hw9.symm)
      | (go_at_call 29; (with_reducible refine (C1 _ hR.out).mono ?_); rintro e w2 ⟨rfl, hXn, hRn⟩; replace hX := hX.trans hXn; replace hI := Lib.hid (SvAt.mono (Q := fun k => W.heap.size < k ∧ k ≠ pb) hXn.size (fun k hk1 hk2 => hXn.block k hk2 (by have := hk1.1; omega)) (fun k hk1 _ => hk1) p _ hI.out); replace hA := Lib.hid (hXn.heap hA.out hne); replace hB := Lib.hid (Box4.grx hB.out hXn hpr); replace hR := Lib.hid hRn; clear hXn hRn)
      | (go_at_call 29; (with_reducible refine (C2 _ hR.out).mono ?_); rintro e w2 ⟨rfl, hXn, hRn⟩; replace hX := hX.trans hXn; replace hI := Lib.hid (SvAt.mono (Q := fun k => W.heap.size < k ∧ k ≠ pb) hXn.size (fun k hk1 hk2 => hXn.block k hk2 (by have := hk1.1; omega)) (fun k hk1 _ => hk1) p _ hI.out); replace hA := Lib.hid (hXn.heap hA.out hne); replace hB := Lib.hid (Box4.grx hB.out hXn hpr); replace hR := Lib.hid hRn; clear hXn hRn))
     replace hR : Hid (R4At T tb off cap rb w2.drew (nxS s3)) := Lib.hid hR.out.drew
     replace hX : GrX rb W w2.drew := hX.drew
     replace hI : Hid (SvAt w2.drew (fun k => W.heap.size < k ∧ k ≠ pb) p (.slice sa sn sc)) := Lib.hid (SvAt.mono (w := w2) (w' := w2.drew) (Nat.le_refl _) (fun _ _ _ => rfl) (fun k h _ => h) p _ hI.out)
     replace hA : Hid (w2.drew.heap[W.heap.size]? = some (.cells #[.int .i64 0, .int .i64 0, .int .i64 0, .slice none 0 0] 24 (0, 0))) := hA
     replace hB : Hid (Box4 w2.drew pb (.int .i64 p.kind) (.int .i64 p.frm) (.int .i64 p.to) (.slice sa sn sc)) := hB
     have BB := hB.out
     obtain ⟨⟨b0, b1, b2, b3⟩, ⟨g0, g1, g2, g3⟩, hbl⟩ := BB
     go_region_with (go_at_call 28; (with_reducible refine (E _ hR.out).mono ?_); rintro e w4 ⟨sv, rfl, hXn, hRn, hS⟩; obtain ⟨qa, qn, qz, rfl⟩ := svAt_shape hS; have hz := hB.out.2.2; have hz2 := hXn.size; replace hI := Lib.hid (SvAt.mono (Q := fun k => (W.heap.size < k ∧ k ≠ pb) ∧ k < w4.heap.size) hXn.size (fun k hk1 hk2 => hXn.block k hk2 (by have := hk1.1; omega)) (fun k hk1 hk2 => ⟨hk1, by omega⟩) p _ hI.out); replace hS := Lib.hid (SvAt.mono (Q := fun k => (W.heap.size < k ∧ k ≠ pb) ∧ k < w4.heap.size) (Nat.le_refl _) (fun _ _ _ => rfl) (fun k hk1 hk2 => ⟨⟨by have := hk1.1; omega, by have := hk1.1; omega⟩, hk2⟩) q _ hS); replace hX := hX.trans hXn; replace hA := Lib.hid (hXn.heap hA.out hne); replace hB := Lib.hid (Box4.grx hB.out hXn hpr); replace hR := Lib.hid hRn; clear hXn hRn; have BBw := hB.out; have BBa := BBw.mono (Gr.alloc (Gr.refl w4) (.cells #[.int .i64 p.kind, .int .i64 p.frm, .int .i64 p.to, .slice sa sn sc, .int .i64 q.kind, .int .i64 q.frm, .int .i64 q.to, .slice qa qn qz] 24)); obtain ⟨⟨y0, y1, y2, y3⟩, ⟨z0, z1, z2, z3⟩, hyl⟩ := BBw; obtain ⟨⟨u0, u1, u2, u3⟩, ⟨v0, v1, v2, v3⟩, hul⟩ := BBa)
     all_goals (
      go_wp2_with fail
      have hXb := hX.alloc (.cells #[.int .i64 p.kind, .int .i64 p.frm, .int .i64 p.to, .slice sa sn sc, .int .i64 q.kind, .int .i64 q.frm, .int .i64 q.to, .slice qa qn qz] 24)
      have hRb := hR.out.mono (Gr.alloc (Gr.refl w4) (.cells #[.int .i64 p.kind, .int .i64 p.frm, .int .i64 p.to, .slice sa sn sc, .int .i64 q.kind, .int .i64 q.frm, .int .i64 q.to, .slice qa qn qz] 24))
      have BBb := (hB.out).mono (Gr.alloc (Gr.refl w4) (.cells #[.int .i64 p.kind, .int .i64 p.frm, .int .i64 p.to, .slice sa sn sc, .int .i64 q.kind, .int .i64 q.frm, .int .i64 q.to, .slice qa qn qz] 24))
      obtain ⟨_, hXf, hRf, hkf, hsf⟩ := fin4R hXb (b := pb) (by omega) hpr hpt BBb hRb (.int .i64 5) (.int .i64 0) (.int .i64 0) (.slice (some ⟨w4.heap.size, 0, none⟩) 2 2)
      have hO : OwnA (w4.alloc (.cells #[.int .i64 p.kind, .int .i64 p.frm, .int .i64 p.to, .slice sa sn sc, .int .i64 q.kind, .int .i64 q.frm, .int .i64 q.to, .slice qa qn qz] 24)) (fun k => W.heap.size < k ∧ k ≠ pb) W.heap.size [p, q] (.slice (some ⟨w4.heap.size, 0, none⟩) 2 2) := OwnA.two (by omega) ⟨by omega, by omega⟩ (SvAt.mono (Nat.le_refl _) (fun k _ hk => rfl) (fun k hk1 hk2 => ⟨hk1.1, by have := hk1.2; omega⟩) p _ hI.out) (SvAt.mono (Nat.le_refl _) (fun k _ hk => rfl) (fun k hk1 hk2 => ⟨hk1.1, by have := hk1.2; omega⟩) q _ hS.out)
      have hAb := heap_old w4 (.cells #[.int .i64 p.kind, .int .i64 p.frm, .int .i64 p.to, .slice sa sn sc, .int .i64 q.kind, .int .i64 q.frm, .int .i64 q.to, .slice qa qn qz] 24) _ _ (Array.getElem?_eq_some_iff.1 hA.out).1 hA.out
      have hpb4 := hB.out.2.2
      have hEq : ((((w4.alloc (.cells #[.int .i64 p.kind, .int .i64 p.frm, .int .i64 p.to, .slice sa sn sc, .int .i64 q.kind, .int .i64 q.frm, .int .i64 q.to, .slice qa qn qz] 24)).setCell ⟨pb, 0, none⟩ (.int .i64 5)).setCell ⟨pb, 1, none⟩ (.int .i64 0)).setCell ⟨pb, 2, none⟩ (.int .i64 0)).setCell ⟨pb, 3, none⟩ (.slice (some ⟨w4.heap.size, 0, none⟩) 2 2) = ((((w4.setCell ⟨pb, 0, none⟩ (.int .i64 5)).setCell ⟨pb, 1, none⟩ (.int .i64 0)).setCell ⟨pb, 2, none⟩ (.int .i64 0)).setCell ⟨pb, 3, none⟩ (.slice (some ⟨w4.heap.size, 0, none⟩) 2 2)).alloc (.cells #[.int .i64 p.kind, .int .i64 p.frm, .int .i64 p.to, .slice sa sn sc, .int .i64 q.kind, .int .i64 q.frm, .int .i64 q.to, .slice qa qn qz] 24) := by
       rw [World.setCell_alloc_past _ pb 0 _ hpb4, World.setCell_alloc_past _ pb 1 _ (by simpa using hpb4), World.setCell_alloc_past _ pb 2 _ (by simpa using hpb4), World.setCell_alloc_past _ pb 3 _ (by simpa using hpb4)]
      (try simp only [List.getElem_toArray, List.getElem_cons_succ, List.getElem_cons_zero, Act.put, List.setIfInBounds_toArray, List.set_cons_succ, List.set_cons_zero])
      (try go_wp2_with fail)
      (try go_big_round)
      rw [← hEq]
      refine ⟨?rel, ?measure⟩
      case rel =>
       refine ⟨false, g, s5, .mk 5 0 0 [p, q], some ⟨w4.heap.size, 0, none⟩, 2, 2, rfl, hs5, hXf, Lib.hid hRf, Lib.hid ((hkf _ (by omega)).trans hAb), Lib.hid (Box4.st3 (Box4.st2 (Box4.st1 (Box4.st0 BBb)))), Lib.hid ?_, Lib.hid (fun e => by cases e), Lib.hid (by have := hg.out; omega), hE⟩
       unfold RowI
       rw [if_neg (by simp)]
       exact SvAt.mono (by omega) (fun k hk1 hk2 => hkf k hk1.2) (fun k hk1 _ => hk1) _ _ (hO.at (k := 5) (f := 0) (t := 0))
      case measure =>
       rw [leftW_at4 hRf, hlw.out]
       have := hs5.lt
       omega)
    ·rw [if_neg qm] at hE
     injection hE with hE
     subst hE
     have C2 : ∀ w, R4At T tb off cap rb w s3 → Calls Tryd.prog 29 #[.pointer (some ⟨rb, 0, none⟩), .string ⟨#[45]⟩] w fun e w' => e = .returned (.bool false) ∧ GrX rb w w' ∧ R4At T tb off cap rb w' s3 := fun w hw => is_n hs3 hw hT.few wMinus (Bool.eq_false_iff.2 qm)
     clear hRR qp qm c0
     go_wp2_with (first
      | (go_at_call 17; (with_reducible refine (D _ hR.out).mono ?_); rintro e w9 ⟨rfl, hw9⟩; obtain rfl := hw9.symm)
      | (go_at_call 29; (with_reducible refine (C1 _ hR.out).mono ?_); rintro e w2 ⟨rfl, hXn, hRn⟩; replace hX := hX.trans hXn; replace hI := Lib.hid (hI.out.mono (Q := fun k => W.heap.size < k ∧ k ≠ pb) hXn.size (fun k hk1 hk2 => hXn.block k hk2 (by have := hk1.1; omega)) (fun k hk1 _ => hk1)); replace hA := Lib.hid (hXn.heap hA.out hne); replace hB := Lib.hid (Box4.grx hB.out hXn hpr); replace hR := Lib.hid hRn; clear hXn hRn)
      | (go_at_call 29; (with_reducible refine (C2 _ hR.out).mono ?_); rintro e w2 ⟨rfl, hXn, hRn⟩; replace hX := hX.trans hXn; replace hI := Lib.hid (hI.out.mono (Q := fun k => W.heap.size < k ∧ k ≠ pb) hXn.size (fun k hk1 hk2 => hXn.block k hk2 (by have := hk1.1; omega)) (fun k hk1 _ => hk1)); replace hA := Lib.hid (hXn.heap hA.out hne); replace hB := Lib.hid (Box4.grx hB.out hXn hpr); replace hR := Lib.hid hRn; clear hXn hRn; have BB := hB.out; obtain ⟨⟨b0, b1, b2, b3⟩, _, _⟩ := BB; have BA := Box4.of hA.out; obtain ⟨⟨k0, k1, k2, k3⟩, ⟨f0, f1, f2, f3⟩, hbl⟩ := BA))
     obtain ⟨⟨c0, c1, c2, c3⟩, hXf, hRf, hkf, hsf⟩ := fin4R hX (Nat.le_refl _) hne hne2 (Box4.of hA.out) hR.out (.int .i64 p.kind) (.int .i64 p.frm) (.int .i64 p.to) (.slice sa sn sc)
     refine bodyPost_ret (v := .agg #[.int .i64 p.kind, .int .i64 p.frm, .int .i64 p.to, .slice sa sn sc]) (by simp [results, Tryd.results16, go_sem, c0, c1, c2, c3]) rfl ?_
     exact ⟨_, rfl, hXf, hRf, SvAt.mono (by omega) (fun k hk1 hk2 => hkf k (by have := hk1.1; omega)) (fun k hk1 hk2 => ⟨by have := hk1.1; omega, by omega⟩) p _ hI.out.at⟩
end
end Go.Proofs.YtfalbgflabajbaaDoor

namespace Go.Proofs.YtfalbgflabajbaaDoor
set_option linter.unusedSectionVars false
set_option linter.unusedSimpArgs false
set_option linter.unusedVariables false
theorem ref_any {T : List TokD} {tb off cap rb : Nat} (hT : TokOk T) (h0 : 0 < T.length) (f : Nat) : SimS4 T tb off cap rb f ∧ PreS4 T tb off cap rb f ∧ WhS4 T tb off cap rb f := by
 induction f using Nat.strongRecOn with
 | ind f ih =>
  cases f with
  | zero => exact ⟨sim_zero h0, pre_zero h0, fun W s deep r _ _ _ h => by rw [whS] at h; cases h⟩
  | succ f =>
   have hf := ih f (Nat.lt_succ_self f)
   exact ⟨sim_step hT h0 hf.2.2 hf.2.1, pre_step h0 hf.1, wh_step hT fun g hg => (ih g (Nat.lt_succ_of_le hg)).1⟩
end Go.Proofs.YtfalbgflabajbaaDoor

namespace Go.Proofs.YtfalbgflabajbaaDoor
set_option linter.unusedSectionVars false
set_option linter.unusedVariables false
set_option linter.unusedSimpArgs false
def tk4T (t : TokD) : WordD := ⟨bZ (w4T t), t.pos⟩
theorem run_next {b : UInt8} (h0 : 0 < clsB b) (r : List UInt8) {c : UInt8} (h : (r.drop (runB b r))[0]? = some c) : clsB c ≠ clsB b := by
 have e : runB b r = (r.takeWhile fun c => decide (clsB c = clsB b)).length := by unfold runB; rw [if_neg (by omega)]
 have hd : r.drop (runB b r) = r.dropWhile fun c => decide (clsB c = clsB b) := by
  rw [e]
  conv => lhs; arg 2; rw [← List.takeWhile_append_dropWhile (p := fun c => decide (clsB c = clsB b)) (l := r)]
  rw [List.drop_left]
 rw [hd] at h
 have hn := List.head?_dropWhile_not (fun c => decide (clsB c = clsB b)) r
 rw [List.head?_eq_getElem?, h] at hn
 simpa using hn
theorem cls_le (b : UInt8) : clsB b ≤ 2 := by unfold clsB; split <;> (try split) <;> omega
theorem run_w4 (b : UInt8) (r : List UInt8) (k : Int) (hk : k = if b = 32 then 0 else if clsB b = 0 then 3 else (clsB b : Int)) (h32 : b ≠ 32) : (r.takeWhile fun c => (decide (¬ k = 0) && decide (¬ k = 3)) && decide ((if c = 32 then 0 else if clsB c = 0 then 3 else (clsB c : Int)) = k)).length = runB b r := by
 unfold runB
 rw [if_neg h32] at hk
 have hle := cls_le b
 by_cases h : clsB b = 0
 ·rw [if_pos h]
  rw [if_pos h] at hk
  subst hk
  cases r with
  | nil => rfl
  | cons c r => rw [List.takeWhile_cons]; simp
 ·rw [if_neg h]
  rw [if_neg h] at hk
  have e : (fun c : UInt8 => (decide (¬ k = 0) && decide (¬ k = 3)) && decide ((if c = 32 then 0 else if clsB c = 0 then 3 else (clsB c : Int)) = k)) = fun c => decide (clsB c = clsB b) := funext fun c => by
   rw [decide_eq_true (show ¬ k = 0 by omega), decide_eq_true (show ¬ k = 3 by omega), Bool.true_and, Bool.true_and]
   have hlc := cls_le c
   by_cases c32 : c = 32
   ·subst c32
    have hc0 : clsB 32 = 0 := by decide
    rw [if_pos rfl, decide_eq_false (by omega), decide_eq_false (by omega)]
   ·rw [if_neg c32]
    by_cases c0 : clsB c = 0
    ·rw [if_pos c0, decide_eq_false (by omega), decide_eq_false (by omega)]
    ·rw [if_neg c0]
     by_cases he : clsB c = clsB b
     ·rw [decide_eq_true he, decide_eq_true (by omega)]
     ·rw [decide_eq_false he, decide_eq_false (by omega)]
  rw [e]
theorem words4_t {l : List UInt8} (hl : l.length ≤ 4000) : t_R4_wordsOf (bZ l) = some ((toksP l.length 0 0 l).map tk4T) := by
 unfold t_R4_wordsOf
 have key : ∀ (f i prev : Nat) (acc : List WordD) (K1 : List WordD → Option (List WordD)) (K2 : Unit → Option (List WordD)), l.length - i ≤ f → i ≤ l.length → acc.length ≤ i → prev = (if i = 0 then 0 else clsB (l.getD (i - 1) 0)) → (∀ c, l[i]? = some c → clsB c = 0 ∨ prev = 0 ∨ clsB c ≠ prev) →
   whE (fun (s3 : (Int × (List WordD))) => (show Option (Lr (Int × (List WordD)) (List WordD) Unit) from
   if s3.1 < ((bZ l).size : Int) then
    (tSx (bZ l) s3.1).bind fun x9 =>
    (t_R4_kindOf x9).bind fun r10 =>
    whE (fun (s11 : Int) => (show Option (Lr Int Int Unit) from
      (if (((decide (¬ (r10 = 0))) && (decide (¬ (r10 = 3)))) && (decide (s11 < ((bZ l).size : Int)))) = true then tSx (bZ l) s11 else some 0).bind fun x17 =>
      (if (((decide (¬ (r10 = 0))) && (decide (¬ (r10 = 3)))) && (decide (s11 < ((bZ l).size : Int)))) = true then t_R4_kindOf x17 else some default).bind fun r18 =>
      if ((((decide (¬ (r10 = 0))) && (decide (¬ (r10 = 3)))) && (decide (s11 < ((bZ l).size : Int)))) && (decide (r18 = r10))) = true then
       some (.go (IntKind.i64.wrap (s11 + 1)))
      else
      some (.brk s11))) (IntKind.i64.wrap (s3.1 + 1)) (fun b12 =>
     (show Option (List WordD) from
       if ¬ (r10 = 0) then
        (tSz (bZ l) (some s3.1) (some b12)).bind fun x20 =>
        (if ((decide (0 < s3.1)) && (decide (¬ (r10 = 3)))) = true then tSx (bZ l) (IntKind.i64.wrap (s3.1 - 1)) else some 0).bind fun x21 =>
        (if ((decide (0 < s3.1)) && (decide (¬ (r10 = 3)))) = true then t_R4_kindOf x21 else some default).bind fun r22 =>
        (show Option WordD from
          if (((decide (0 < s3.1)) && (decide (¬ (r10 = 3)))) && (decide (IntKind.i64.wrap (r22 + r10) = 3))) = true then
           (tCat (⟨#[32]⟩ : ByteArray) ((⟨x20, s3.1⟩ : WordD).text)).bind fun x23 =>
           some ({ (⟨x20, s3.1⟩ : WordD) with text := x23 })
          else
          some (⟨x20, s3.1⟩ : WordD)).bind fun j25 =>
        if s3.2.length + ([j25] : (List WordD)).length ≤ 5864062014805 then
        some (s3.2 ++ ([j25] : (List WordD)))
        else none
       else
       some s3.2).bind fun j33 =>
     some (.go (b12, j33))) (fun b12 =>
     none)
   else
   some (.brk s3.2))) ((i : Int), acc) K1 K2 = K1 (acc ++ (toksI f i prev (l.drop i)).map tk4T) := by
  intro f
  induction f with
  | zero =>
   intro i prev acc K1 K2 hf hi ha hp hv
   have : i = l.length := by omega
   subst this
   rw [List.drop_of_length_le (Nat.le_refl _), toksI, wz_brk (b := acc)]
   ·simp
   ·rw [zsz]; simp
  | succ f ih =>
   intro i prev acc K1 K2 hf hi ha hp hv
   by_cases hlt : i < l.length
   ·have hx : l[i]? = some l[i] := List.getElem?_eq_getElem hlt
    have hd := List.drop_eq_getElem_cons hlt
    generalize l[i] = b at *
    have hvb := hv b hx
    have hw : IntKind.i64.wrap ((i : Int) + 1) = ((i + 1 : Nat) : Int) := by rw [wrap64 (by unfold inI; omega)]; omega
    obtain ⟨k, hk⟩ : ∃ k : Int, k = if b = 32 then 0 else if clsB b = 0 then 3 else (clsB b : Int) := ⟨_, rfl⟩
    have hin : ∀ {γ : Type} (K1 : Int → Option γ) (K2 : Unit → Option γ), whE (fun (s11 : Int) => (show Option (Lr Int Int Unit) from
      (if (((decide (¬ (k = 0))) && (decide (¬ (k = 3)))) && (decide (s11 < ((bZ l).size : Int)))) = true then tSx (bZ l) s11 else some 0).bind fun x17 =>
      (if (((decide (¬ (k = 0))) && (decide (¬ (k = 3)))) && (decide (s11 < ((bZ l).size : Int)))) = true then t_R4_kindOf x17 else some default).bind fun r18 =>
      if ((((decide (¬ (k = 0))) && (decide (¬ (k = 3)))) && (decide (s11 < ((bZ l).size : Int)))) && (decide (r18 = k))) = true then
       some (.go (IntKind.i64.wrap (s11 + 1)))
      else
      some (.brk s11))) ((i + 1 : Nat) : Int) K1 K2 = K1 ((i + 1 + ((l.drop (i + 1)).takeWhile fun c => (decide (¬ k = 0) && decide (¬ k = 3)) && decide ((if c = 32 then 0 else if clsB c = 0 then 3 else (clsB c : Int)) = k)).length : Nat) : Int) := by
     intro γ K1 K2
     rw [wz_while (l := l) (pr := fun c => (decide (¬ k = 0) && decide (¬ k = 3)) && decide ((if c = 32 then 0 else if clsB c = 0 then 3 else (clsB c : Int)) = k)) (fun j x hj => ?_) ?_ l.length (i + 1) (by omega) (by omega)]
     ·simp only
      rw [zsz, decide_eq_false (show ¬ ((l.length : Int) < (l.length : Int)) by omega)]
      simp
     ·have hjl := (List.getElem?_eq_some_iff.1 hj).1
      simp only
      rw [zsz, decide_eq_true (show (j : Int) < (l.length : Int) by omega), Bool.and_true]
      cases hq : (decide (¬ k = 0) && decide (¬ k = 3))
      ·simp
      ·simp only [if_true, zSx hj, Option.bind_some, kind_t, Bool.true_and]
       by_cases h1 : (if x = 32 then 0 else if clsB x = 0 then 3 else (clsB x : Int)) = k
       ·rw [decide_eq_true h1, if_pos rfl, if_pos rfl, wrap64 (by unfold inI; omega)]; rfl
       ·rw [decide_eq_false h1, if_neg (by simp), if_neg (by simp)]
    by_cases h32 : b = 32
    ·have hk0 : k = 0 := by rw [hk, if_pos h32]
     have htw0 : ((l.drop (i + 1)).takeWhile fun c => (decide (¬ k = 0) && decide (¬ k = 3)) && decide ((if c = 32 then 0 else if clsB c = 0 then 3 else (clsB c : Int)) = k)).length = 0 := by
      rw [hk0]
      cases l.drop (i + 1) with
      | nil => rfl
      | cons c r => rw [List.takeWhile_cons]; simp
     rw [htw0, Nat.add_zero] at hin
     rw [wz_go (s' := (((i + 1 : Nat) : Int), acc)), ih (i + 1) 0 acc K1 K2 (by omega) (by omega) (by omega), hd, toksI, if_pos h32]
     ·rw [if_neg (by omega), Nat.add_sub_cancel, List.getD_eq_getElem?_getD, hx, h32]; rfl
     ·intro c _; exact .inr (.inl rfl)
     ·simp only
      rw [if_pos (by rw [zsz]; omega), zSx hx, Option.bind_some, kind_t, Option.bind_some, ← hk, hw, hin]
      rw [if_neg (by omega), Option.bind_some]
    ·have hrl := runB_le b (l.drop (i + 1))
     rw [List.length_drop] at hrl
     have htw := run_w4 b (l.drop (i + 1)) k hk h32
     rw [htw] at hin
     have hk1 : ¬ k = 0 := by rw [hk, if_neg h32]; split <;> omega
     have hle := cls_le b
     have e21 : tSz (bZ l) (some (i : Int)) (some ((i + 1 + runB b (l.drop (i + 1)) : Nat) : Int)) = some (bZ ((b :: l.drop (i + 1)).take (runB b (l.drop (i + 1)) + 1))) := by
      rw [zSz (by omega) (by omega), hd, show i + 1 + runB b (l.drop (i + 1)) - i = runB b (l.drop (i + 1)) + 1 by omega]
     have hpiece : ((b :: l.drop (i + 1)).take (runB b (l.drop (i + 1)) + 1)).length ≤ 4000 := by
      rw [List.length_take]; simp only [List.length_cons, List.length_drop]; omega
     rw [wz_go (s' := (((i + 1 + runB b (l.drop (i + 1)) : Nat) : Int), acc ++ [tk4T ⟨(b :: l.drop (i + 1)).take (runB b (l.drop (i + 1)) + 1), i, decide (0 < clsB b ∧ 0 < prev)⟩])), ih (i + 1 + runB b (l.drop (i + 1))) (clsB b) _ K1 K2 (by omega) (by omega) (by simp; omega), hd, toksI, if_neg h32, List.drop_drop, show i + runB b (l.drop (i + 1)) + 1 = i + 1 + runB b (l.drop (i + 1)) by omega]
     ·simp
     ·rw [if_neg (by omega), List.getD_eq_getElem?_getD]
      have hlast : l[i + 1 + runB b (l.drop (i + 1)) - 1]? = (b :: l.drop (i + 1))[runB b (l.drop (i + 1))]? := by
       rw [← hd, List.getElem?_drop, show i + runB b (l.drop (i + 1)) = i + 1 + runB b (l.drop (i + 1)) - 1 by omega]
      rw [hlast]
      cases hr : runB b (l.drop (i + 1)) with
      | zero => rfl
      | succ k =>
       rw [List.getElem?_cons_succ]
       have h0 : clsB b ≠ 0 := fun e => by unfold runB at hr; rw [if_pos e] at hr; cases hr
       have hk : k < ((l.drop (i + 1)).takeWhile fun c => decide (clsB c = clsB b)).length := by
        have hr' := hr
        unfold runB at hr'
        rw [if_neg h0] at hr'
        omega
       have hg : (l.drop (i + 1))[k]? = some (((l.drop (i + 1)).takeWhile fun c => decide (clsB c = clsB b))[k]) := by
        obtain ⟨t, ht⟩ := List.takeWhile_prefix (l := l.drop (i + 1)) (fun c => decide (clsB c = clsB b))
        conv => lhs; rw [← ht]
        rw [List.getElem?_append_left hk, List.getElem?_eq_getElem hk]
       have hmem := List.all_eq_true.1 (List.all_takeWhile (l := l.drop (i + 1)) (p := fun c => decide (clsB c = clsB b))) _ (List.getElem_mem hk)
       rw [hg, Option.getD_some]
       exact (of_decide_eq_true hmem).symm
     ·intro c hc
      by_cases hb0 : clsB b = 0
      ·exact .inr (.inl hb0)
      ·have hc2 : ((l.drop (i + 1)).drop (runB b (l.drop (i + 1))))[0]? = some c := by
        rw [List.drop_drop, List.getElem?_drop, Nat.add_zero]; exact hc
       exact .inr (.inr (run_next (by omega) _ hc2))
     ·simp only
      rw [if_pos (by rw [zsz]; omega), zSx hx, Option.bind_some, kind_t, Option.bind_some, ← hk, hw, hin, if_pos hk1, e21, Option.bind_some]
      have hcond : (0 < clsB b ∧ 0 < prev) ∨ ¬ (0 < clsB b ∧ 0 < prev) := Classical.em _
      by_cases hi0 : (decide (0 < (i : Int)) && decide (¬ k = 3)) = true
      ·rw [Bool.and_eq_true, decide_eq_true_eq, decide_eq_true_eq] at hi0
       have hc : l[i - 1]? = some l[i - 1] := List.getElem?_eq_getElem (by omega)
       have hpc : prev = clsB l[i - 1] := by rw [hp, if_neg (by omega), List.getD_eq_getElem?_getD, hc]; rfl
       generalize l[i - 1] = c at *
       have hlc := cls_le c
       have hw1 : IntKind.i64.wrap ((i : Int) - 1) = ((i - 1 : Nat) : Int) := by rw [wrap64 (by unfold inI; omega)]; omega
       have hb1 : 0 < clsB b := by
        rcases Nat.eq_zero_or_pos (clsB b) with h | h
        ·rw [hk, if_neg h32, if_pos h] at hi0; exact absurd rfl hi0.2
        ·exact h
       have hkb : k = (clsB b : Int) := by rw [hk, if_neg h32, if_neg (by omega)]
       rw [decide_eq_true hi0.1, decide_eq_true hi0.2, Bool.and_self]
       simp only [if_true, hw1, zSx hc, Option.bind_some, kind_t, Bool.true_and]
       by_cases hpr : 0 < prev
       ·have hc32 : c ≠ 32 := fun e => by rw [e] at hpc; rw [hpc] at hpr; exact absurd hpr (by decide)
        rw [if_neg hc32, if_neg (show ¬ clsB c = 0 by omega), wrap64 (by unfold inI; omega), decide_eq_true (show (clsB c : Int) + k = 3 by omega), if_pos rfl, decide_eq_true (show 0 < clsB b ∧ 0 < prev from ⟨hb1, hpr⟩)]
        have hcat : tCat (⟨#[32]⟩ : ByteArray) (bZ ((b :: l.drop (i + 1)).take (runB b (l.drop (i + 1)) + 1))) = some (bZ (32 :: (b :: l.drop (i + 1)).take (runB b (l.drop (i + 1)) + 1))) := by
         unfold tCat
         rw [if_pos (by rw [zsz]; show 1 + _ ≤ _; omega)]
         congr 1
        rw [hcat, Option.bind_some, Option.bind_some, if_pos (by simp; omega)]
        rfl
       ·have hsum : ¬ (IntKind.i64.wrap ((if c = 32 then 0 else if clsB c = 0 then 3 else (clsB c : Int)) + k) = 3) := by
         by_cases hc32 : c = 32
         ·rw [if_pos hc32, wrap64 (by unfold inI; omega)]; omega
         ·rw [if_neg hc32, if_pos (show clsB c = 0 by omega), wrap64 (by unfold inI; omega)]; omega
        rw [decide_eq_false hsum, if_neg (by simp), Option.bind_some, if_pos (by simp; omega), decide_eq_false (show ¬ (0 < clsB b ∧ 0 < prev) from fun h => hpr h.2)]
        rfl
      ·have hi1 := Bool.eq_false_iff.2 hi0
       have hno : ¬ (0 < clsB b ∧ 0 < prev) := fun h => by
        apply hi0
        rw [Bool.and_eq_true, decide_eq_true_eq, decide_eq_true_eq]
        refine ⟨?_, by rw [hk, if_neg h32, if_neg (by omega)]; omega⟩
        have h2 := h.2
        rw [hp] at h2
        split at h2
        ·omega
        ·omega
       rw [hi1, decide_eq_false hno]
       simp only [Bool.false_eq_true, if_false, Option.bind_some, Bool.false_and]
       rw [if_pos (by simp; omega)]
       rfl
   ·have : i = l.length := by omega
    subst this
    rw [List.drop_of_length_le (Nat.le_refl _), toksI, wz_brk (b := acc)]
    ·simp
    ·rw [zsz]; simp
 have := key l.length 0 0 [] (fun b4 =>
  if b4.length + ([(⟨(⟨#[]⟩ : ByteArray), ((bZ l).size : Int)⟩ : WordD)] : (List WordD)).length ≤ 5864062014805 then
  some (b4 ++ ([(⟨(⟨#[]⟩ : ByteArray), ((bZ l).size : Int)⟩ : WordD)] : (List WordD)))
  else none) (fun b4 =>
  none) (by omega) (by omega) (by simp) (by simp) (fun c _ => .inr (.inl rfl))
 refine this.trans ?_
 have hlen := toksI_len l.length 0 0 l
 rw [List.drop_zero, List.nil_append, if_pos (by simp; omega), toksP_eq _ _ _ _ (Nat.le_refl _), List.map_append, zsz]
 simp [tk4T, w4T, bZ]
end Go.Proofs.YtfalbgflabajbaaDoor

namespace Go.Proofs.YtfalbgflabajbaaDoor
set_option linter.unusedSectionVars false
set_option linter.unusedSimpArgs false
set_option linter.unusedVariables false
theorem reader_any {T : List TokD} {tb off cap rb : Nat} (hT : Toks T) (f : Nat) : PartS T tb off cap rb f ∧ WholeS T tb off cap rb f ∧ PrefS T tb off cap rb f := by
 induction f using Nat.strongRecOn with
 | ind f ih =>
  cases f with
  | zero => exact ⟨fun W n deep _ _ _ h => absurd (by rw [parP]) h, fun W n deep _ _ _ h => absurd (by rw [whlP]) h, fun W n deep p _ _ _ h => absurd (by rw [prfP]) h⟩
  | succ f =>
   have hf := ih f (Nat.lt_succ_self f)
   exact ⟨part_step hT hf.2.1 hf.2.2, whole_step hT (fun g hg => (ih g (Nat.lt_succ_of_le hg)).1), pref_step hf.1⟩
theorem whole_any {T : List TokD} {tb off cap rb : Nat} (hT : Toks T) {f : Nat} (hf : 2 * T.length + 2 ≤ f) {W : World} (h : RdAt T tb off cap rb W 0 0) (h0 : 0 < T.length) : Calls Tryd.prog 11 #[.pointer (some ⟨rb, 0, none⟩)] W (PostP T tb off cap rb 0 W (whlP f 0 T)) := by
 have := (reader_any (tb := tb) (off := off) (cap := cap) (rb := rb) hT f).2.1 W 0 0 (by omega) h h0
 rw [List.drop_zero] at this
 exact this ((par_fuel f).2.1 0 T hf)
end Go.Proofs.YtfalbgflabajbaaDoor

namespace Go.Proofs.YtfalbgflabajbaaDoor
set_option linter.unusedSectionVars false
open Go.RowKit Go.Sort
set_option linter.unusedVariables false
set_option linter.unusedSimpArgs false
set_option maxRecDepth 100000
theorem ta_flt (v : Value) (w : World) : (Instr.typeAssert (.iface 34 v) 20 34 true).run Tryd.prog w = .ok (.tuple #[v, .bool true]) w := by kernel_rfl
theorem ne_flt (v : Value) (w : World) : (binOp .neq 20 (.iface 34 v) .nilIface).run Tryd.prog w = .ok (.bool true) w := by kernel_rfl
theorem ne_nil (w : World) : (binOp .neq 20 .nilIface .nilIface).run Tryd.prog w = .ok (.bool false) w := by kernel_rfl
theorem Box4.drew {w : World} {b : Nat} {v0 v1 v2 v3 : Value} (k : Box4 w b v0 v1 v2 v3) : Box4 w.drew b v0 v1 v2 v3 := k
theorem Box1.drew {w : World} {b : Nat} {v0 : Value} (k : Box1 w b v0) : Box1 w.drew b v0 := k
set_option maxHeartbeats 400000 in
theorem catch_p (n e : Int) {b0 b1 b2 base : Nat} {w : World} {v0 v1 v2 v3 u1 u2 : Value} (h01 : b0 ≠ b1) (h02 : b0 ≠ b2) (h12 : b1 ≠ b2) (B0 : Box4 w b0 v0 v1 v2 v3) (B1 : Box1 w b1 u1) (B2 : Box1 w b2 u2) (g0 : base ≤ b0) (g1 : base ≤ b1) (g2 : base ≤ b2) :
  CallsD Tryd.prog 9 #[.pointer (some ⟨b0, 0, none⟩), .pointer (some ⟨b1, 0, none⟩), .pointer (some ⟨b2, 0, none⟩)] (.panicking (flt n e)) w fun e' u' w' =>
   e' = .returned (.tuple #[]) ∧ u' = .panicking [{ v := .iface 34 (.agg #[.int .i64 n, .int .i64 e]), recovered := true }] ∧ (Box4 w' b0 (.int .i64 0) (.int .i64 0) (.int .i64 0) (.slice none 0 0) ∧ Box1 w' b1 (.int .i64 n) ∧ Box1 w' b2 (.int .i64 e)) ∧ Below base w w' := by
 unfold flt
 refine callsD_of_wpS Tryd.func9 rfl fun c₀ cs hu => ?_
 apply wpS_seq
 apply wpS_region
 simp [wpOpsS, go_sem, recoverD, hu, Tryd.ntmps9, Exit.thenS]
 have hta := ta_flt
 have hne := ne_flt
 refine wpS_of_wp ?_
 have ea : (#[Value.pointer (some ⟨b0, 0, none⟩), Value.pointer (some ⟨b1, 0, none⟩), Value.pointer (some ⟨b2, 0, none⟩)] : Array Value) ++ ((Array.replicate 19 undef).setIfInBounds 3 (Value.iface 34 (Value.agg #[Value.int IntKind.i64 n, Value.int IntKind.i64 e]))).setIfInBounds 0 (Value.iface 34 (Value.agg #[Value.int IntKind.i64 n, Value.int IntKind.i64 e])) = #[.pointer (some ⟨b0, 0, none⟩), .pointer (some ⟨b1, 0, none⟩), .pointer (some ⟨b2, 0, none⟩), (.iface 34 (.agg #[.int .i64 n, .int .i64 e])), undef, undef, (.iface 34 (.agg #[.int .i64 n, .int .i64 e])), undef, undef, undef, undef, undef, undef, undef, undef, undef, undef, undef, undef, undef, undef, undef] := by kernel_rfl
 rw [ea]
 go_wp2
 have BF := Box2.of (heap_last w (.cells #[.int .i64 n, .int .i64 e] 34))
 have hg := Gr.alloc (Gr.refl w) (.cells #[.int .i64 n, .int .i64 e] 34)
 have D0 := B0.mono hg
 have D1 := B1.mono hg
 have D2 := B2.mono hg
 have n0 : w.heap.size ≠ b0 := by have := B0.2.2; omega
 have n1 : w.heap.size ≠ b1 := by have := B1.2.2; omega
 have n2 : w.heap.size ≠ b2 := by have := B2.2.2; omega
 have hbl : Below base w (w.alloc (.cells #[.int .i64 n, .int .i64 e] 34)) := (Below.refl base w).alloc (by have := B0.2.2; omega) _
 generalize w.alloc (.cells #[.int .i64 n, .int .i64 e] 34) = W5 at *
 generalize w.heap.size = f at *
 clear B0 B1 B2 hg
 have DD := Lib.hid (And.intro D0 (And.intro D1 (And.intro D2 hbl)))
 obtain ⟨⟨c0, c1, c2, c3⟩, ⟨f0, f1, f2, f3⟩, hl0⟩ := D0
 obtain ⟨e0, e1, e2⟩ := D1
 obtain ⟨k0, k1, k2⟩ := D2
 obtain ⟨⟨x0, x1⟩, ⟨y0, y1⟩, hl5⟩ := BF
 go_region
 all_goals (
  obtain ⟨D0, D1, D2, hbl⟩ := DD.out
  refine ⟨rfl, _, rfl, .tuple #[], by simp [results, Tryd.results9, go_sem], rfl, rfl, ⟨?_, ?_, ?_⟩, ?_⟩
  ·exact Box4.drew (Box4.other (Box4.other (Box4.st3 (Box4.st2 (Box4.st1 (Box4.st0 D0 (u := .int .i64 0)) (u := .int .i64 0)) (u := .int .i64 0)) (u := .slice none 0 0)) (Ne.symm h01)) (Ne.symm h02))
  ·exact Box1.drew (Box1.other (Box1.st0 (Box1.other (Box1.other (Box1.other (Box1.other D1 (c := b0) (o := 0) (u := .int .i64 0) h01) (c := b0) (o := 1) (u := .int .i64 0) h01) (c := b0) (o := 2) (u := .int .i64 0) h01) (c := b0) (o := 3) (u := .slice none 0 0) h01) (u := .int .i64 n)) (Ne.symm h12))
  ·exact Box1.drew (Box1.st0 (Box1.other (Box1.other (Box1.other (Box1.other (Box1.other D2 (c := b0) (o := 0) (u := .int .i64 0) h02) (c := b0) (o := 1) (u := .int .i64 0) h02) (c := b0) (o := 2) (u := .int .i64 0) h02) (c := b0) (o := 3) (u := .slice none 0 0) h02) (c := b1) (o := 0) (u := .int .i64 n) h12) (u := .int .i64 e))
  ·exact Below.drew (((((((hbl).setCell (p := ⟨b0, 0, none⟩) g0 _).setCell (p := ⟨b0, 1, none⟩) g0 _).setCell (p := ⟨b0, 2, none⟩) g0 _).setCell (p := ⟨b0, 3, none⟩) g0 _).setCell (p := ⟨b1, 0, none⟩) g1 _).setCell (p := ⟨b2, 0, none⟩) g2 _))
theorem catch_r {b0 b1 b2 : Nat} (w : World) :
  CallsD Tryd.prog 9 #[.pointer (some ⟨b0, 0, none⟩), .pointer (some ⟨b1, 0, none⟩), .pointer (some ⟨b2, 0, none⟩)] .returning w fun e' u' w' => e' = .returned (.tuple #[]) ∧ u' = .returning ∧ w' = w := by
 refine callsD_of_wpS Tryd.func9 rfl fun c₀ cs hu => ?_
 apply wpS_seq
 apply wpS_region
 simp [wpOpsS, go_sem, recoverD, hu, Tryd.ntmps9, Exit.thenS]
 have hne := ne_nil
 have ea : (#[Value.pointer (some ⟨b0, 0, none⟩), Value.pointer (some ⟨b1, 0, none⟩), Value.pointer (some ⟨b2, 0, none⟩)] : Array Value) ++ ((Array.replicate 19 undef).setIfInBounds 3 Value.nilIface).setIfInBounds 0 Value.nilIface = #[.pointer (some ⟨b0, 0, none⟩), .pointer (some ⟨b1, 0, none⟩), .pointer (some ⟨b2, 0, none⟩), .nilIface, undef, undef, .nilIface, undef, undef, undef, undef, undef, undef, undef, undef, undef, undef, undef, undef, undef, undef, undef] := by kernel_rfl
 rw [ea]
 refine wpS_of_wp ?_
 go_wp2
 exact ⟨rfl, .returning, by rw [← hu], .tuple #[], by simp [results, Tryd.results9, go_sem], rfl, rfl, rfl⟩
end Go.Proofs.YtfalbgflabajbaaDoor

namespace Go.Proofs.YtfalbgflabajbaaDoor
set_option linter.unusedSectionVars false
open Go.RowKit Go.Sort
set_option linter.unusedVariables false
set_option linter.unusedSimpArgs false
set_option maxRecDepth 100000
theorem snd_at {n : FuncId} {m : List AV → Heap → Option (AV × Heap)} {avs : List AV} {r : AV} (hs : Sound Tryd.prog nmT n m) (hc : ∀ us w, (callFunc n us).run Tryd.prog w = .ok (.enter n us) w) {z : Z} (hnm : z.nm = nmT) (hE : z.E = []) (hl : ZLt z) {W : World} (hb : Below z.w.heap.size z.w W) {vs : Array Value} (hr : RepL (ctx z z.w [] nopb) avs vs.toList) (hm : m avs [] = some (r, [])) :
  Calls Tryd.prog n vs W fun e W' => ∃ v, e = .returned v ∧ Rep (ctx z W' [] nopb) r v ∧ Below W.heap.size W W' := by
 have hl' : ZLt ⟨W, [], z.X, z.nm⟩ := ⟨fun b k => Nat.lt_of_lt_of_le (hl b k) hb.size, hl.tab.to hb.size (fun b k _ => hb.block b k) fun b _ k => by
  rcases k with k | ⟨p, hp, _⟩
  ·exact .inl k
  ·cases hp⟩
 have hh0 : HeapRel (ctx ⟨W, [], z.X, z.nm⟩ W [] nopb) [] := by
  refine ⟨rfl, fun i j p q hp => ?_, fun i p x hp => ?_⟩
  ·simp [ctx] at hp
  ·simp [ctx] at hp
 have hr' : RepL (ctx ⟨W, [], z.X, z.nm⟩ W [] nopb) avs vs.toList := RepL.mono (grow_ext (z := z) (w := z.w) (w' := W) (E := []) (pb := nopb) hb) _ _ hr
 rcases hs _ _ _ _ hm with ⟨g, h1, h2⟩ | hv
 case inr =>
  obtain ⟨v, w', E', k1, _⟩ := hv ⟨W, [], z.X, z.nm⟩ vs hnm hl' hh0 hr'
  rw [hc] at k1
  injection k1 with k1
  cases k1
 have hg : g = n := by
  have e1 := h1 #[] W
  rw [hc #[] W] at e1
  injection e1 with e1
  injection e1 with e1
  exact e1.symm
 subst hg
 refine (h2 ⟨W, [], z.X, z.nm⟩ vs hnm hl' hh0 hr').mono ?_
 rintro e w' ⟨v, E', rfl, ho, hh, hv⟩
 have hE' : E' = [] := by have := hh.len; simpa [ctx] using this
 subst hE'
 exact ⟨v, rfl, hv, ho.os, ho.tape, ho.output, ho.size, fun k hk => ho.stay k hk (fun p hp => by cases hp)⟩
theorem es_nth {c : RC} {sz b : Nat} : ∀ {es : List (List AV)} {off k : Nat} {e : List AV}, RepEs c sz b off es → es[k]? = some e → RepCs c b (off + k * sz) e
 | [], off, k, e, _, h => by cases h
 | x :: es, off, 0, e, r, h => by
  simp only [RepEs] at r
  injection h with h
  subst h
  simpa using r.2.1
 | x :: es, off, k + 1, e, r, h => by
  simp only [RepEs] at r
  have := es_nth (k := k) r.2.2 (by simpa using h)
  rw [Nat.add_mul, Nat.one_mul, Nat.add_comm (k * sz) sz, ← Nat.add_assoc]
  exact this
theorem rep_nil {c : RC} : RepL c [] [] := by simp [RepL]
theorem rep_cons {c : RC} {a : AV} {l : List AV} {v : Value} {vs : List Value} (h : Rep c a v) (k : RepL c l vs) : RepL c (a :: l) (v :: vs) := by
 simp only [RepL]; exact ⟨v, vs, rfl, h, k⟩
end Go.Proofs.YtfalbgflabajbaaDoor

namespace Go.Proofs.YtfalbgflabajbaaDoor
set_option linter.unusedSectionVars false
open Go.RowKit Go.Sort
set_option linter.unusedVariables false
set_option linter.unusedSimpArgs false
mutual
theorem SvAt.rep {c : RC} {P : Nat → Prop} (hP : ∀ k, P k → k < c.w.heap.size → ¬ c.X k) : ∀ (p : PickD) (sv : Value), SvAt c.w P p sv → Rep c (.sl 4 (cPicks p.args)) sv
 | .mk k f t l, sv, h => by
  rw [SvAt] at h
  rcases h with ⟨rfl, rfl⟩ | ⟨b, cap, rfl, h2, h3, h4, h5, h6⟩
  ·simp [Rep, PickD.args, cPicks]
  ·simp only [Rep]
   have hl : (cPicks (PickD.mk k f t l).args).length = l.length := by rw [cPicks_eq, List.length_map]; rfl
   refine ⟨_, cap, by rw [hl], by rw [hl]; exact h2, by decide, .inr ⟨b, 0, rfl, h5, hP b h4 h5, ?_⟩⟩
   have := RwAt.rep hP b l 0 h6
   rwa [Nat.zero_mul] at this
theorem RwAt.rep {c : RC} {P : Nat → Prop} (hP : ∀ k, P k → k < c.w.heap.size → ¬ c.X k) (b : Nat) : ∀ (l : List PickD) (i : Nat), RwAt c.w P b i l → RepEs c 4 b (i * 4) (cPicks l)
 | [], _, _ => by rw [cPicks]; simp [RepEs]
 | p :: l, i, h => by
  rw [RwAt] at h
  rw [cPicks]
  simp only [RepEs]
  obtain ⟨⟨a0, a1, a2, sv, a3, a4⟩, h2⟩ := h
  refine ⟨cPick_len p, ?_, by have := RwAt.rep hP b l (i + 1) h2; rwa [show (i + 1) * 4 = i * 4 + 4 by omega] at this⟩
  have h4 := SvAt.rep hP p sv a4
  obtain ⟨a, n, cc, rfl⟩ := svAt_shape a4
  rw [cPick_eq]
  simp only [RepCs]
  refine ⟨⟨_, a0, rfl, by simp [Rep]⟩, ⟨_, a1, rfl, by simp [Rep]⟩, ⟨_, a2, rfl, by simp [Rep]⟩, ⟨_, a3, rfl, ?_⟩, trivial⟩
  rw [cPicks_eq] at h4
  exact h4
end
theorem SvAt.agg {c : RC} {P : Nat → Prop} (hP : ∀ k, P k → k < c.w.heap.size → ¬ c.X k) {p : PickD} {sv : Value} (h : SvAt c.w P p sv) : Rep c (.agg (cPick p)) (.agg #[.int .i64 p.kind, .int .i64 p.frm, .int .i64 p.to, sv]) := by
 have h4 := SvAt.rep hP p sv h
 obtain ⟨a, n, cc, rfl⟩ := svAt_shape h
 rw [cPicks_eq] at h4
 rw [Rep]
 refine ⟨_, rfl, ?_, fun x hx => ?_⟩
 ·rw [cPick_eq]
  exact rep_cons (by simp [Rep]) (rep_cons (by simp [Rep]) (rep_cons (by simp [Rep]) (rep_cons h4 rep_nil)))
 ·simp at hx
  rcases hx with rfl | rfl | rfl | rfl <;> rfl
theorem rd_of {c : RC} {T : List TokD} {v : Value} (hT : 0 < T.length) (h : Rep c (sl 3 cToken (T.map tkT)) v) : ∃ tb off cap, v = .slice (some ⟨tb, off, none⟩) T.length cap ∧ tb < c.w.heap.size ∧ ∀ (i : Nat) (t : TokD), T[i]? = some t → c.w.cell? ⟨tb, off + i * 3, none⟩ = some (.string (bZ t.text)) ∧ c.w.cell? ⟨tb, off + i * 3 + 1, none⟩ = some (.int .i64 t.pos) ∧ c.w.cell? ⟨tb, off + i * 3 + 2, none⟩ = some (.bool t.touch) := by
 have h' := h
 unfold sl at h'
 rw [Rep] at h'
 obtain ⟨a, cap, rfl, h2, h3, h4⟩ := h'
 have hlen : ((T.map tkT).map cToken).length = T.length := by simp
 rcases h4 with h4 | ⟨b, off, rfl, h5, h6, h7⟩
 ·rw [h4] at hlen; simp at hlen; omega
 refine ⟨b, off, cap, by rw [hlen], h5, fun i t ht => ?_⟩
 have hc := es_nth (k := i) h7 (e := cToken (tkT t)) (by simp [ht])
 unfold cToken tkT at hc
 simp only [RepCs, Rep] at hc
 obtain ⟨⟨v0, c0, _, e0⟩, ⟨v1, c1, _, e1⟩, ⟨v2, c2, _, e2⟩, _⟩ := hc
 subst e0 e1 e2
 exact ⟨c0, c1, c2⟩
theorem toks_ok {l : List UInt8} (hl : l.length ≤ 4000) : Toks (toksP l.length 0 0 l) := by
 rw [toksP_eq _ _ _ _ (Nat.le_refl _)]
 have h1 := toksI_len l.length 0 0 l
 have h2 : ∀ (f pos prev : Nat) (r : List UInt8) (t : TokD), t ∈ toksI f pos prev r → t.text.length ≤ r.length := by
  intro f
  induction f with
  | zero => intro pos prev r t ht; cases r <;> simp [toksI] at ht
  | succ f ih =>
   intro pos prev r t ht
   cases r with
   | nil => simp [toksI] at ht
   | cons b r =>
    rw [toksI] at ht
    split at ht
    ·have := ih _ _ _ _ ht; simp only [List.length_cons]; omega
    ·rcases List.mem_cons.1 ht with rfl | ht
     ·show (List.take (runB b r + 1) (b :: r)).length ≤ _
      rw [List.length_take]; exact Nat.min_le_right _ _
     ·have := ih _ _ _ _ ht
      rw [List.length_drop] at this
      simp only [List.length_cons]; omega
 refine ⟨by simp only [List.length_append, List.length_cons, List.length_nil]; omega, fun t ht => ?_, _, _, rfl⟩
 rcases List.mem_append.1 ht with ht | ht
 ·have := h2 _ _ _ _ _ ht; omega
 ·rw [List.mem_singleton.1 ht]; exact Nat.zero_le _
theorem toks_len {l : List UInt8} : 0 < (toksP l.length 0 0 l).length ∧ (toksP l.length 0 0 l).length ≤ l.length + 1 := by
 rw [toksP_eq _ _ _ _ (Nat.le_refl _)]
 have h1 := toksI_len l.length 0 0 l
 simp only [List.length_append, List.length_cons, List.length_nil]
 omega
theorem snd_there {n : FuncId} {m : List AV → Heap → Option (AV × Heap)} {avs : List AV} {r : AV} (hs : Sound Tryd.prog nmT n m) (hc : ∀ us w, (callFunc n us).run Tryd.prog w = .ok (.enter n us) w) {z : Z} (hnm : z.nm = nmT) (hE : z.E = []) (hl : ZLt z) {W : World} (hb : Below z.w.heap.size z.w W) {vs : Array Value} (hr : RepL (ctx ⟨W, [], z.X, z.nm⟩ W [] nopb) avs vs.toList) (hm : m avs [] = some (r, [])) :
  Calls Tryd.prog n vs W fun e W' => ∃ v, e = .returned v ∧ Rep (ctx z W' [] nopb) r v ∧ Below W.heap.size W W' :=
 snd_at (z := ⟨W, [], z.X, z.nm⟩) hs hc hnm rfl ⟨fun b k => Nat.lt_of_lt_of_le (hl b k) hb.size, hl.tab.to hb.size (fun b k _ => hb.block b k) fun b _ k => by
  rcases k with k | ⟨p, hp, _⟩
  ·exact .inl k
  ·cases hp⟩ (Below.refl _ _) hr hm
end Go.Proofs.YtfalbgflabajbaaDoor

namespace Go.Proofs.YtfalbgflabajbaaDoor
set_option linter.unusedSectionVars false
open Go.RowKit Go.Sort
set_option linter.unusedVariables false
set_option linter.unusedSimpArgs false
set_option maxRecDepth 100000
def PsR (w w' : World) (e : Ending) (p : PickD) (at_ ft : Int) : Prop := ∃ sv, e = .returned (.tuple #[.agg #[.int .i64 p.kind, .int .i64 p.frm, .int .i64 p.to, sv], .int .i64 at_, .int .i64 ft]) ∧ SvAt w' (fun k => w.heap.size ≤ k) p sv ∧ Below w.heap.size w w'
theorem ps_long {w : World} {s : ByteArray} (hs : 4000 < s.size) : Calls Tryd.prog 5 #[.string s] w fun e w' => PsR w w' e (.mk 0 0 0 []) 0 2 := by
 have hi : (4000 : Int) < (s.size : Int) := by omega
 go_enter_defers Tryd.func5, Tryd.ntmps5
 go_wp2
 refine ⟨.tuple #[.agg #[.int .i64 0, .int .i64 0, .int .i64 0, .slice none 0 0], .int .i64 0, .int .i64 2], by simp [results, Tryd.results5, go_sem], _, rfl, svAt_leaf _ _ _ _ _, ?_⟩
 exact (((Below.refl _ _).alloc (Nat.le_refl _) _).alloc (by simp) _).alloc (by simp; omega) _
theorem bZ_l (s : ByteArray) : s = bZ (lZ s) := by
 apply ByteArray.ext
 simp [bZ]
theorem fin6 {base b0 b1 b2 : Nat} {w W : World} {x0 x1 x2 x3 y1 y2 : Value} (B0 : Box4 W b0 x0 x1 x2 x3) (B1 : Box1 W b1 y1) (B2 : Box1 W b2 y2) (h01 : b0 ≠ b1) (h02 : b0 ≠ b2) (h12 : b1 ≠ b2) (g0 : base ≤ b0) (g1 : base ≤ b1) (g2 : base ≤ b2) (hb : Below base w W) (v0 v1 v2 v3 u1 u2 : Value) :
  ∃ W9, ((((((W.setCell ⟨b0, 0, none⟩ v0).setCell ⟨b0, 1, none⟩ v1).setCell ⟨b0, 2, none⟩ v2).setCell ⟨b0, 3, none⟩ v3).setCell ⟨b1, 0, none⟩ u1).setCell ⟨b2, 0, none⟩ u2) = W9 ∧ Box4 W9 b0 v0 v1 v2 v3 ∧ Box1 W9 b1 u1 ∧ Box1 W9 b2 u2 ∧ Below base w W9 ∧ (∀ k, k ≠ b0 → k ≠ b1 → k ≠ b2 → W9.heap[k]? = W.heap[k]?) ∧ W9.heap.size = W.heap.size := by
 refine ⟨_, rfl, ?_, ?_, ?_, ?_, ?_, ?_⟩
 ·exact Box4.other (Box4.other (Box4.st3 (Box4.st2 (Box4.st1 (Box4.st0 B0)))) (Ne.symm h01)) (Ne.symm h02)
 ·exact Box1.other (Box1.st0 (Box1.other (Box1.other (Box1.other (Box1.other B1 h01) h01) h01) h01)) (Ne.symm h12)
 ·exact Box1.st0 (Box1.other (Box1.other (Box1.other (Box1.other (Box1.other B2 h02) h02) h02) h02) h12)
 ·exact (((((hb.setCell (p := ⟨b0, 0, none⟩) g0 _).setCell (p := ⟨b0, 1, none⟩) g0 _).setCell (p := ⟨b0, 2, none⟩) g0 _).setCell (p := ⟨b0, 3, none⟩) g0 _).setCell (p := ⟨b1, 0, none⟩) g1 _).setCell (p := ⟨b2, 0, none⟩) g2 _
 ·intro k h0 h1 h2
  rw [heap_setCell_ne _ (Ne.symm h2), heap_setCell_ne _ (Ne.symm h1), heap_setCell_ne _ (Ne.symm h0), heap_setCell_ne _ (Ne.symm h0), heap_setCell_ne _ (Ne.symm h0), heap_setCell_ne _ (Ne.symm h0)]
 ·simp
theorem lZ_bZl (l : List UInt8) : lZ (bZ l) = l := by simp [lZ, bZ]
set_option maxHeartbeats 1000000 in
theorem ps_walk {z : Z} (hnm : z.nm = nmT) (hE : z.E = []) (hl : ZLt z) {l : List UInt8} (hs : l.length ≤ 4000) {r : AV} (hm : m_pick_Parse [.str (bZ l)] [] = some (r, [])) :
  Calls Tryd.prog 5 #[.string (bZ l)] z.w fun e w' => ∃ p a f, r = prT p a f ∧ PsR z.w w' e p a f := by
 have hT := toks_ok hs
 have hlen := toks_len (l := l)
 have hw : m_pick_words [.str (bZ l)] [] = some (sl 3 cToken ((toksP l.length 0 0 l).map tkT), []) := h_pick_words (words_t hs)
 have hsz : (bZ l).size = l.length := zsz l
 have hi : ¬ (4000 : Int) < ((bZ l).size : Int) := by rw [hsz]; omega
 have hm2 : (match prS l with
  | .ok p _ => prE p
  | .bad n => some (prT (.mk 0 0 0 []) n 9, [])
  | .large => some (prT (.mk 0 0 0 []) 0 2, [])
  | .out => none) = some (r, []) := by
  have := hm
  unfold m_pick_Parse A.ar1 at this
  simp only at this
  rw [if_neg (by rw [hsz]; omega), lZ_bZl] at this
  exact this
 clear hm
 unfold prS at hm2
 generalize hTT : toksP l.length 0 0 l = T at *
 have hb1 : Below z.w.heap.size z.w (((z.w.alloc (.cells #[.int .i64 0, .int .i64 0, .int .i64 0, .slice none 0 0] 24)).alloc (.cells #[.int .i64 0] 3)).alloc (.cells #[.int .i64 0] 25)) := (((Below.refl _ _).alloc (Nat.le_refl _) _).alloc (by simp) _).alloc (by simp; omega) _
 have k0 : (((z.w.alloc (.cells #[.int .i64 0, .int .i64 0, .int .i64 0, .slice none 0 0] 24)).alloc (.cells #[.int .i64 0] 3)).alloc (.cells #[.int .i64 0] 25)).heap[z.w.heap.size]? = some (.cells #[.int .i64 0, .int .i64 0, .int .i64 0, .slice none 0 0] 24 (0, 0)) := heap_old _ _ _ _ (by simp; omega) (heap_old _ _ _ _ (by simp) (heap_last _ _))
 have k1 : (((z.w.alloc (.cells #[.int .i64 0, .int .i64 0, .int .i64 0, .slice none 0 0] 24)).alloc (.cells #[.int .i64 0] 3)).alloc (.cells #[.int .i64 0] 25)).heap[z.w.heap.size + 1]? = some (.cells #[.int .i64 0] 3 (0, 0)) := heap_old _ _ _ _ (by simp) (heap_at _ _ _ (by simp))
 have k2 : (((z.w.alloc (.cells #[.int .i64 0, .int .i64 0, .int .i64 0, .slice none 0 0] 24)).alloc (.cells #[.int .i64 0] 3)).alloc (.cells #[.int .i64 0] 25)).heap[z.w.heap.size + 1 + 1]? = some (.cells #[.int .i64 0] 25 (0, 0)) := heap_at _ _ _ (by simp)
 have HW := Lib.hid (snd_at s_pick_words Tryd.call10 hnm hE hl hb1 (vs := #[.string (bZ l)]) (rep_cons (by simp only [Rep]) rep_nil) hw)
 have hmf : ∀ (fn : Fn) (first cap : Array Value) (w : World), (Instr.makeFunc fn first cap).run Tryd.prog w = .ok (.func fn first cap) w := fun _ _ _ _ => rfl
 have hsp : (((z.w.alloc (.cells #[.int .i64 0, .int .i64 0, .int .i64 0, .slice none 0 0] 24)).alloc (.cells #[.int .i64 0] 3)).alloc (.cells #[.int .i64 0] 25)).heap.size = z.w.heap.size + 3 := by simp
 have HK := Lib.hid (And.intro k0 (And.intro k1 (And.intro k2 (And.intro hb1 hsp))))
 clear k0 k1 k2 hb1 hsp
 go_enter_defers Tryd.func5, Tryd.ntmps5
 go_wp2_with fail
 refine HW.out.mono ?_
 rintro e W2 ⟨v, rfl, hv, hbw⟩
 obtain ⟨tb, off, cap, rfl, htb, hcells⟩ := rd_of (by omega) hv
 replace htb : tb < W2.heap.size := htb
 obtain ⟨k0, k1, k2, hb1, hsp⟩ := HK.out
 replace k0 := (hbw.block _ (by rw [hsp]; omega)).trans k0
 replace k1 := (hbw.block _ (by rw [hsp]; omega)).trans k1
 replace k2 := (hbw.block _ (by rw [hsp]; omega)).trans k2
 have hz2 := hbw.size
 rw [hsp] at hz2
 replace hb1 : Below z.w.heap.size z.w W2 := hb1.trans (hbw.mono (by rw [hsp]; omega))
 clear HK HW hv hbw hsp
 have HK := Lib.hid (And.intro k0 (And.intro k1 (And.intro k2 (And.intro hb1 (And.intro hcells hz2)))))
 clear k0 k1 k2 hb1 hcells
 go_wp2_with fail
 obtain ⟨k0, k1, k2, hb1, hcells, hz2⟩ := HK.out
 clear HK
 have htb0 : tb ≠ z.w.heap.size := by
  intro e
  have h0 := (hcells 0 _ (List.getElem?_eq_getElem (by omega))).1
  rw [e] at h0
  have h0' := (Lib.cell_of_heap k0 (off + 0 * 3)).symm.trans h0
  rcases (by omega : off = 0 ∨ off = 1 ∨ off = 2 ∨ off = 3 ∨ 4 ≤ off) with rfl | rfl | rfl | rfl | h4
  ·cases h0'
  ·cases h0'
  ·cases h0'
  ·cases h0'
  ·rw [Array.getElem?_eq_none (by simp; omega)] at h0'; cases h0'
 have hRd : RdAt T tb off cap W2.heap.size (W2.alloc (.cells #[.slice (some ⟨tb, off, none⟩) T.length cap, .int .i64 0, .int .i64 0] 40)) 0 0 := ⟨Box3.of (heap_last _ _), by omega, fun i t ht => by
  obtain ⟨a, b, c⟩ := hcells i t ht
  have g := Gr.alloc (Gr.refl W2) (.cells #[.slice (some ⟨tb, off, none⟩) T.length cap, .int .i64 0, .int .i64 0] 40)
  exact ⟨g.cell a, g.cell b, g.cell c⟩⟩
 have hWh := whole_any hT (f := 2 * l.length + 10) (by omega) hRd (by omega)
 have B0 := (Box4.of k0).mono (Gr.alloc (Gr.refl W2) (.cells #[.slice (some ⟨tb, off, none⟩) T.length cap, .int .i64 0, .int .i64 0] 40))
 have B1 := (Box1.of k1).mono (Gr.alloc (Gr.refl W2) (.cells #[.slice (some ⟨tb, off, none⟩) T.length cap, .int .i64 0, .int .i64 0] 40))
 have B2 := (Box1.of k2).mono (Gr.alloc (Gr.refl W2) (.cells #[.slice (some ⟨tb, off, none⟩) T.length cap, .int .i64 0, .int .i64 0] 40))
 have hb3 : Below z.w.heap.size z.w (W2.alloc (.cells #[.slice (some ⟨tb, off, none⟩) T.length cap, .int .i64 0, .int .i64 0] 40)) := hb1.alloc (by omega) _
 clear k0 k1 k2 hb1 hcells
 have hsz3 : (W2.alloc (.cells #[.slice (some ⟨tb, off, none⟩) T.length cap, .int .i64 0, .int .i64 0] 40)).heap.size = W2.heap.size + 1 := by simp
 generalize W2.alloc (.cells #[.slice (some ⟨tb, off, none⟩) T.length cap, .int .i64 0, .int .i64 0] 40) = W3 at *
 generalize W2.heap.size = rb at *
 have gx : ∀ W4, GrX rb W3 W4 → Below z.w.heap.size z.w W4 := fun W4 hX => hb3.trans ⟨hX.os, hX.tape, hX.output, hX.size, fun k hk => hX.block k (by omega) (by omega)⟩
 have gb1 : ∀ {W4 : World} {b : Nat} {v : Value}, GrX rb W3 W4 → b ≠ rb → Box1 W3 b v → Box1 W4 b v := fun {W4} {b} {v} hX hne k => by
  obtain ⟨h1, h2, h3⟩ := k
  have e := hX.block b h3 hne
  refine ⟨?_, ?_, Nat.lt_of_lt_of_le h3 hX.size⟩
  ·rw [← h1]; simp only [World.cell?, e]
  ·rw [← h2]; simp only [World.frozen?, e]
 cases hq : whlP (2 * l.length + 10) 0 T with
 | out => rw [hq] at hm2; cases hm2
 | bad n =>
  rw [hq] at hm2 hWh
  refine hWh.mono ?_
  rintro e W4 ⟨rfl, hX⟩
  replace B0 := Box4.grx B0 hX (by omega)
  replace B1 := gb1 hX (by omega) B1
  replace B2 := gb1 hX (by omega) B2
  replace hb3 := gx _ hX
  injection hm2 with hm2
  injection hm2 with hm2 _
  clear gx gb1 hWh hX hRd
  go_wp2_with fail
  (refine leaves_cons (f := 9) (args := #[.pointer (some ⟨z.w.heap.size, 0, none⟩), .pointer (some ⟨z.w.heap.size + 1, 0, none⟩), .pointer (some ⟨z.w.heap.size + 1 + 1, 0, none⟩)]) (by simp) (by simp [go_sem]) ?_; refine (catch_p _ _ (base := z.w.heap.size) (by omega) (by omega) (by omega) B0 B1 B2 (Nat.le_refl _) (by omega) (by omega)).mono ?_; rintro e' u' w9 ⟨rfl, rfl, ⟨⟨⟨c0, c1, c2, c3⟩, _, _⟩, ⟨c4, _, _⟩, ⟨c5, _, _⟩⟩, hbl⟩; simp only [settle, List.dropWhile_nil, Leaves])
  exact ⟨.tuple #[.agg #[.int .i64 0, .int .i64 0, .int .i64 0, .slice none 0 0], .int .i64 n, .int .i64 9], by simp [results, Tryd.results5, go_sem, c0, c1, c2, c3, c4, c5], .mk 0 0 0 [], n, 9, hm2.symm, _, rfl, svAt_leaf _ _ _ _ _, hb3.trans hbl⟩
 | large =>
  rw [hq] at hm2 hWh
  refine hWh.mono ?_
  rintro e W4 ⟨rfl, hX⟩
  replace B0 := Box4.grx B0 hX (by omega)
  replace B1 := gb1 hX (by omega) B1
  replace B2 := gb1 hX (by omega) B2
  replace hb3 := gx _ hX
  injection hm2 with hm2
  injection hm2 with hm2 _
  clear gx gb1 hWh hX hRd
  go_wp2_with fail
  (refine leaves_cons (f := 9) (args := #[.pointer (some ⟨z.w.heap.size, 0, none⟩), .pointer (some ⟨z.w.heap.size + 1, 0, none⟩), .pointer (some ⟨z.w.heap.size + 1 + 1, 0, none⟩)]) (by simp) (by simp [go_sem]) ?_; refine (catch_p _ _ (base := z.w.heap.size) (by omega) (by omega) (by omega) B0 B1 B2 (Nat.le_refl _) (by omega) (by omega)).mono ?_; rintro e' u' w9 ⟨rfl, rfl, ⟨⟨⟨c0, c1, c2, c3⟩, _, _⟩, ⟨c4, _, _⟩, ⟨c5, _, _⟩⟩, hbl⟩; simp only [settle, List.dropWhile_nil, Leaves])
  exact ⟨.tuple #[.agg #[.int .i64 0, .int .i64 0, .int .i64 0, .slice none 0 0], .int .i64 0, .int .i64 2], by simp [results, Tryd.results5, go_sem, c0, c1, c2, c3, c4, c5], .mk 0 0 0 [], 0, 2, hm2.symm, _, rfl, svAt_leaf _ _ _ _ _, hb3.trans hbl⟩
 | ok p l2 =>
  rw [hq] at hm2 hWh
  refine hWh.mono ?_
  rintro e W4 ⟨v, n', rfl, hl2, hn', hX, hR, sv, rfl, hS⟩
  obtain ⟨sa, sn, sc, rfl⟩ := svAt_shape hS
  replace B0 := Box4.grx B0 hX (by omega)
  replace B1 := gb1 hX (by omega) B1
  replace B2 := gb1 hX (by omega) B2
  have hsz4 := hX.size
  replace hb3 := gx _ hX
  clear gx gb1 hWh hX hRd
  -- the selection is laid into its variable
  have E0 := Box4.st3 (Box4.st2 (Box4.st1 (Box4.st0 B0 (u := .int .i64 p.kind)) (u := .int .i64 p.frm)) (u := .int .i64 p.to)) (u := .slice sa sn sc)
  have E1 := Box1.other (Box1.other (Box1.other (Box1.other B1 (c := z.w.heap.size) (o := 0) (u := .int .i64 p.kind) (by omega)) (c := z.w.heap.size) (o := 1) (u := .int .i64 p.frm) (by omega)) (c := z.w.heap.size) (o := 2) (u := .int .i64 p.to) (by omega)) (c := z.w.heap.size) (o := 3) (u := .slice sa sn sc) (by omega)
  have E2 := Box1.other (Box1.other (Box1.other (Box1.other B2 (c := z.w.heap.size) (o := 0) (u := .int .i64 p.kind) (by omega)) (c := z.w.heap.size) (o := 1) (u := .int .i64 p.frm) (by omega)) (c := z.w.heap.size) (o := 2) (u := .int .i64 p.to) (by omega)) (c := z.w.heap.size) (o := 3) (u := .slice sa sn sc) (by omega)
  have ER := (((hR.other (b := z.w.heap.size) (o := 0) (u := .int .i64 p.kind) (by omega) (by omega)).other (b := z.w.heap.size) (o := 1) (u := .int .i64 p.frm) (by omega) (by omega)).other (b := z.w.heap.size) (o := 2) (u := .int .i64 p.to) (by omega) (by omega)).other (b := z.w.heap.size) (o := 3) (u := .slice sa sn sc) (by omega) (by omega)
  have Eb : Below z.w.heap.size z.w ((((W4.setCell ⟨z.w.heap.size, 0, none⟩ (.int .i64 p.kind)).setCell ⟨z.w.heap.size, 1, none⟩ (.int .i64 p.frm)).setCell ⟨z.w.heap.size, 2, none⟩ (.int .i64 p.to)).setCell ⟨z.w.heap.size, 3, none⟩ (.slice sa sn sc)) := (((hb3.setCell (p := ⟨z.w.heap.size, 0, none⟩) (Nat.le_refl _) _).setCell (p := ⟨z.w.heap.size, 1, none⟩) (Nat.le_refl _) _).setCell (p := ⟨z.w.heap.size, 2, none⟩) (Nat.le_refl _) _).setCell (p := ⟨z.w.heap.size, 3, none⟩) (Nat.le_refl _) _
  have ES : SvAt ((((W4.setCell ⟨z.w.heap.size, 0, none⟩ (.int .i64 p.kind)).setCell ⟨z.w.heap.size, 1, none⟩ (.int .i64 p.frm)).setCell ⟨z.w.heap.size, 2, none⟩ (.int .i64 p.to)).setCell ⟨z.w.heap.size, 3, none⟩ (.slice sa sn sc)) (fun k => z.w.heap.size + 3 ≤ k) p (.slice sa sn sc) := SvAt.mono (by simp) (fun k hk1 hk2 => by
   have := hk1.1
   rw [heap_setCell_ne _ (by omega), heap_setCell_ne _ (by omega), heap_setCell_ne _ (by omega), heap_setCell_ne _ (by omega)]) (fun k hk1 _ => by have := hk1.1; omega) p _ hS
  obtain ⟨⟨q0, q1, q2, q3⟩, ⟨f0, f1, f2, f3⟩, hlt0⟩ := B0
  clear B1 B2 hR hS hb3
  have hEE := Lib.hid (And.intro E0 (And.intro E1 (And.intro E2 (And.intro ER (And.intro Eb ES)))))
  clear E0 E1 E2 ER Eb ES
  go_wp2_with fail
  obtain ⟨E0, E1, E2, ER, Eb, ES⟩ := hEE.out
  obtain ⟨t, ht⟩ : ∃ t, T[n']? = some t := ⟨_, List.getElem?_eq_getElem hn'⟩
  have hpk := peek_any ER ht hT.len
  generalize (((W4.setCell ⟨z.w.heap.size, 0, none⟩ (.int .i64 p.kind)).setCell ⟨z.w.heap.size, 1, none⟩ (.int .i64 p.frm)).setCell ⟨z.w.heap.size, 2, none⟩ (.int .i64 p.to)).setCell ⟨z.w.heap.size, 3, none⟩ (.slice sa sn sc) = W5 at *
  clear hEE q0 q1 q2 q3 f0 f1 f2 f3
  refine hpk.mono ?_
  rintro e W6 ⟨rfl, hg6⟩
  have B0 := E0.mono hg6
  have B1 := E1.mono hg6
  have B2 := E2.mono hg6
  have BR := ER.mono hg6
  have hb6 : Below z.w.heap.size z.w W6 := Eb.trans (hg6.mono Eb.size)
  have S6 : SvAt W6 (fun k => z.w.heap.size + 3 ≤ k) p (.slice sa sn sc) := SvAt.mono hg6.size (fun k _ hk => hg6.block k hk) (fun k hk _ => hk) p _ ES
  clear E0 E1 E2 ER Eb ES hpk
  have hp : posP l2 = t.pos := by rw [hl2, drop_at ht]; rfl
  rw [hp] at hm2
  have hf := fld_tok
  by_cases hlt : t.pos < l.length
  ·have hi2 : ((t.pos : Int) < ((bZ l).size : Int)) := by rw [hsz]; omega
   simp only [if_pos hlt] at hm2
   injection hm2 with hm2
   injection hm2 with hm2 _
   have hrf := refuse_any BR ht hT.len
   go_wp2_with fail
   refine hrf.mono ?_
   rintro e W7 ⟨rfl, hg7⟩
   replace B0 := B0.mono hg7
   replace B1 := B1.mono hg7
   replace B2 := B2.mono hg7
   replace hb6 : Below z.w.heap.size z.w W7 := hb6.trans (hg7.mono hb6.size)
   clear hrf BR S6
   go_wp2_with fail
   (refine leaves_cons (f := 9) (args := #[.pointer (some ⟨z.w.heap.size, 0, none⟩), .pointer (some ⟨z.w.heap.size + 1, 0, none⟩), .pointer (some ⟨z.w.heap.size + 1 + 1, 0, none⟩)]) (by simp) (by simp [go_sem]) ?_; refine (catch_p _ _ (base := z.w.heap.size) (by omega) (by omega) (by omega) B0 B1 B2 (Nat.le_refl _) (by omega) (by omega)).mono ?_; rintro e' u' w9 ⟨rfl, rfl, ⟨⟨⟨c0, c1, c2, c3⟩, _, _⟩, ⟨c4, _, _⟩, ⟨c5, _, _⟩⟩, hbl⟩; simp only [settle, List.dropWhile_nil, Leaves])
   exact ⟨.tuple #[.agg #[.int .i64 0, .int .i64 0, .int .i64 0, .slice none 0 0], .int .i64 t.pos, .int .i64 9], by simp [results, Tryd.results5, go_sem, c0, c1, c2, c3, c4, c5], .mk 0 0 0 [], t.pos, 9, hm2.symm, _, rfl, svAt_leaf _ _ _ _ _, hb6.trans hbl⟩
  ·have hi2 : ¬ ((t.pos : Int) < ((bZ l).size : Int)) := by rw [hsz]; omega
   simp only [if_neg hlt] at hm2
   unfold prE at hm2
   obtain ⟨q, hq2, hm3⟩ := Option.bind_eq_some_iff.1 hm2
   split at hm3
   case h_2 => cases hm3
   rename_i e
   have hc := snd_there s_pick_Check Tryd.call14 hnm hE hl hb6 (vs := #[.agg #[.int .i64 p.kind, .int .i64 p.frm, .int .i64 p.to, .slice sa sn sc]]) (rep_cons (SvAt.agg (c := ctx ⟨W6, [], z.X, z.nm⟩ W6 [] nopb) (fun k hk _ hx => by
    rcases hx with hx | ⟨_, hx, _⟩ | ⟨_, hx⟩
    ·have := hl k hx; omega
    ·cases hx
    ·cases hx) S6) rep_nil) hq2
   have hC := Lib.hid hc
   have K0 := B0
   obtain ⟨⟨q0, q1, q2, q3⟩, _, hlt0⟩ := K0
   clear hc BR hm2 hq2
   go_wp2_with fail
   refine hC.out.mono ?_
   rintro e' W7 ⟨v, rfl, hv, hb7⟩
   simp only [Rep] at hv
   subst hv
   replace B0 := B0.mono hb7
   replace B1 := B1.mono hb7
   replace B2 := B2.mono hb7
   replace hb6 : Below z.w.heap.size z.w W7 := hb6.trans (hb7.mono hb6.size)
   have S7 : SvAt W7 (fun k => z.w.heap.size + 3 ≤ k) p (.slice sa sn sc) := SvAt.mono hb7.size (fun k _ hk => hb7.block k hk) (fun k hk _ => hk) p _ S6
   clear S6 hC q0 q1 q2 q3
   have hBB := Lib.hid (And.intro B0 (And.intro B1 (And.intro B2 (And.intro hb6 S7))))
   obtain ⟨⟨q0, q1, q2, q3⟩, ⟨f0, f1, f2, f3⟩, hlt0⟩ := B0
   obtain ⟨q4, f4, _⟩ := B1
   obtain ⟨q5, f5, _⟩ := B2
   clear hb6 S7 hb7
   by_cases he : e = 0
   ·subst he
    rw [if_pos rfl] at hm3
    injection hm3 with hm3
    injection hm3 with hm3 _
    go_wp2_with fail
    obtain ⟨D0, D1, D2, hb6, S7⟩ := hBB.out
    obtain ⟨W9, hW9, F0, F1, F2, hbl, hk9, hs9⟩ := fin6 D0 D1 D2 (by omega) (by omega) (by omega) (Nat.le_refl _) (by omega) (by omega) hb6 (.int .i64 p.kind) (.int .i64 p.frm) (.int .i64 p.to) (.slice sa sn sc) (.int .i64 0) (.int .i64 0)
    rw [hW9]
    obtain ⟨⟨c0, c1, c2, c3⟩, _, _⟩ := F0
    obtain ⟨c4, _, _⟩ := F1
    obtain ⟨c5, _, _⟩ := F2
    (refine leaves_cons (f := 9) (args := #[.pointer (some ⟨z.w.heap.size, 0, none⟩), .pointer (some ⟨z.w.heap.size + 1, 0, none⟩), .pointer (some ⟨z.w.heap.size + 1 + 1, 0, none⟩)]) (by simp) (by simp [go_sem]) ?_; refine (catch_r _).mono ?_; rintro e' u' w9 ⟨rfl, rfl, rfl⟩; simp only [settle, Leaves])
    exact ⟨.tuple #[.agg #[.int .i64 p.kind, .int .i64 p.frm, .int .i64 p.to, .slice sa sn sc], .int .i64 0, .int .i64 0], by simp [results, Tryd.results5, go_sem, c0, c1, c2, c3, c4, c5], p, 0, 0, hm3.symm, _, rfl, SvAt.mono (by omega) (fun k hk _ => hk9 k (by omega) (by omega) (by omega)) (fun k hk _ => by omega) p _ S7, hbl⟩
   ·rw [if_neg he] at hm3
    injection hm3 with hm3
    injection hm3 with hm3 _
    have hne : (e != 0) = true := by simpa using he
    go_wp2_with fail
    obtain ⟨D0, D1, D2, hb6, S7⟩ := hBB.out
    obtain ⟨W9, hW9, F0, F1, F2, hbl, hk9, hs9⟩ := fin6 D0 D1 D2 (by omega) (by omega) (by omega) (Nat.le_refl _) (by omega) (by omega) hb6 (.int .i64 0) (.int .i64 0) (.int .i64 0) (.slice none 0 0) (.int .i64 0) (.int .i64 e)
    rw [hW9]
    obtain ⟨⟨c0, c1, c2, c3⟩, _, _⟩ := F0
    obtain ⟨c4, _, _⟩ := F1
    obtain ⟨c5, _, _⟩ := F2
    (refine leaves_cons (f := 9) (args := #[.pointer (some ⟨z.w.heap.size, 0, none⟩), .pointer (some ⟨z.w.heap.size + 1, 0, none⟩), .pointer (some ⟨z.w.heap.size + 1 + 1, 0, none⟩)]) (by simp) (by simp [go_sem]) ?_; refine (catch_r _).mono ?_; rintro e' u' w9 ⟨rfl, rfl, rfl⟩; simp only [settle, Leaves])
    exact ⟨.tuple #[.agg #[.int .i64 0, .int .i64 0, .int .i64 0, .slice none 0 0], .int .i64 0, .int .i64 e], by simp [results, Tryd.results5, go_sem, c0, c1, c2, c3, c4, c5], .mk 0 0 0 [], 0, e, hm3.symm, _, rfl, svAt_leaf _ _ _ _ _, hbl⟩
end Go.Proofs.YtfalbgflabajbaaDoor

namespace Go.Proofs.YtfalbgflabajbaaDoor
set_option linter.unusedSectionVars false
open Go.RowKit Go.Sort
set_option linter.unusedVariables false
set_option linter.unusedSimpArgs false
set_option maxRecDepth 100000
theorem rd4_of {c : RC} {T : List TokD} {v : Value} (hT : 0 < T.length) (h : Rep c (sl 2 cWord (T.map tk4T)) v) : ∃ tb off cap, v = .slice (some ⟨tb, off, none⟩) T.length cap ∧ tb < c.w.heap.size ∧ ∀ (i : Nat) (t : TokD), T[i]? = some t → c.w.cell? ⟨tb, off + i * 2, none⟩ = some (.string (bZ (w4T t))) ∧ c.w.cell? ⟨tb, off + i * 2 + 1, none⟩ = some (.int .i64 t.pos) := by
 have h' := h
 unfold sl at h'
 rw [Rep] at h'
 obtain ⟨a, cap, rfl, h2, h3, h4⟩ := h'
 have hlen : ((T.map tk4T).map cWord).length = T.length := by simp
 rcases h4 with h4 | ⟨b, off, rfl, h5, h6, h7⟩
 ·rw [h4] at hlen; simp at hlen; omega
 refine ⟨b, off, cap, by rw [hlen], h5, fun i t ht => ?_⟩
 have hc := es_nth (k := i) h7 (e := cWord (tk4T t)) (by simp [ht])
 unfold cWord tk4T at hc
 simp only [RepCs, Rep] at hc
 obtain ⟨⟨v0, c0, _, e0⟩, ⟨v1, c1, _, e1⟩, _⟩ := hc
 subst e0 e1
 exact ⟨c0, c1⟩
theorem toksI_pos : ∀ (f pos prev : Nat) (r : List UInt8) (t : TokD), t ∈ toksI f pos prev r → t.pos < pos + r.length := by
 intro f
 induction f with
 | zero => intro pos prev r t ht; cases r <;> simp [toksI] at ht
 | succ f ih =>
  intro pos prev r t ht
  cases r with
  | nil => simp [toksI] at ht
  | cons b r =>
   rw [toksI] at ht
   have hr := runB_le b r
   split at ht
   ·have := ih _ _ _ _ ht; simp only [List.length_cons]; omega
   ·rcases List.mem_cons.1 ht with rfl | ht
    ·simp only [List.length_cons]; omega
    ·have := ih _ _ _ _ ht
     rw [List.length_drop] at this
     simp only [List.length_cons]; omega
theorem toks_end {l : List UInt8} {k : Nat} {t : TokD} (ht : (toksP l.length 0 0 l)[k]? = some t) : (t.pos < l.length ↔ k + 1 < (toksP l.length 0 0 l).length) := by
 rw [toksP_eq _ _ _ _ (Nat.le_refl _)] at ht ⊢
 have hlt := (List.getElem?_eq_some_iff.1 ht).1
 simp only [List.length_append, List.length_cons, List.length_nil] at hlt ⊢
 by_cases hk : k < (toksI l.length 0 0 l).length
 ·rw [List.getElem?_append_left hk] at ht
  have := toksI_pos _ _ _ _ _ (List.mem_of_getElem? ht)
  omega
 ·have hk2 : k = (toksI l.length 0 0 l).length := by omega
  subst hk2
  rw [List.getElem?_append_right (Nat.le_refl _), Nat.sub_self, List.getElem?_cons_zero] at ht
  injection ht with ht
  subst ht
  show 0 + l.length < l.length ↔ _
  omega
theorem toks_ok4 {l : List UInt8} (hl : l.length ≤ 4000) : TokOk (toksP l.length 0 0 l) := by
 have h := toks_ok hl
 obtain ⟨T', n, e⟩ := h.last
 refine ⟨⟨T', n, e⟩, by have := h.few; omega, fun t ht => ?_, fun t ht => ?_⟩
 ·rw [toksP_eq _ _ _ _ (Nat.le_refl _)] at ht
  have key : ∀ (f pos prev : Nat) (r : List UInt8) (t : TokD), t ∈ toksI f pos prev r → t.text.length ≤ r.length := by
   intro f
   induction f with
   | zero => intro pos prev r t ht; cases r <;> simp [toksI] at ht
   | succ f ih =>
    intro pos prev r t ht
    cases r with
    | nil => simp [toksI] at ht
    | cons b r =>
     rw [toksI] at ht
     split at ht
     ·have := ih _ _ _ _ ht; simp only [List.length_cons]; omega
     ·rcases List.mem_cons.1 ht with rfl | ht
      ·show (List.take (runB b r + 1) (b :: r)).length ≤ _
       rw [List.length_take]; exact Nat.min_le_right _ _
      ·have := ih _ _ _ _ ht
       rw [List.length_drop] at this
       simp only [List.length_cons]; omega
  rcases List.mem_append.1 ht with ht | ht
  ·have := key _ _ _ _ _ ht; omega
  ·rw [List.mem_singleton.1 ht]; exact Nat.zero_le _
 ·rw [toksP_eq _ _ _ _ (Nat.le_refl _)] at ht
  rcases List.mem_append.1 ht with ht | ht
  ·have := toksI_pos _ _ _ _ _ ht; omega
  ·rw [List.mem_singleton.1 ht]; show 0 + l.length ≤ 1000000; omega
theorem fin4b {base b0 : Nat} {w W : World} {x0 x1 x2 x3 : Value} (B0 : Box4 W b0 x0 x1 x2 x3) (g0 : base ≤ b0) (hb : Below base w W) (v0 v1 v2 v3 : Value) :
  Box4 ((((W.setCell ⟨b0, 0, none⟩ v0).setCell ⟨b0, 1, none⟩ v1).setCell ⟨b0, 2, none⟩ v2).setCell ⟨b0, 3, none⟩ v3) b0 v0 v1 v2 v3 ∧ Below base w ((((W.setCell ⟨b0, 0, none⟩ v0).setCell ⟨b0, 1, none⟩ v1).setCell ⟨b0, 2, none⟩ v2).setCell ⟨b0, 3, none⟩ v3) ∧ (∀ k, k ≠ b0 → ((((W.setCell ⟨b0, 0, none⟩ v0).setCell ⟨b0, 1, none⟩ v1).setCell ⟨b0, 2, none⟩ v2).setCell ⟨b0, 3, none⟩ v3).heap[k]? = W.heap[k]?) ∧ ((((W.setCell ⟨b0, 0, none⟩ v0).setCell ⟨b0, 1, none⟩ v1).setCell ⟨b0, 2, none⟩ v2).setCell ⟨b0, 3, none⟩ v3).heap.size = W.heap.size :=
 ⟨Box4.st3 (Box4.st2 (Box4.st1 (Box4.st0 B0))), (((hb.setCell (p := ⟨b0, 0, none⟩) g0 _).setCell (p := ⟨b0, 1, none⟩) g0 _).setCell (p := ⟨b0, 2, none⟩) g0 _).setCell (p := ⟨b0, 3, none⟩) g0 _, fun k hk => by rw [heap_setCell_ne _ (Ne.symm hk), heap_setCell_ne _ (Ne.symm hk), heap_setCell_ne _ (Ne.symm hk), heap_setCell_ne _ (Ne.symm hk)], by simp⟩
theorem fin4d {base b0 : Nat} {w W : World} {x0 x1 x2 x3 : Value} (B0 : Box4 W b0 x0 x1 x2 x3) (g0 : base ≤ b0) (hb : Below base w W) (v0 v1 v2 v3 : Value) :
  Box4 (((((W.setCell ⟨b0, 0, none⟩ v0).setCell ⟨b0, 1, none⟩ v1).setCell ⟨b0, 2, none⟩ v2).setCell ⟨b0, 3, none⟩ v3).drew) b0 v0 v1 v2 v3 ∧ Below base w (((((W.setCell ⟨b0, 0, none⟩ v0).setCell ⟨b0, 1, none⟩ v1).setCell ⟨b0, 2, none⟩ v2).setCell ⟨b0, 3, none⟩ v3).drew) :=
 ⟨Box4.drewN (fin4b B0 g0 hb v0 v1 v2 v3).1 1, below_drewN (fin4b B0 g0 hb v0 v1 v2 v3).2.1 1⟩
theorem ps4_long {w : World} {s : ByteArray} (hs : 4000 < s.size) : Calls Tryd.prog 6 #[.string s] w fun e w' => PsR w w' e (.mk 0 0 0 []) 0 2 := by
 have hi : (4000 : Int) < (s.size : Int) := by omega
 have hcel := heap_alloc_new w (.cells #[.int .i64 0, .int .i64 0, .int .i64 0, .slice none 0 0] 24)
 have c0 := Lib.cell_of_heap hcel 0
 have c1 := Lib.cell_of_heap hcel 1
 have c2 := Lib.cell_of_heap hcel 2
 have c3 := Lib.cell_of_heap hcel 3
 go_enter Tryd.func6, Tryd.ntmps6
 go_wp2
 refine bodyPost_ret (v := .tuple #[.agg #[.int .i64 0, .int .i64 0, .int .i64 0, .slice none 0 0], .int .i64 0, .int .i64 2]) (by simp [results, Tryd.results6, go_sem, c0, c1, c2, c3]) rfl ?_
 exact ⟨_, rfl, svAt_leaf _ _ _ _ _, (Below.refl _ _).alloc (Nat.le_refl _) _⟩
set_option maxHeartbeats 2000000 in
theorem ps4_walk {z : Z} (hnm : z.nm = nmT) (hE : z.E = []) (hl : ZLt z) {l : List UInt8} (hs : l.length ≤ 4000) {r : AV} (hm : m_R4_Parse [.str (bZ l)] [] = some (r, [])) :
  Calls Tryd.prog 6 #[.string (bZ l)] z.w fun e w' => ∃ p a f, r = prT p a f ∧ PsR z.w w' e p a f := by
 have hT := toks_ok4 hs
 have hlen := toks_len (l := l)
 have hw : m_R4_wordsOf [.str (bZ l)] [] = some (sl 2 cWord ((toksP l.length 0 0 l).map tk4T), []) := h_R4_wordsOf (words4_t hs)
 have hsz : (bZ l).size = l.length := zsz l
 have hi : ¬ (4000 : Int) < ((bZ l).size : Int) := by rw [hsz]; omega
 have hm2 : (match prS l with
  | .ok p _ => prE4 p
  | .bad n => some (prT (.mk 0 0 0 []) n 9, [])
  | .large => some (prT (.mk 0 0 0 []) 0 2, [])
  | .out => none) = some (r, []) := by
  have := hm
  unfold m_R4_Parse A.ar1 at this
  simp only at this
  rw [if_neg (by rw [hsz]; omega), lZ_bZl] at this
  exact this
 clear hm
 unfold prS at hm2
 have hend : ∀ k t, (toksP l.length 0 0 l)[k]? = some t → (t.pos < l.length ↔ k + 1 < (toksP l.length 0 0 l).length) := fun k t ht => toks_end ht
 generalize toksP l.length 0 0 l = T at *
 have hrel := (rel_all hT.fin (2 * l.length + 10)).2.1 0 0 (by omega)
 rw [List.drop_zero] at hrel
 have hb1 : Below z.w.heap.size z.w (z.w.alloc (.cells #[.int .i64 0, .int .i64 0, .int .i64 0, .slice none 0 0] 24)) := (Below.refl _ _).alloc (Nat.le_refl _) _
 have k0 : (z.w.alloc (.cells #[.int .i64 0, .int .i64 0, .int .i64 0, .slice none 0 0] 24)).heap[z.w.heap.size]? = some (.cells #[.int .i64 0, .int .i64 0, .int .i64 0, .slice none 0 0] 24 (0, 0)) := heap_last _ _
 have HW := Lib.hid (snd_at s_R4_wordsOf Tryd.call15 hnm hE hl hb1 (vs := #[.string (bZ l)]) (rep_cons (by simp only [Rep]) rep_nil) hw)
 have hsp : (z.w.alloc (.cells #[.int .i64 0, .int .i64 0, .int .i64 0, .slice none 0 0] 24)).heap.size = z.w.heap.size + 1 := by simp
 have HK := Lib.hid (And.intro k0 (And.intro hb1 hsp))
 clear k0 hb1 hsp
 go_enter Tryd.func6, Tryd.ntmps6
 go_wp2_with fail
 refine HW.out.mono ?_
 rintro e W2 ⟨v, rfl, hv, hbw⟩
 obtain ⟨tb, off, cap, rfl, htb, hcells⟩ := rd4_of (by omega) hv
 replace htb : tb < W2.heap.size := htb
 obtain ⟨k0, hb1, hsp⟩ := HK.out
 replace k0 := (hbw.block _ (by rw [hsp]; omega)).trans k0
 have hz2 := hbw.size
 rw [hsp] at hz2
 replace hb1 : Below z.w.heap.size z.w W2 := hb1.trans (hbw.mono (by rw [hsp]; omega))
 clear HK HW hv hbw hsp
 have htb0 : tb ≠ z.w.heap.size := by
  intro e
  have h0 := (hcells 0 _ (List.getElem?_eq_getElem (by omega))).1
  rw [e] at h0
  have h0' := (Lib.cell_of_heap k0 (off + 0 * 2)).symm.trans h0
  rcases (by omega : off = 0 ∨ off = 1 ∨ off = 2 ∨ off = 3 ∨ 4 ≤ off) with rfl | rfl | rfl | rfl | h4
  ·cases h0'
  ·cases h0'
  ·cases h0'
  ·cases h0'
  ·rw [Array.getElem?_eq_none (by simp; omega)] at h0'; cases h0'
 have HK := Lib.hid (And.intro k0 (And.intro hb1 (And.intro hcells hz2)))
 clear k0 hb1 hcells
 go_wp2_with fail
 obtain ⟨k0, hb1, hcells, hz2⟩ := HK.out
 clear HK
 have hRd : R4At T tb off cap W2.heap.size (W2.alloc (.cells #[.slice (some ⟨tb, off, none⟩) T.length cap, .int .i64 0, .int .i64 (-1), .bool false] 50)) (s4 0) := ⟨Box4.of (heap_last _ _), by omega, fun i t ht => by
  obtain ⟨a, b⟩ := hcells i t ht
  have g := Gr.alloc (Gr.refl W2) (.cells #[.slice (some ⟨tb, off, none⟩) T.length cap, .int .i64 0, .int .i64 (-1), .bool false] 50)
  exact ⟨g.cell a, g.cell b⟩⟩
 have hIn : S4In T (s4 0) := ⟨by show 0 < T.length; omega, by show (-1 : Int) ≤ -1; omega, by show (-1 : Int) ≤ 1000000; omega⟩
 have B0 := (Box4.of k0).mono (Gr.alloc (Gr.refl W2) (.cells #[.slice (some ⟨tb, off, none⟩) T.length cap, .int .i64 0, .int .i64 (-1), .bool false] 50))
 have hb3 : Below z.w.heap.size z.w (W2.alloc (.cells #[.slice (some ⟨tb, off, none⟩) T.length cap, .int .i64 0, .int .i64 (-1), .bool false] 50)) := hb1.alloc (by omega) _
 clear k0 hb1 hcells
 have hsz3 : (W2.alloc (.cells #[.slice (some ⟨tb, off, none⟩) T.length cap, .int .i64 0, .int .i64 (-1), .bool false] 50)).heap.size = W2.heap.size + 1 := by simp
 generalize W2.alloc (.cells #[.slice (some ⟨tb, off, none⟩) T.length cap, .int .i64 0, .int .i64 (-1), .bool false] 50) = W3 at *
 generalize W2.heap.size = rb at *
 have gx : ∀ W4, GrX rb W3 W4 → Below z.w.heap.size z.w W4 := fun W4 hX => hb3.trans ⟨hX.os, hX.tape, hX.output, hX.size, fun k hk => hX.block k (by omega) (by omega)⟩
 cases hqq : whlP (2 * l.length + 10) 0 T with
 | out => rw [hqq] at hm2; cases hm2
 | bad m =>
  rw [hqq] at hm2 hrel
  obtain ⟨p, k', hk', hq⟩ := hrel
  injection hm2 with hm2
  injection hm2 with hm2 _
  have WW : Calls Tryd.prog 16 #[.pointer (some ⟨rb, 0, none⟩), .int .i64 1] W3 (Post4 T tb off cap rb W3 (p, (⟨k', (m : Int), false⟩ : S4))) := (ref_any (tb := tb) (off := off) (cap := cap) (rb := rb) hT (by omega) (2 * l.length + 10)).2.2 W3 (s4 0) 1 (p, (⟨k', (m : Int), false⟩ : S4)) (by omega) hIn hRd hq
  refine WW.mono ?_
  rintro e W4 ⟨sv, rfl, hX, hR, hS⟩
  obtain ⟨sa, sn, sc, rfl⟩ := svAt_shape hS
  replace B0 := Box4.grx B0 hX (by omega)
  have hsz4 := hX.size
  replace hb3 := gx _ hX
  have g5 := Gr.alloc (Gr.refl W4) (.cells #[.int .i64 p.kind, .int .i64 p.frm, .int .i64 p.to, .slice sa sn sc] 24)
  have B6 := Lib.hid (B0.mono g5)
  have R6 := Lib.hid (hR.mono g5)
  have b6 : Below z.w.heap.size z.w (W4.alloc (.cells #[.int .i64 p.kind, .int .i64 p.frm, .int .i64 p.to, .slice sa sn sc] 24)) := hb3.alloc (by omega) _
  have L6 := Lib.hid (heap_last W4 (.cells #[.int .i64 p.kind, .int .i64 p.frm, .int .i64 p.to, .slice sa sn sc] 24))
  have S6 := Lib.hid (SvAt.mono (Q := fun k => z.w.heap.size + 1 ≤ k ∧ k < W4.heap.size) g5.size (fun k _ hk => g5.below.block k hk) (fun k hk1 hk2 => ⟨by have := hk1.1; omega, hk2⟩) p _ hS)
  clear B0 hR hb3 hX hS g5 WW gx hRd hq
  go_wp2_with fail
  have hD := cD4 R6.out
  rw [done_bad] at hD
  have KR := R6.out.here
  obtain ⟨⟨r0, r1, r2, r3⟩, ⟨g0, g1, g2, g3⟩, hrl⟩ := KR
  have KB := B6.out
  obtain ⟨⟨q0, q1, q2, q3⟩, ⟨f0, f1, f2, f3⟩, hql⟩ := KB
  have hne0 : rb ≠ z.w.heap.size := by omega
  have hne1 : z.w.heap.size ≠ rb := by omega
  generalize hW6 : W4.alloc (.cells #[.int .i64 p.kind, .int .i64 p.frm, .int .i64 p.to, .slice sa sn sc] 24) = W6 at *
  have hm0 : (0 : Int) ≤ (m : Int) := by omega
  go_quiet (with_reducible exact hD _)
  go_wp2
  go_region
  all_goals (
   go_wp2
   obtain ⟨⟨⟨c0, c1, c2, c3⟩, _, _⟩, hbl, _, _⟩ := fin4b (Box4.drewN B6.out (nq + 1)) (Nat.le_refl _) (below_drewN b6 (nq + 1)) (.int .i64 0) (.int .i64 0) (.int .i64 0) (.slice none 0 0)
   exact bodyPost_ret (v := .tuple #[.agg #[.int .i64 0, .int .i64 0, .int .i64 0, .slice none 0 0], .int .i64 m, .int .i64 9]) (by simp [results, Tryd.results6, go_sem, c0, c1, c2, c3]) rfl ⟨.mk 0 0 0 [], m, 9, hm2.symm, _, rfl, svAt_leaf _ _ _ _ _, hbl⟩)
 | large =>
  rw [hqq] at hm2 hrel
  obtain ⟨p, k', hk', hq⟩ := hrel
  injection hm2 with hm2
  injection hm2 with hm2 _
  have WW : Calls Tryd.prog 16 #[.pointer (some ⟨rb, 0, none⟩), .int .i64 1] W3 (Post4 T tb off cap rb W3 (p, (⟨k', -1, true⟩ : S4))) := (ref_any (tb := tb) (off := off) (cap := cap) (rb := rb) hT (by omega) (2 * l.length + 10)).2.2 W3 (s4 0) 1 (p, (⟨k', -1, true⟩ : S4)) (by omega) hIn hRd hq
  refine WW.mono ?_
  rintro e W4 ⟨sv, rfl, hX, hR, hS⟩
  obtain ⟨sa, sn, sc, rfl⟩ := svAt_shape hS
  replace B0 := Box4.grx B0 hX (by omega)
  have hsz4 := hX.size
  replace hb3 := gx _ hX
  have g5 := Gr.alloc (Gr.refl W4) (.cells #[.int .i64 p.kind, .int .i64 p.frm, .int .i64 p.to, .slice sa sn sc] 24)
  have B6 := Lib.hid (B0.mono g5)
  have R6 := Lib.hid (hR.mono g5)
  have b6 : Below z.w.heap.size z.w (W4.alloc (.cells #[.int .i64 p.kind, .int .i64 p.frm, .int .i64 p.to, .slice sa sn sc] 24)) := hb3.alloc (by omega) _
  have L6 := Lib.hid (heap_last W4 (.cells #[.int .i64 p.kind, .int .i64 p.frm, .int .i64 p.to, .slice sa sn sc] 24))
  have S6 := Lib.hid (SvAt.mono (Q := fun k => z.w.heap.size + 1 ≤ k ∧ k < W4.heap.size) g5.size (fun k _ hk => g5.below.block k hk) (fun k hk1 hk2 => ⟨by have := hk1.1; omega, hk2⟩) p _ hS)
  clear B0 hR hb3 hX hS g5 WW gx hRd hq
  go_wp2_with fail
  have hD := cD4 R6.out
  rw [done_lg] at hD
  have KR := R6.out.here
  obtain ⟨⟨r0, r1, r2, r3⟩, ⟨g0, g1, g2, g3⟩, hrl⟩ := KR
  have KB := B6.out
  obtain ⟨⟨q0, q1, q2, q3⟩, ⟨f0, f1, f2, f3⟩, hql⟩ := KB
  have hne0 : rb ≠ z.w.heap.size := by omega
  have hne1 : z.w.heap.size ≠ rb := by omega
  generalize hW6 : W4.alloc (.cells #[.int .i64 p.kind, .int .i64 p.frm, .int .i64 p.to, .slice sa sn sc] 24) = W6 at *
  go_quiet (with_reducible exact hD _)
  go_wp2
  obtain ⟨⟨⟨c0, c1, c2, c3⟩, _, _⟩, hbl, _, _⟩ := fin4b (Box4.drewN B6.out nq) (Nat.le_refl _) (below_drewN b6 nq) (.int .i64 0) (.int .i64 0) (.int .i64 0) (.slice none 0 0)
  exact bodyPost_ret (v := .tuple #[.agg #[.int .i64 0, .int .i64 0, .int .i64 0, .slice none 0 0], .int .i64 0, .int .i64 2]) (by simp [results, Tryd.results6, go_sem, c0, c1, c2, c3]) rfl ⟨.mk 0 0 0 [], 0, 2, hm2.symm, _, rfl, svAt_leaf _ _ _ _ _, hbl⟩
 | ok p l2 =>
  rw [hqq] at hm2 hrel
  obtain ⟨k', hk', hl2, hq⟩ := hrel
  obtain ⟨t, ht⟩ : ∃ t, T[k']? = some t := ⟨_, List.getElem?_eq_getElem hk'⟩
  have hp : posP l2 = t.pos := by rw [hl2, drop_at ht]; rfl
  simp only [hp] at hm2
  have hpe := hend k' t ht
  have WW : Calls Tryd.prog 16 #[.pointer (some ⟨rb, 0, none⟩), .int .i64 1] W3 (Post4 T tb off cap rb W3 (p, s4 k')) := (ref_any (tb := tb) (off := off) (cap := cap) (rb := rb) hT (by omega) (2 * l.length + 10)).2.2 W3 (s4 0) 1 (p, s4 k') (by omega) hIn hRd hq
  refine WW.mono ?_
  rintro e W4 ⟨sv, rfl, hX, hR, hS⟩
  obtain ⟨sa, sn, sc, rfl⟩ := svAt_shape hS
  replace B0 := Box4.grx B0 hX (by omega)
  have hsz4 := hX.size
  replace hb3 := gx _ hX
  have g5 := Gr.alloc (Gr.refl W4) (.cells #[.int .i64 p.kind, .int .i64 p.frm, .int .i64 p.to, .slice sa sn sc] 24)
  have B6 := Lib.hid (B0.mono g5)
  have R6 := Lib.hid (hR.mono g5)
  have b6 : Below z.w.heap.size z.w (W4.alloc (.cells #[.int .i64 p.kind, .int .i64 p.frm, .int .i64 p.to, .slice sa sn sc] 24)) := hb3.alloc (by omega) _
  have L6 := Lib.hid (heap_last W4 (.cells #[.int .i64 p.kind, .int .i64 p.frm, .int .i64 p.to, .slice sa sn sc] 24))
  have S6 := Lib.hid (SvAt.mono (Q := fun k => z.w.heap.size + 1 ≤ k ∧ k < W4.heap.size) g5.size (fun k _ hk => g5.below.block k hk) (fun k hk1 hk2 => ⟨by have := hk1.1; omega, hk2⟩) p _ hS)
  clear B0 hR hb3 hX hS g5 WW gx hRd hq
  go_wp2_with fail
  have hD := cD4 R6.out
  rw [done_s4] at hD
  have KR := R6.out.here
  obtain ⟨⟨r0, r1, r2, r3⟩, ⟨g0, g1, g2, g3⟩, hrl⟩ := KR
  have KB := B6.out
  obtain ⟨⟨q0, q1, q2, q3⟩, ⟨f0, f1, f2, f3⟩, hql⟩ := KB
  have hne0 : rb ≠ z.w.heap.size := by omega
  have hne1 : z.w.heap.size ≠ rb := by omega
  generalize hW6 : W4.alloc (.cells #[.int .i64 p.kind, .int .i64 p.frm, .int .i64 p.to, .slice sa sn sc] 24) = W6 at *
  have hlenI : IntKind.i64.wrap ((T.length : Int) - 1) = ((T.length - 1 : Nat) : Int) := by rw [wrap_in (by omega)]; omega
  by_cases hlt : t.pos < l.length
  ·simp only [if_pos hlt] at hm2
   injection hm2 with hm2
   injection hm2 with hm2 _
   have hc1 : ((k' : Int) < ((T.length - 1 : Nat) : Int)) := by have := hpe.1 hlt; omega
   go_quiet (with_reducible exact hD _)
   have hn6 : (s4 k').n < T.length := hk'
   have hst := fun w hw => stop4 (T := T) (tb := tb) (off := off) (cap := cap) (rb := rb) (s := s4 k') ⟨hk', by show (-1 : Int) ≤ -1; omega, by show (-1 : Int) ≤ 1000000; omega⟩ (W := w) hw hT.few
   have hso : stopS T (s4 k') = ⟨k', (t.pos : Int), false⟩ := by unfold stopS; rw [if_pos (show (-1 : Int) < 0 by decide), tk4_at ht]
   rw [hso] at hst
   have hp0 : (0 : Int) ≤ (t.pos : Int) := by omega
   go_wp2_with fail
   refine (hst _ (R6.out.drewN _)).mono ?_
   rintro e W8 ⟨rfl, hX8, hR8⟩
   clear r0 r1 r2 r3 g0 g1 g2 g3 q0 q1 q2 q3 f0 f1 f2 f3 hD hst
   have B8 := Lib.hid (Box4.grx (Box4.drewN B6.out nq) hX8 hne1)
   have b8 : Below z.w.heap.size z.w W8 := (below_drewN b6 nq).trans ⟨hX8.os, hX8.tape, hX8.output, hX8.size, fun k hk => hX8.block k (by show k < (W6.drewN nq).heap.size; have := (below_drewN b6 nq).size; omega) (by omega)⟩
   obtain ⟨⟨r0, r1, r2, r3⟩, ⟨g0, g1, g2, g3⟩, hrl8⟩ := hR8.here
   obtain ⟨⟨q0, q1, q2, q3⟩, ⟨f0, f1, f2, f3⟩, hql8⟩ := B8.out
   go_wp2_with fail
   go_region
   all_goals (
    go_wp2
    obtain ⟨⟨⟨c0, c1, c2, c3⟩, _, _⟩, hbl⟩ := fin4d B8.out (Nat.le_refl _) b8 (.int .i64 0) (.int .i64 0) (.int .i64 0) (.slice none 0 0)
    exact bodyPost_ret (v := .tuple #[.agg #[.int .i64 0, .int .i64 0, .int .i64 0, .slice none 0 0], .int .i64 t.pos, .int .i64 9]) (by simp [results, Tryd.results6, go_sem, c0, c1, c2, c3]) rfl ⟨.mk 0 0 0 [], t.pos, 9, hm2.symm, _, rfl, svAt_leaf _ _ _ _ _, hbl⟩)
  ·simp only [if_neg hlt] at hm2
   have hc1 : ¬ ((k' : Int) < ((T.length - 1 : Nat) : Int)) := fun h => hlt (hpe.2 (by omega))
   go_quiet (with_reducible exact hD _)
   unfold prE4 at hm2
   obtain ⟨q, hq2, hm3⟩ := Option.bind_eq_some_iff.1 hm2
   split at hm3
   case h_2 => cases hm3
   rename_i e
   have l6 := L6.out
   have d0 := Lib.cell_of_heap l6 0
   have d1 := Lib.cell_of_heap l6 1
   have d2 := Lib.cell_of_heap l6 2
   have d3 := Lib.cell_of_heap l6 3
   go_wp2_with fail
   have b7 := below_drewN b6 nq
   have S7 : SvAt (W6.drewN nq) (fun k => z.w.heap.size + 1 ≤ k ∧ k < W4.heap.size) p (.slice sa sn sc) := SvAt.mono (w := W6) (w' := W6.drewN nq) (Q := fun k => z.w.heap.size + 1 ≤ k ∧ k < W4.heap.size) (Nat.le_refl _) (fun _ _ _ => rfl) (fun _ hk _ => hk) p _ S6.out
   have hc := snd_there s_R4_Check Tryd.call19 hnm hE hl b7 (vs := #[.agg #[.int .i64 p.kind, .int .i64 p.frm, .int .i64 p.to, .slice sa sn sc]]) (rep_cons (SvAt.agg (c := ctx ⟨W6.drewN nq, [], z.X, z.nm⟩ (W6.drewN nq) [] nopb) (fun k hk _ hx => by
    rcases hx with hx | ⟨_, hx, _⟩ | ⟨_, hx⟩
    ·have := hl k hx; have := hk.1; omega
    ·cases hx
    ·cases hx) S7) rep_nil) hq2
   refine hc.mono ?_
   rintro e' W7 ⟨v, rfl, hv, hb7⟩
   simp only [Rep] at hv
   subst hv
   clear r0 r1 r2 r3 g0 g1 g2 g3 q0 q1 q2 q3 f0 f1 f2 f3 d0 d1 d2 d3 hD l6 hc
   have B8 : Box4 W7 z.w.heap.size (.int .i64 0) (.int .i64 0) (.int .i64 0) (.slice none 0 0) := Box4.mono (Box4.drewN B6.out nq) hb7
   have b8 : Below z.w.heap.size z.w W7 := b7.trans (hb7.mono b7.size)
   have S8 : SvAt W7 (fun k => z.w.heap.size + 1 ≤ k ∧ k < W4.heap.size) p (.slice sa sn sc) := SvAt.mono hb7.size (fun k _ hk => hb7.block k hk) (fun _ hk _ => hk) p _ S7
   have l8 : W7.heap[W4.heap.size]? = some (.cells #[.int .i64 p.kind, .int .i64 p.frm, .int .i64 p.to, .slice sa sn sc] 24 (0, 0)) := (hb7.block _ (Array.getElem?_eq_some_iff.1 L6.out).1).trans L6.out
   have d0 := Lib.cell_of_heap l8 0
   have d1 := Lib.cell_of_heap l8 1
   have d2 := Lib.cell_of_heap l8 2
   have d3 := Lib.cell_of_heap l8 3
   clear S7 hb7 b7 b6 B6 L6 S6 R6 hq2
   have K8 := B8
   obtain ⟨⟨q0, q1, q2, q3⟩, ⟨f0, f1, f2, f3⟩, hlt0⟩ := K8
   by_cases he : e = 0
   ·subst he
    rw [if_pos rfl] at hm3
    injection hm3 with hm3
    injection hm3 with hm3 _
    go_wp2_with fail
    obtain ⟨⟨⟨c0, c1, c2, c3⟩, _, _⟩, hbl, hk9, hs9⟩ := fin4b B8 (Nat.le_refl _) b8 (.int .i64 p.kind) (.int .i64 p.frm) (.int .i64 p.to) (.slice sa sn sc)
    exact bodyPost_ret (v := .tuple #[.agg #[.int .i64 p.kind, .int .i64 p.frm, .int .i64 p.to, .slice sa sn sc], .int .i64 0, .int .i64 0]) (by simp [results, Tryd.results6, go_sem, c0, c1, c2, c3]) rfl ⟨p, 0, 0, hm3.symm, _, rfl, SvAt.mono (by omega) (fun k hk _ => hk9 k (by have := hk.1; omega)) (fun k hk _ => by have := hk.1; omega) p _ S8, hbl⟩
   ·rw [if_neg he] at hm3
    injection hm3 with hm3
    injection hm3 with hm3 _
    have hne : (e != 0) = true := by simpa using he
    go_wp2_with fail
    obtain ⟨⟨⟨c0, c1, c2, c3⟩, _, _⟩, hbl, _, _⟩ := fin4b B8 (Nat.le_refl _) b8 (.int .i64 0) (.int .i64 0) (.int .i64 0) (.slice none 0 0)
    exact bodyPost_ret (v := .tuple #[.agg #[.int .i64 0, .int .i64 0, .int .i64 0, .slice none 0 0], .int .i64 0, .int .i64 e]) (by simp [results, Tryd.results6, go_sem, c0, c1, c2, c3]) rfl ⟨.mk 0 0 0 [], 0, e, hm3.symm, _, rfl, svAt_leaf _ _ _ _ _, hbl⟩
end Go.Proofs.YtfalbgflabajbaaDoor

namespace Go.Proofs.YtfalbgflabajbaaDoor
set_option linter.unusedSectionVars false
open Go.RowKit Go.Sort
set_option linter.unusedVariables false
set_option linter.unusedSimpArgs false
theorem prE4_out {p : PickD} {r : AV} {σ' : Heap} (h : prE4 p = some (r, σ')) : σ' = [] := by
 unfold prE4 at h
 obtain ⟨q, _, h⟩ := Option.bind_eq_some_iff.1 h
 split at h
 ·injection h with h; injection h with _ h; exact h.symm
 ·cases h
theorem ps4_all {z : Z} (hnm : z.nm = nmT) (hE : z.E = []) (hl : ZLt z) {s : ByteArray} {r : AV} (hm : m_R4_Parse [.str s] [] = some (r, [])) :
  Calls Tryd.prog 6 #[.string s] z.w fun e w' => ∃ p a f, r = prT p a f ∧ PsR z.w w' e p a f := by
 by_cases hs : 4000 < s.size
 ·have hm' := hm
  unfold m_R4_Parse A.ar1 at hm'
  simp only at hm'
  rw [if_pos hs] at hm'
  injection hm' with hm'
  injection hm' with hm' _
  exact (ps4_long hs).mono fun e w' h => ⟨_, _, _, hm'.symm, h⟩
 ·rw [bZ_l s] at hm ⊢
  exact ps4_walk hnm hE hl (by have : (lZ s).length = s.size := rfl; omega) hm
theorem s_R4_Parse : Sound Tryd.prog nmT 6 m_R4_Parse := by
 intro args σ r σ' h
 have h0 := h
 unfold m_R4_Parse A.ar1 at h
 split at h
 case h_2 => cases h
 rename_i x0
 simp only at h
 split at h
 case h_2 => cases h
 rename_i s
 have hσ : σ' = [] := by
  split at h
  ·injection h with h; injection h with _ h; exact h.symm
  ·split at h
   ·exact prE4_out h
   ·injection h with h; injection h with _ h; exact h.symm
   ·injection h with h; injection h with _ h; exact h.symm
   ·cases h
 subst hσ
 refine .inl ⟨6, Tryd.call6, fun z vs e1 e2 hh ha => ?_⟩
 have hE : z.E = [] := by have := hh.len; simpa [ctx] using this
 rw [hE] at ha hh
 obtain rfl : vs = #[.string s] := by
  rw [RepL] at ha
  obtain ⟨v, vs', e3, h3, ha⟩ := ha
  rw [RepL] at ha
  rw [Rep] at h3
  subst h3 ha
  exact Array.toList_inj.1 e3
 refine (ps4_all e1 hE e2 h0).mono ?_
 rintro e w' ⟨p, a, f, rfl, sv, rfl, hS, hb⟩
 have hout : Out z z.w z.E := ⟨rfl, rfl, rfl, Nat.le_refl _, fun _ _ _ => rfl, fun i p hp => .inr ⟨p, hp, rfl⟩, fun i p hp => ⟨p, hp, .inl rfl⟩, e2, fun p hp => by rw [hE] at hp; cases hp⟩
 refine ⟨_, z.E, rfl, hout.grow hb, ?_, ?_⟩
 ·rw [hE]
  exact hh.mono (grow_ext hb) rfl (fun p hp => by cases hp)
 ·rw [hE]
  unfold prT
  rw [Rep]
  refine ⟨_, rfl, ?_⟩
  refine rep_cons (SvAt.agg (c := ctx z w' [] nopb) (fun k hk _ hx => ?_) hS) (rep_cons (by simp [Rep]) (rep_cons (by simp [Rep]) rep_nil))
  rcases hx with hx | ⟨_, hx, _⟩ | ⟨_, hx⟩
  ·have := e2 k hx; omega
  ·cases hx
  ·cases hx
end Go.Proofs.YtfalbgflabajbaaDoor

namespace Go.Proofs.YtfalbgflabajbaaDoor
set_option linter.unusedSectionVars false
open Go.RowKit Go.Sort
set_option linter.unusedVariables false
set_option linter.unusedSimpArgs false
theorem prE_out {p : PickD} {r : AV} {σ' : Heap} (h : prE p = some (r, σ')) : σ' = [] := by
 unfold prE at h
 obtain ⟨q, _, h⟩ := Option.bind_eq_some_iff.1 h
 split at h
 ·injection h with h; injection h with _ h; exact h.symm
 ·cases h
theorem ps_all {z : Z} (hnm : z.nm = nmT) (hE : z.E = []) (hl : ZLt z) {s : ByteArray} {r : AV} (hm : m_pick_Parse [.str s] [] = some (r, [])) :
  Calls Tryd.prog 5 #[.string s] z.w fun e w' => ∃ p a f, r = prT p a f ∧ PsR z.w w' e p a f := by
 by_cases hs : 4000 < s.size
 ·have hm' := hm
  unfold m_pick_Parse A.ar1 at hm'
  simp only at hm'
  rw [if_pos hs] at hm'
  injection hm' with hm'
  injection hm' with hm' _
  exact (ps_long hs).mono fun e w' h => ⟨_, _, _, hm'.symm, h⟩
 ·rw [bZ_l s] at hm ⊢
  exact ps_walk hnm hE hl (by have : (lZ s).length = s.size := rfl; omega) hm
theorem s_pick_Parse : Sound Tryd.prog nmT 5 m_pick_Parse := by
 intro args σ r σ' h
 have h0 := h
 unfold m_pick_Parse A.ar1 at h
 split at h
 case h_2 => cases h
 rename_i x0
 simp only at h
 split at h
 case h_2 => cases h
 rename_i s
 have hσ : σ' = [] := by
  split at h
  ·injection h with h; injection h with _ h; exact h.symm
  ·split at h
   ·exact prE_out h
   ·injection h with h; injection h with _ h; exact h.symm
   ·injection h with h; injection h with _ h; exact h.symm
   ·cases h
 subst hσ
 refine .inl ⟨5, Tryd.call5, fun z vs e1 e2 hh ha => ?_⟩
 have hE : z.E = [] := by have := hh.len; simpa [ctx] using this
 rw [hE] at ha hh
 obtain rfl : vs = #[.string s] := by
  rw [RepL] at ha
  obtain ⟨v, vs', e3, h3, ha⟩ := ha
  rw [RepL] at ha
  rw [Rep] at h3
  subst h3 ha
  exact Array.toList_inj.1 e3
 refine (ps_all e1 hE e2 h0).mono ?_
 rintro e w' ⟨p, a, f, rfl, sv, rfl, hS, hb⟩
 have hout : Out z z.w z.E := ⟨rfl, rfl, rfl, Nat.le_refl _, fun _ _ _ => rfl, fun i p hp => .inr ⟨p, hp, rfl⟩, fun i p hp => ⟨p, hp, .inl rfl⟩, e2, fun p hp => by rw [hE] at hp; cases hp⟩
 refine ⟨_, z.E, rfl, hout.grow hb, ?_, ?_⟩
 ·rw [hE]
  exact hh.mono (grow_ext hb) rfl (fun p hp => by cases hp)
 ·rw [hE]
  unfold prT
  rw [Rep]
  refine ⟨_, rfl, ?_⟩
  refine rep_cons (SvAt.agg (c := ctx z w' [] nopb) (fun k hk _ hx => ?_) hS) (rep_cons (by simp [Rep]) (rep_cons (by simp [Rep]) rep_nil))
  rcases hx with hx | ⟨_, hx, _⟩ | ⟨_, hx⟩
  ·have := e2 k hx; omega
  ·cases hx
  ·cases hx
end Go.Proofs.YtfalbgflabajbaaDoor

namespace Go.Proofs.YtfalbgflabajbaaDoor
set_option linter.unusedSectionVars false
set_option maxRecDepth 100000
set_option linter.unusedVariables false
set_option linter.unusedSimpArgs false
theorem s_W4_PickParsesMatchSpec : Sound Tryd.prog nmT 3 m_W4_PickParsesMatchSpec := q1 [3, 6] 34 (.s .n (.s .n (.s .n (.s .n .n)))) (All.cons s_pick_Parse (All.cons s_R4_Parse (All.cons s_W4_samePick All.nil))) Tryd.func3 Tryd.call3 (fun a0 σ => by kernel_rfl) rfl rfl
end Go.Proofs.YtfalbgflabajbaaDoor

