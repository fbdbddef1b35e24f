/- The contracts of the followers, and of their references. -/
import Derived.Test.YtgjclbkcnilkbaaStG
import Derived.Test.YtgjclbkcnilkbaaBs2
import Derived.Test.YtgjclbkcnilkbaaStH
namespace Go.Proofs.Ytgjclbkcnilkbaa
open Go.RowKit
set_option linter.unusedVariables false
set_option linter.unusedSimpArgs false

/-- Of what was there only block b may have changed. -/
def Mo (b : Nat) (w w' : World) : Prop := w'.os = w.os ∧ w'.tape = w.tape ∧ w'.output = w.output ∧ w.heap.size ≤ w'.heap.size ∧ ∀ i, i < w.heap.size → i ≠ b → w'.heap[i]? = w.heap[i]?
theorem Mo.of {b : Nat} {w w' : World} (h : Gr w w') : Mo b w w' := ⟨h.os, h.tape, h.output, h.size, fun i hi _ => h.block i hi⟩
theorem Mo.trans {b : Nat} {w w1 w2 : World} (h : Mo b w w1) (k : Mo b w1 w2) : Mo b w w2 := by
  obtain ⟨a1, a2, a3, a4, a5⟩ := h
  obtain ⟨b1, b2, b3, b4, b5⟩ := k
  exact ⟨b1.trans a1, b2.trans a2, b3.trans a3, by omega, fun i hi hne => (b5 i (by omega) hne).trans (a5 i hi hne)⟩
theorem Mo.set {b o : Nat} {w w1 : World} (h : Mo b w w1) (u : Value) : Mo b w (w1.setCell ⟨b, o, none⟩ u) := by
  obtain ⟨a1, a2, a3, a4, a5⟩ := h
  exact ⟨a1, a2, a3, by simpa [World.setCell] using a4, fun i hi hne => (Below.heap_setCell w1 ⟨b, o, none⟩ u i hne).trans (a5 i hi hne)⟩
/-- Seen from a time at which the block wasn't there yet, nothing has changed. -/
theorem Mo.gr {b : Nat} {w0 w w' : World} (g : Gr w0 w) (h : Mo b w w') (hb : w0.heap.size ≤ b) : Gr w0 w' := by
  obtain ⟨a1, a2, a3, a4, a5⟩ := h
  exact ⟨a1.trans g.os, a2.trans g.tape, a3.trans g.output, Nat.le_trans g.size a4, fun i hi => (a5 i (Nat.lt_of_lt_of_le hi g.size) (by omega)).trans (g.block i hi)⟩
theorem Mo.cell {b : Nat} {w w' : World} (h : Mo b w w') {c o : Nat} {v : Value} (hne : c ≠ b) (hc : w.cell? ⟨c, o, none⟩ = some v) : w'.cell? ⟨c, o, none⟩ = some v := by
  rw [World.cell?_of_block (w := w) (h.2.2.2.2 c (cell_lt hc) hne)]; exact hc

theorem first2d_any (a b : Int) (t : TypeId) (blk : Nat) (w : World) (hblk : blk = w.heap.size) :
    Calls Try.prog 39 #[.slice (some ⟨blk, 0, none⟩) 2 2] (w.alloc (.cells #[.int .i64 a, .int .i64 b] t)).drew fun e w' => e = .returned (.int .i64 (firstL [a, b])) ∧ (w.alloc (.cells #[.int .i64 a, .int .i64 b] t)).drew = w' :=
  hblk ▸ first_any 2 (fun i => [a, b].getD i 0) w.heap.size _ (by omega) (Lib.hid fun i hi => by
    match i, hi with
    | 0, _ => simp [go_sem]
    | 1, _ => simp [go_sem])
/-- The fault of a time. -/
def whenF (last t : Int) : Int := if withinB t 0 36000000 = true then (if t < last then 7 else 0) else 1
theorem when_first (last t : Int) : firstL [whenI (!withinB t 0 36000000) 1, whenI (decide (t < last)) 7] = whenF last t := by
  rw [firstL2]; unfold whenI whenF
  cases withinB t 0 36000000 <;> by_cases h : t < last <;> simp [h]
theorem whenF_zero {last t : Int} (h : whenF last t = 0) : 0 ≤ t ∧ t ≤ 36000000 ∧ last ≤ t := by
  unfold whenF at h
  cases hw : withinB t 0 36000000
  · simp [hw] at h
  · have := withinB_true hw
    by_cases h1 : t < last
    · simp [hw, h1] at h
    · omega

theorem when9_any (b : Nat) (R F J last stamp time at0 t : Int) (heard kept : Bool) (w : World) (K : Box9 w b (.int .i64 R) (.int .i64 F) (.int .i64 J) (.int .i64 last) (.bool heard) (.int .i64 stamp) (.int .i64 time) (.bool kept) (.int .i64 at0)) :
    Calls Try.prog 61 #[.pointer (some ⟨b, 0, none⟩), .int .i64 t] w fun e w' => e = .returned (.int .i64 (whenF last t)) ∧ Gr w w' := by
  have Hfi := Lib.hid (when_first last t)
  go_enter Try.func61, Try.ntmps61
  go_wp2
  go_region_held3 (fun w' => Box9 w' b (.int .i64 R) (.int .i64 F) (.int .i64 J) (.int .i64 last) (.bool heard) (.int .i64 stamp) (.int .i64 time) (.bool kept) (.int .i64 at0)) ((refine Box9.mono K ?_; (repeat (first | exact Gr.refl _ | assumption | refine Gr.alloc ?_ _ | refine Gr.drew ?_ | refine Gr.drewN ?_ _ | (refine Gr.put ?_ ?_ _; first | exact Nat.le_refl _ | (simp; done) | omega) | (apply Gr.after; assumption))); done)) (first | (go_at_call 42; refine (within_any _ _ _ _).mono ?_; rintro e w' ⟨rfl, rfl⟩) | (go_at_call 41; refine (when_any _ _ _).mono ?_; rintro e w' ⟨rfl, rfl⟩) | ((go_at_call 39; with_reducible refine (first2_any _ _ _ _ _ ?_).mono ?_; (focus (simp; done)); rintro e w' ⟨rfl, rfl⟩); rw [Hfi.out]) | ((go_at_call 39; with_reducible refine (first2d_any _ _ _ _ _ ?_).mono ?_; (focus (simp; done)); rintro e w' ⟨rfl, rfl⟩); rw [Hfi.out]))
  go_wp2
  go_ret
  exact ⟨rfl, (by repeat (first | exact Gr.refl _ | assumption | refine Gr.alloc ?_ _ | refine Gr.drew ?_ | refine Gr.drewN ?_ _ | (refine Gr.put ?_ ?_ _; first | exact Nat.le_refl _ | (simp; done) | omega) | (apply Gr.after; assumption)))⟩
theorem isTime_any (t : Int) (w : World) :
    Calls Try.prog 69 #[.int .i64 t] w fun e w' => e = .returned (.bool (withinB t 0 36000000)) ∧ w = w' := by
  by_cases h1 : 0 ≤ t
  · go_enter Try.func69, Try.ntmps69
    go_wp2_with (go_at_call 46; refine (within1_any _ _ _ _).mono ?_; rintro e w' ⟨rfl, rfl⟩)
    go_ret
    exact ⟨by simp [withinB, h1], rfl⟩
  · have h1' : decide (0 ≤ t) = false := by simpa using h1
    go_enter Try.func69, Try.ntmps69
    go_wp2_with (go_at_call 46; refine (within1_any _ _ _ _).mono ?_; rintro e w' ⟨rfl, rfl⟩)
    go_ret
    exact ⟨by simp [withinB]; try omega, rfl⟩
theorem begins8_any (b : Nat) (R F J last stamp time at1 t : Int) (heard : Bool) (w : World) (K : Box8 w b (.int .i64 R) (.int .i64 F) (.int .i64 J) (.bool heard) (.int .i64 stamp) (.int .i64 time) (.int .i64 last) (.int .i64 at1)) :
    Calls Try.prog 62 #[.pointer (some ⟨b, 0, none⟩), .int .i64 t] w fun e w' => e = .returned (.int .i64 (whenF last t)) ∧ w = w' := by
  cases hw : withinB t 0 36000000
  · have hF : whenF last t = 1 := by simp [whenF, hw]
    rw [hF]; clear hF
    go_enter Try.func62, Try.ntmps62
    go_wp2_with (go_at_call 69; refine (isTime_any _ _).mono ?_; rintro e w' ⟨rfl, rfl⟩)
    go_ret
    exact ⟨rfl, rfl⟩
  · by_cases h1 : t < last
    · have hF : whenF last t = 7 := by simp [whenF, hw, h1]
      rw [hF]; clear hF
      go_enter Try.func62, Try.ntmps62
      go_wp2_with (go_at_call 69; refine (isTime_any _ _).mono ?_; rintro e w' ⟨rfl, rfl⟩)
      go_ret
      exact ⟨rfl, rfl⟩
    · have hF : whenF last t = 0 := by simp [whenF, hw, h1]
      rw [hF]; clear hF
      go_enter Try.func62, Try.ntmps62
      go_wp2_with (go_at_call 69; refine (isTime_any _ _).mono ?_; rintro e w' ⟨rfl, rfl⟩)
      go_ret
      exact ⟨rfl, rfl⟩
end Go.Proofs.Ytgjclbkcnilkbaa
