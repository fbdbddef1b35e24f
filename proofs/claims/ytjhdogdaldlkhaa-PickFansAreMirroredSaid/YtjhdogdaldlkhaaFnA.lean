/- Fans: CheckFan and its reference. -/
import Derived.Test.YtjhdogdaldlkhaaLvB
import Derived.Test.YtjhdogdaldlkhaaSlA
namespace Go.Proofs.Ytjhdogdaldlkhaa
open Go.RowKit
set_option linter.unusedVariables false
set_option linter.unusedSimpArgs false

theorem fanLit_any (n : Int) (w : World) :
    Calls Try.prog 51 #[.int .i64 n] w fun e w' => e = .returned (.bool (!withinB n 0 65535)) ∧ w = w' := by
  go_enter Try.func51, Try.ntmps51
  go_wp2_with (go_at_call 41; refine (isLevel_any _ _).mono ?_; rintro e w' ⟨rfl, rfl⟩)
  go_ret
  exact ⟨rfl, rfl⟩
/-- The first index at which something holds, or -1. -/
def idxF (p : Int → Bool) : List Int → Int → Int
  | [], _ => -1
  | x :: r, i => if p x = true then i else idxF p r (i + 1)
def badLv (x : Int) : Bool := !withinB x 0 65535
set_option maxHeartbeats 1000000 in
theorem idxFan_any (l : List Int) (v : Value) (w : World) (hl : (sliceC intC).is w [v] l) :
    Calls Try.prog 85 #[v, .func (.func 51) #[] #[]] w fun e w' => e = .returned (.int .i64 (idxF badLv l 0)) ∧ w = w' := by
  obtain ⟨a, n, cap, rfl, HN, hn, hcap⟩ := sliceC_open hl
  have HL := Lib.hid hl; clear hl
  go_enter Try.func85, Try.ntmps85
  go_wp2
  go_loop [8] (fun i => ∃ k : Nat, k ≤ n ∧ i = .int .i64 k ∧ Hid (idxF badLv (l.drop k) k = idxF badLv l 0)) (fun i => n - (intOf i).toNat)
  case atStart => exact ⟨0, Nat.zero_le _, rfl, Lib.hid rfl⟩
  case round =>
    obtain ⟨k, hk, rfl, HE⟩ := hrel
    by_cases hlt : k < n
    · have hkl : k < l.length := by have := HN.out; omega
      obtain ⟨b, off, rfl, c0, -⟩ := sliceC_int HL.out hkl
      have hE := HE.out
      rw [List.drop_eq_getElem_cons hkl, idxF] at hE
      clear HE
      generalize l[k] = x at *
      cases hb : withinB x 0 65535
      · rw [if_pos (by simp [badLv, hb])] at hE
        have HE := Lib.hid hE; clear hE
        go_wp2_with (go_at_call 51; refine (fanLit_any _ _).mono ?_; rintro e w' ⟨rfl, rfl⟩)
        go_ret
        exact ⟨ret_int HE.out, rfl⟩
      · rw [if_neg (by simp [badLv, hb])] at hE
        have HE := Lib.hid hE; clear hE
        go_wp2_with (go_at_call 51; refine (fanLit_any _ _).mono ?_; rintro e w' ⟨rfl, rfl⟩)
        go_round
        case rel => exact ⟨k + 1, by omega, by go_num, Lib.hid (by rw [← HE.out]; rfl)⟩
        case measure => simp [intOf]; omega
    · go_wp2
      go_ret
      have hE := HE.out
      rw [List.drop_eq_nil_of_le (by have := HN.out; omega), idxF] at hE
      exact ⟨ret_int hE, rfl⟩
theorem idxF_ge' (p : Int → Bool) (l : List Int) (i : Int) (hi : 0 ≤ i) : 0 ≤ idxF p l i ↔ l.any p = true := by
  induction l generalizing i with
  | nil => simp [idxF]
  | cons x r ih =>
    rw [idxF, List.any_cons]
    by_cases h : p x = true
    · rw [if_pos h, h]; simp [hi]
    · rw [if_neg h, Bool.eq_false_iff.2 h, Bool.false_or]; exact ih (i + 1) (by omega)
theorem idxF_ge (p : Int → Bool) (l : List Int) (i : Int) (hi : 0 ≤ i) : decide (0 ≤ idxF p l i) = l.any p := by
  rw [Bool.eq_iff_iff, decide_eq_true_iff]; exact idxF_ge' p l i hi
theorem anyFan_any (l : List Int) (v : Value) (w : World) (hl : (sliceC intC).is w [v] l) :
    Calls Try.prog 50 #[v, .func (.func 51) #[] #[]] w fun e w' => e = .returned (.bool (l.any badLv)) ∧ w = w' := by
  have HL := Lib.hid hl; clear hl
  have HI := Lib.hid (idxF_ge badLv l 0 (Int.le_refl _))
  go_enter Try.func50, Try.ntmps50
  go_wp2_with (go_at_call 85; refine (idxFan_any l _ _ HL.out).mono ?_; rintro e w' ⟨rfl, rfl⟩)
  go_ret
  exact ⟨by rw [← HI.out]; rfl, rfl⟩
/-- A fan's fault. -/
def fanF (l : List Int) (b g : Int) : Int := if l.length = 0 then 8 else if 20 < l.length then 2 else if l.any badLv = true then 1 else if withinB b 1 9999 = false ∨ withinB g 1 50 = false then 1 else 0
set_option maxHeartbeats 1000000 in
theorem CheckFan_any (l : List Int) (v : Value) (b g : Int) (w : World) (hl : (sliceC intC).is w [v] l) :
    Calls Try.prog 15 #[.agg #[v, .int .i64 b, .int .i64 g]] w fun e w' => e = .returned (.int .i64 (fanF l b g)) ∧ Gr w w' := by
  obtain ⟨a, n, cap, rfl, HN, hn, hcap⟩ := sliceC_open hl
  have HL := Lib.hid hl; clear hl
  generalize hR : fanF l b g = R
  unfold fanF at hR
  rw [← HN.out] at hR
  have HR := Lib.hid hR; clear hR
  have g0 : Gr w (w.alloc (.cells #[.slice a n cap, .int .i64 b, .int .i64 g] 33)) := (by repeat (first | exact Gr.refl _ | assumption | refine Gr.alloc ?_ _ | refine Gr.drew ?_ | refine Gr.drewN ?_ _ | (refine Gr.put ?_ ?_ _; first | exact Nat.le_refl _ | (simp; done) | omega) | (apply Gr.after; assumption)))
  by_cases h0 : n = 0
  · have e := HR.out; rw [if_pos h0] at e; subst e; clear HR
    have h0' : ((n : Int) == 0) = true := by simp; omega
    clear h0
    go_enter Try.func15, Try.ntmps15
    go_wp2
    go_ret
    exact ⟨rfl, g0⟩
  · have e := HR.out; rw [if_neg h0] at e; clear HR; have HR := Lib.hid e; clear e
    have h0' : ((n : Int) == 0) = false := by simp; omega
    clear h0
    by_cases h1 : 20 < n
    · have e := HR.out; rw [if_pos h1] at e; subst e; clear HR
      go_enter Try.func15, Try.ntmps15
      go_wp2
      go_ret
      exact ⟨rfl, g0⟩
    · have e := HR.out; rw [if_neg h1] at e; clear HR; have HR := Lib.hid e; clear e
      have h1' : decide (20 < n) = false := decide_eq_false h1
      have h1'' : decide ((20 : Int) < (n : Int)) = false := decide_eq_false (by omega)
      clear h1
      cases h2 : l.any badLv
      · have e := HR.out; rw [if_neg (by simp [h2])] at e; clear HR; have HR := Lib.hid e; clear e
        cases h3 : withinB b 1 9999 <;> cases h4 : withinB g 1 50
        all_goals
          have e := HR.out
          simp only [h3, h4, true_or, or_true, if_true, Bool.true_eq_false, or_self, if_false] at e
          subst e; clear HR
          go_enter Try.func15, Try.ntmps15
          go_wp2_with (first
            | (go_at_call 46; refine (within_any _ _ _ _).mono ?_; rintro e w' ⟨rfl, rfl⟩)
            | (go_at_call 50; refine (anyFan_any l _ _ ((sliceC intC).mono HL.out g0)).mono ?_; rintro e w' ⟨rfl, rfl⟩))
          go_ret
          exact ⟨rfl, g0⟩
      · have e := HR.out; rw [if_pos (by simp [h2])] at e; subst e; clear HR
        go_enter Try.func15, Try.ntmps15
        go_wp2_with (first
          | (go_at_call 46; refine (within_any _ _ _ _).mono ?_; rintro e w' ⟨rfl, rfl⟩)
          | (go_at_call 50; refine (anyFan_any l _ _ ((sliceC intC).mono HL.out g0)).mono ?_; rintro e w' ⟨rfl, rfl⟩))
        go_ret
        exact ⟨rfl, g0⟩
end Go.Proofs.Ytjhdogdaldlkhaa
