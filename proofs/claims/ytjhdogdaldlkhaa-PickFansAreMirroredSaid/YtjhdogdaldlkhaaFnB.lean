/- Fans: the reference's CheckFan. -/
import Derived.Test.YtjhdogdaldlkhaaFnA
namespace Go.Proofs.Ytjhdogdaldlkhaa
open Go.RowKit
set_option linter.unusedVariables false
set_option linter.unusedSimpArgs false
set_option maxHeartbeats 1000000 in
theorem CheckFan4_any (l : List Int) (v : Value) (b g : Int) (w : World) (hl : (sliceC intC).is w [v] l) :
    Calls Try.prog 16 #[.agg #[v, .int .i64 b, .int .i64 g]] w fun e w' => e = .returned (.int .i64 (fanF l b g)) ∧ Gr w w' := by
  obtain ⟨a, n, cap, rfl, HN, hn, hcap⟩ := sliceC_open hl
  have HL := Lib.hid hl; clear hl
  generalize hR : fanF l b g = R
  unfold fanF at hR
  rw [← HN.out] at hR
  have HR := Lib.hid hR; clear hR
  have g0 : Gr w (w.alloc (.cells #[.slice a n cap, .int .i64 b, .int .i64 g] 33)) := (by repeat (first | exact Gr.refl _ | assumption | refine Gr.alloc ?_ _ | refine Gr.drew ?_ | refine Gr.drewN ?_ _ | (refine Gr.put ?_ ?_ _; first | exact Nat.le_refl _ | (simp; done) | omega) | (apply Gr.after; assumption)))
  by_cases h0 : n = 0
  · have e := HR.out; rw [if_pos h0] at e; subst e; clear HR
    have h0' : ((n : Int) == 0) = true := by simp; omega
    clear h0
    go_enter Try.func16, Try.ntmps16
    go_wp2
    go_ret
    exact ⟨rfl, g0⟩
  · have e := HR.out; rw [if_neg h0] at e; clear HR; have HR := Lib.hid e; clear e
    have h0' : ((n : Int) == 0) = false := by simp; omega
    clear h0
    by_cases h1 : 20 < n
    · have e := HR.out; rw [if_pos h1] at e; subst e; clear HR
      go_enter Try.func16, Try.ntmps16
      go_wp2
      go_ret
      exact ⟨rfl, g0⟩
    · have e := HR.out; rw [if_neg h1] at e; clear HR; have HR := Lib.hid e; clear e
      have h1' : decide (20 < n) = false := decide_eq_false h1
      have h1'' : decide ((20 : Int) < (n : Int)) = false := decide_eq_false (by omega)
      clear h1
      have K : Box3 (w.alloc (.cells #[.slice a n cap, .int .i64 b, .int .i64 g] 33)) w.heap.size (.slice a n cap) (.int .i64 b) (.int .i64 g) := Box3.of (by repeat (first | exact heap_last _ _ | (refine heap_at _ _ _ ?_; (simp; done)) | (refine heap_old _ _ _ _ (by simp; try omega) ?_)))
      go_enter Try.func16, Try.ntmps16
      go_wp2
      have HW := Lib.hid ((sliceC intC).mono HL.out g0)
      generalize (w.alloc (.cells #[.slice a n cap, .int .i64 b, .int .i64 g] 33)) = W at *
      generalize w.heap.size = bb at *
      go_loop [18] (fun i => ∃ k : Nat, k ≤ n ∧ i = .int .i64 k ∧ Hid ((if (l.drop k).any badLv = true then 1 else if withinB b 1 9999 = false ∨ withinB g 1 50 = false then 1 else 0) = R)) (fun i => n - (intOf i).toNat)
      case atStart => exact ⟨0, Nat.zero_le _, rfl, HR⟩
      case round =>
        clear HR
        obtain ⟨k, hk, rfl, HR⟩ := hrel
        by_cases hlt : k < n
        · have hkl : k < l.length := by have := HN.out; omega
          obtain ⟨b', off, rfl, c0, -⟩ := sliceC_int HW.out hkl
          have hE := HR.out
          rw [List.drop_eq_getElem_cons hkl, List.any_cons] at hE
          clear HR
          generalize l[k] = x at *
          cases hb : withinB x 0 65535
          · have hE : R = 1 := by rw [show badLv x = true by simp [badLv, hb]] at hE; simpa using hE.symm
            subst hE
            go_wp2_with (go_at_call 42; refine (isLevel1_any _ _).mono ?_; rintro e w' ⟨rfl, rfl⟩)
            go_ret
            exact ⟨rfl, g0⟩
          · rw [show badLv x = false by simp [badLv, hb], Bool.false_or] at hE
            have HE := Lib.hid hE; clear hE
            go_wp2_with (go_at_call 42; refine (isLevel1_any _ _).mono ?_; rintro e w' ⟨rfl, rfl⟩)
            go_round
            case rel => exact ⟨k + 1, by omega, by go_num, HE⟩
            case measure => simp [intOf]; omega
        · have e := HR.out
          rw [List.drop_eq_nil_of_le (by have := HN.out; omega), List.any_nil, if_neg (by decide)] at e
          clear HR
          have HR := Lib.hid e; clear e
          cases h3 : withinB b 1 9999 <;> cases h4 : withinB g 1 50
          all_goals
            have e := HR.out
            simp only [h3, h4, true_or, or_true, if_true, Bool.true_eq_false, or_self, if_false] at e
            subst e; clear HR
            go_wp2_with (go_at_call 48; refine (within1_any _ _ _ _).mono ?_; rintro e w' ⟨rfl, rfl⟩)
            go_ret
            exact ⟨rfl, g0⟩
end Go.Proofs.Ytjhdogdaldlkhaa
