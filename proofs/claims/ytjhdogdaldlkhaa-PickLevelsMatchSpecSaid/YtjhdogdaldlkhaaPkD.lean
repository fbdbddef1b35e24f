/- The contract of the reference's Level. -/
import Derived.Test.YtjhdogdaldlkhaaPkC
namespace Go.Proofs.Ytjhdogdaldlkhaa
open Go.RowKit
set_option linter.unusedVariables false
set_option linter.unusedSimpArgs false

theorem findP_presetOf (k : KeyD) (n : Int) (l : List PresetD) : findP k n l = if (presetOf n l).2 = true then findS k (presetOf n l).1.settings else (0, 8) := by
  induction l with
  | nil => rfl
  | cons p r ih => simp only [findP, presetOf]; split <;> simp_all
set_option maxHeartbeats 1000000 in
theorem Level4_any (l : List PresetD) (ku : Int) (kp : ByteArray) (vl vp : Int) (sv : Value) (w : World) (hl : (sliceC presetC).is w [sv] l) :
    Calls Try.prog 12 #[sv, .agg #[.int .i64 ku, .string kp], .agg #[.int .i64 vl, .int .i64 vp]] w fun e w' =>
      e = .returned (.tuple #[.int .i64 (levelF l ⟨ku, kp⟩ ⟨vl, vp⟩).1, .int .i64 (levelF l ⟨ku, kp⟩ ⟨vl, vp⟩).2]) ∧ Gr w w' := by
  have HL := Lib.hid hl; clear hl
  generalize hR : levelF l ⟨ku, kp⟩ ⟨vl, vp⟩ = R
  obtain ⟨R1, R2⟩ := R
  unfold levelF at hR
  simp only at hR
  have HR := Lib.hid hR; clear hR
  by_cases h1 : vl ≠ 0 ∧ vp ≠ 0
  · have e := HR.out; rw [if_pos h1] at e; obtain ⟨rfl, rfl⟩ := Prod.mk.inj e; clear e HR
    have h1a : (vl != 0) = true := by simpa using h1.1
    have h1b : (vp != 0) = true := by simpa using h1.2
    clear h1
    go_enter Try.func12, Try.ntmps12
    go_wp2
    go_ret2
    exact ⟨rfl, (by repeat (first | exact Gr.refl _ | assumption | refine Gr.alloc ?_ _ | refine Gr.drew ?_ | refine Gr.drewN ?_ _ | (refine Gr.put ?_ ?_ _; first | exact Nat.le_refl _ | (simp; done) | omega) | (apply Gr.after; assumption)))⟩
  · have e := HR.out; rw [if_neg h1] at e; clear HR; have HR := Lib.hid e; clear e
    cases h2 : withinB vl 0 65535
    · have e := HR.out; rw [if_pos h2] at e; obtain ⟨rfl, rfl⟩ := Prod.mk.inj e; clear e HR
      by_cases h3 : vl = 0
      · subst h3; exact absurd h2 (by decide)
      · have h1a : (vl != 0) = true := by simpa using h3
        have h1b : (vp != 0) = false := by simp; exact Classical.not_not.1 fun h => h1 ⟨h3, h⟩
        clear h1 h3
        go_enter Try.func12, Try.ntmps12
        go_wp2_with (go_at_call 42; refine (isLevel1_any _ _).mono ?_; rintro e w' ⟨rfl, rfl⟩)
        go_ret2
        exact ⟨rfl, (by repeat (first | exact Gr.refl _ | assumption | refine Gr.alloc ?_ _ | refine Gr.drew ?_ | refine Gr.drewN ?_ _ | (refine Gr.put ?_ ?_ _; first | exact Nat.le_refl _ | (simp; done) | omega) | (apply Gr.after; assumption)))⟩
    · have e := HR.out; rw [if_neg (by simp [h2])] at e; clear HR; have HR := Lib.hid e; clear e
      by_cases h4 : vp = 0
      · subst h4
        have e := HR.out; rw [if_pos rfl] at e; obtain ⟨rfl, rfl⟩ := Prod.mk.inj e; clear e HR
        cases h1a : (vl != 0)
        all_goals
          go_enter Try.func12, Try.ntmps12
          go_wp2_with (go_at_call 42; refine (isLevel1_any _ _).mono ?_; rintro e w' ⟨rfl, rfl⟩)
          go_ret2
          exact ⟨rfl, (by repeat (first | exact Gr.refl _ | assumption | refine Gr.alloc ?_ _ | refine Gr.drew ?_ | refine Gr.drewN ?_ _ | (refine Gr.put ?_ ?_ _; first | exact Nat.le_refl _ | (simp; done) | omega) | (apply Gr.after; assumption)))⟩
      · have e := HR.out; rw [if_neg h4, findP_presetOf] at e; clear HR; have HR := Lib.hid e; clear e
        have h3 : vl = 0 := Classical.not_not.1 fun h => h1 ⟨h, h4⟩
        subst h3
        have h4a : (vp == 0) = false := by simpa using h4
        clear h1 h4
        have hek := eql_key
        generalize hpo : presetOf vp l = po at *
        obtain ⟨⟨pn, pt, ps⟩, found⟩ := po
        have HPO := Lib.hid hpo; clear hpo
        have K1 : Box2 ((w.alloc (.cells #[.int .i64 ku, .string kp] 24)).alloc (.cells #[.int .i64 0, .int .i64 vp] 26)) w.heap.size (.int .i64 ku) (.string kp) := Box2.of (by repeat (first | exact heap_last _ _ | (refine heap_at _ _ _ ?_; (simp; done)) | (refine heap_old _ _ _ _ (by simp; try omega) ?_)))
        have g0 : Gr w ((w.alloc (.cells #[.int .i64 ku, .string kp] 24)).alloc (.cells #[.int .i64 0, .int .i64 vp] 26)) := (by repeat (first | exact Gr.refl _ | assumption | refine Gr.alloc ?_ _ | refine Gr.drew ?_ | refine Gr.drewN ?_ _ | (refine Gr.put ?_ ?_ _; first | exact Nat.le_refl _ | (simp; done) | omega) | (apply Gr.after; assumption)))
        cases found
        all_goals
         go_enter Try.func12, Try.ntmps12
         go_wp2_with (first | (go_at_call 42; refine (isLevel1_any _ _).mono ?_; rintro e w' ⟨rfl, rfl⟩) | (go_at_call 43; refine (presetOf4_any l _ _ _ ((sliceC presetC).mono HL.out g0)).mono ?_; rintro e w1 ⟨cs, rfl, hcs, hG1⟩; rw [HPO.out] at hcs ⊢; obtain ⟨v_ps, rfl, -, -, h_ps⟩ := hcs; simp only at h_ps; obtain ⟨a_ps, n_ps, cap_ps, rfl, N_ps, nle_ps, cle_ps⟩ := sliceC_open h_ps; have H_ps := Lib.hid h_ps; clear h_ps))
        · have e := HR.out
          simp only [Bool.false_eq_true, if_false] at e
          obtain ⟨rfl, rfl⟩ := Prod.mk.inj e
          go_ret2
          exact ⟨rfl, (g0.trans hG1).alloc _⟩
        · have e := HR.out
          simp only [if_true] at e
          have HR3 := Lib.hid e; clear e HR
          have hG2 : Gr w (w1.alloc (.cells #[.int .i64 pn, .string pt, .slice a_ps n_ps cap_ps] 67)) := (g0.trans hG1).alloc _
          replace K1 := K1.mono (w1 := (w1.alloc (.cells #[.int .i64 pn, .string pt, .slice a_ps n_ps cap_ps] 67))) (hG1.alloc _)
          replace H_ps := Lib.hid ((sliceC settingC).mono (w' := (w1.alloc (.cells #[.int .i64 pn, .string pt, .slice a_ps n_ps cap_ps] 67))) H_ps.out ((Gr.refl _).alloc _))
          generalize (w1.alloc (.cells #[.int .i64 pn, .string pt, .slice a_ps n_ps cap_ps] 67)) = W2 at *
          generalize w.heap.size = b at *
          go_loopw [44] (fun i wr => ∃ j : Nat, j ≤ n_ps ∧ i = .int .i64 j ∧ Hid (findS ⟨ku, kp⟩ (ps.drop j) = (R1, R2)) ∧ Gr W2 wr) (fun i _ => n_ps - (intOf i).toNat)
          case atStart => exact ⟨0, Nat.zero_le _, rfl, HR3, Gr.refl _⟩
          case round =>
            clear HR3
            obtain ⟨j, hj, rfl, HR, hG3⟩ := hrel
            replace K1 := K1.mono hG3
            by_cases hlt2 : j < n_ps
            · have hjl : j < ps.length := by have := N_ps.out; omega
              obtain ⟨B_c, off_c, rfl, cs_c, hc_c, his_c⟩ := sliceC_cell H_ps.out hjl
              rw [settingC_size] at hc_c
              have HR2 := HR.out
              rw [List.drop_eq_getElem_cons hjl, findS] at HR2
              generalize ps[j] = x_c at *
              obtain ⟨⟨su, sp⟩, sl⟩ := x_c
              obtain ⟨rfl, -, -, -⟩ := his_c
              have c0 := hc_c 0 (by omega)
              have c1 := hc_c 1 (by omega)
              have c2 := hc_c 2 (by omega)
              simp only [List.getElem?_cons_zero, List.getElem?_cons_succ, Nat.add_zero, ← Nat.add_assoc] at c0 c1 c2
              replace c0 := Gr.cell hG3 c0
              replace c1 := Gr.cell hG3 c1
              replace c2 := Gr.cell hG3 c2
              clear hc_c
              try simp only at HR2
              clear HR
              have hin : Gr wr (wr.alloc (.cells #[.int .i64 su, .string sp, .int .i64 sl] 59)) := (by repeat (first | exact Gr.refl _ | assumption | refine Gr.alloc ?_ _ | refine Gr.drew ?_ | refine Gr.drewN ?_ _ | (refine Gr.put ?_ ?_ _; first | exact Nat.le_refl _ | (simp; done) | omega) | (apply Gr.after; assumption)))
              replace K1 := K1.mono hin
              cases hq : keyB su sp ku kp
              · have HR4 : Hid (findS ⟨ku, kp⟩ (ps.drop (j + 1)) = (R1, R2)) := Lib.hid (by rw [if_neg (by rw [← keyB_iff ⟨su, sp⟩ ku kp]; simp [hq])] at HR2; exact HR2)
                clear HR2
                go_wp2
                go_roundw
                case rel => exact ⟨j + 1, by omega, by go_num, HR4, hG3.trans hin⟩
                case measure => simp [intOf]; omega
              · have HR4 : Hid ((sl, (0 : Int)) = (R1, R2)) := Lib.hid (by rw [if_pos ((keyB_iff ⟨su, sp⟩ ku kp).1 hq)] at HR2; exact HR2)
                clear HR2
                go_wp2
                go_ret2
                obtain ⟨rfl, rfl⟩ := Prod.mk.inj HR4.out
                exact ⟨rfl, (hG2.trans hG3).trans hin⟩
            · go_wp2
              go_ret2
              have e := HR.out
              rw [List.drop_eq_nil_of_le (by have := N_ps.out; omega), findS] at e
              obtain ⟨rfl, rfl⟩ := Prod.mk.inj e
              exact ⟨rfl, hG2.trans hG3⟩
theorem pickLevelsMatchSpec_walk (sv : Value) (l : List PresetD) (cs : Array Value) (k : KeyD) (ds : Array Value) (v : ValueD) (w : World) (hl : (sliceC presetC).is w [sv] l) (hk : keyC.is w cs.toList k) (hv : valueC.is w ds.toList v) :
    Calls Try.prog 3 #[sv, .agg cs, .agg ds] w fun e w' => e = .returned (.bool true) ∧ Gr w w' := by
  obtain ⟨ku, kp⟩ := k
  obtain ⟨vl, vp⟩ := v
  obtain ⟨hk, -⟩ := hk
  obtain ⟨hv, -⟩ := hv
  obtain rfl : cs = #[.int .i64 ku, .string kp] := by cases cs; simpa using hk
  obtain rfl : ds = #[.int .i64 vl, .int .i64 vp] := by cases ds; simpa using hv
  have HL := Lib.hid hl; clear hl hk hv
  have g0 : Gr w ((w.alloc (.cells #[.int .i64 ku, .string kp] 24)).alloc (.cells #[.int .i64 vl, .int .i64 vp] 26)) := (by repeat (first | exact Gr.refl _ | assumption | refine Gr.alloc ?_ _ | refine Gr.drew ?_ | refine Gr.drewN ?_ _ | (refine Gr.put ?_ ?_ _; first | exact Nat.le_refl _ | (simp; done) | omega) | (apply Gr.after; assumption)))
  have K1 : Box2 ((w.alloc (.cells #[.int .i64 ku, .string kp] 24)).alloc (.cells #[.int .i64 vl, .int .i64 vp] 26)) w.heap.size (.int .i64 ku) (.string kp) := Box2.of (by repeat (first | exact heap_last _ _ | (refine heap_at _ _ _ ?_; (simp; done)) | (refine heap_old _ _ _ _ (by simp; try omega) ?_)))
  have K2 : Box2 ((w.alloc (.cells #[.int .i64 ku, .string kp] 24)).alloc (.cells #[.int .i64 vl, .int .i64 vp] 26)) (w.heap.size + 1) (.int .i64 vl) (.int .i64 vp) := Box2.of (by repeat (first | exact heap_last _ _ | (refine heap_at _ _ _ ?_; (simp; done)) | (refine heap_old _ _ _ _ (by simp; try omega) ?_)))
  go_enter Try.func3, Try.ntmps3
  go_wp2_with (first
    | (go_at_call 11; refine (Level_any l _ _ _ _ _ _ ((sliceC presetC).mono HL.out g0)).mono ?_; rintro e w1 ⟨rfl, hb1⟩; replace K1 := K1.mono hb1; replace K2 := K2.mono hb1)
    | (go_at_call 12; refine (Level4_any l _ _ _ _ _ _ ((sliceC presetC).mono HL.out (g0.trans hb1))).mono ?_; rintro e w2 ⟨rfl, hb2⟩))
  go_ret
  exact ⟨rfl, (g0.trans hb1).trans hb2⟩
end Go.Proofs.Ytjhdogdaldlkhaa
