/- The contract of pick's Level. -/
import Derived.Test.YtjhdogdaldlkhaaPkA
namespace Go.Proofs.Ytjhdogdaldlkhaa
open Go.RowKit
set_option linter.unusedVariables false
set_option linter.unusedSimpArgs false

def findS (k : KeyD) : List SettingD → Int × Int
  | [] => (0, 8)
  | s :: r => if s.key = k then (s.level, 0) else findS k r
def findP (k : KeyD) (n : Int) : List PresetD → Int × Int
  | [] => (0, 8)
  | p :: r => if p.number = n then findS k p.settings else findP k n r
def levelF (l : List PresetD) (k : KeyD) (v : ValueD) : Int × Int :=
  if v.level ≠ 0 ∧ v.preset ≠ 0 then (0, 3) else if withinB v.level 0 65535 = false then (0, 1) else if v.preset = 0 then (v.level, 0) else findP k v.preset l

set_option maxHeartbeats 1000000 in
theorem Level_any (l : List PresetD) (ku : Int) (kp : ByteArray) (vl vp : Int) (sv : Value) (w : World) (hl : (sliceC presetC).is w [sv] l) :
    Calls Try.prog 11 #[sv, .agg #[.int .i64 ku, .string kp], .agg #[.int .i64 vl, .int .i64 vp]] w fun e w' =>
      e = .returned (.tuple #[.int .i64 (levelF l ⟨ku, kp⟩ ⟨vl, vp⟩).1, .int .i64 (levelF l ⟨ku, kp⟩ ⟨vl, vp⟩).2]) ∧ Gr w w' := by
  obtain ⟨a, n, cap, rfl, HN, hn, hcap⟩ := sliceC_open hl
  have HL := Lib.hid hl; clear hl
  generalize hR : levelF l ⟨ku, kp⟩ ⟨vl, vp⟩ = R
  obtain ⟨R1, R2⟩ := R
  unfold levelF at hR
  simp only at hR
  have HR := Lib.hid hR; clear hR
  by_cases h1 : vl ≠ 0 ∧ vp ≠ 0
  · have e := HR.out; rw [if_pos h1] at e; obtain ⟨rfl, rfl⟩ := Prod.mk.inj e; clear e HR
    have h1a : (vl != 0) = true := by simpa using h1.1
    have h1b : (vp != 0) = true := by simpa using h1.2
    clear h1
    go_enter Try.func11, Try.ntmps11
    go_wp2
    go_ret2
    exact ⟨rfl, (by repeat (first | exact Gr.refl _ | assumption | refine Gr.alloc ?_ _ | refine Gr.drew ?_ | refine Gr.drewN ?_ _ | (refine Gr.put ?_ ?_ _; first | exact Nat.le_refl _ | (simp; done) | omega) | (apply Gr.after; assumption)))⟩
  · have e := HR.out; rw [if_neg h1] at e; clear HR; have HR := Lib.hid e; clear e
    cases h2 : withinB vl 0 65535
    · have e := HR.out; rw [if_pos h2] at e; obtain ⟨rfl, rfl⟩ := Prod.mk.inj e; clear e HR
      by_cases h3 : vl = 0
      · subst h3; exact absurd h2 (by decide)
      · have h1a : (vl != 0) = true := by simpa using h3
        have h1b : (vp != 0) = false := by simp; exact Classical.not_not.1 fun h => h1 ⟨h3, h⟩
        clear h1 h3
        go_enter Try.func11, Try.ntmps11
        go_wp2_with (go_at_call 41; refine (isLevel_any _ _).mono ?_; rintro e w' ⟨rfl, rfl⟩)
        go_ret2
        exact ⟨rfl, (by repeat (first | exact Gr.refl _ | assumption | refine Gr.alloc ?_ _ | refine Gr.drew ?_ | refine Gr.drewN ?_ _ | (refine Gr.put ?_ ?_ _; first | exact Nat.le_refl _ | (simp; done) | omega) | (apply Gr.after; assumption)))⟩
    · have e := HR.out; rw [if_neg (by simp [h2])] at e; clear HR; have HR := Lib.hid e; clear e
      by_cases h4 : vp = 0
      · subst h4
        have e := HR.out; rw [if_pos rfl] at e; obtain ⟨rfl, rfl⟩ := Prod.mk.inj e; clear e HR
        cases h1a : (vl != 0)
        all_goals
          go_enter Try.func11, Try.ntmps11
          go_wp2_with (go_at_call 41; refine (isLevel_any _ _).mono ?_; rintro e w' ⟨rfl, rfl⟩)
          go_ret2
          exact ⟨rfl, (by repeat (first | exact Gr.refl _ | assumption | refine Gr.alloc ?_ _ | refine Gr.drew ?_ | refine Gr.drewN ?_ _ | (refine Gr.put ?_ ?_ _; first | exact Nat.le_refl _ | (simp; done) | omega) | (apply Gr.after; assumption)))⟩
      · have e := HR.out; rw [if_neg h4] at e; clear HR; have HR := Lib.hid e; clear e
        have h3 : vl = 0 := Classical.not_not.1 fun h => h1 ⟨h, h4⟩
        subst h3
        have h4a : (vp == 0) = false := by simpa using h4
        clear h1 h4 
        have hek := eql_key
        go_enter Try.func11, Try.ntmps11
        go_wp2_with (go_at_call 41; refine (isLevel_any _ _).mono ?_; rintro e w' ⟨rfl, rfl⟩)
        have K1 : Box2 (w.alloc (.cells #[.int .i64 ku, .string kp] 24)) w.heap.size (.int .i64 ku) (.string kp) := Box2.of (by repeat (first | exact heap_last _ _ | (refine heap_at _ _ _ ?_; (simp; done)) | (refine heap_old _ _ _ _ (by simp; try omega) ?_)))
        have K2 : Box2 ((w.alloc (.cells #[.int .i64 ku, .string kp] 24)).alloc (.cells #[.int .i64 0, .int .i64 vp] 26)) (w.heap.size + 1) (.int .i64 0) (.int .i64 vp) := Box2.of (by repeat (first | exact heap_last _ _ | (refine heap_at _ _ _ ?_; (simp; done)) | (refine heap_old _ _ _ _ (by simp; try omega) ?_)))
        have g0 : Gr w ((w.alloc (.cells #[.int .i64 ku, .string kp] 24)).alloc (.cells #[.int .i64 0, .int .i64 vp] 26)) := (by repeat (first | exact Gr.refl _ | assumption | refine Gr.alloc ?_ _ | refine Gr.drew ?_ | refine Gr.drewN ?_ _ | (refine Gr.put ?_ ?_ _; first | exact Nat.le_refl _ | (simp; done) | omega) | (apply Gr.after; assumption)))
        replace K1 := K1.mono (w1 := ((w.alloc (.cells #[.int .i64 ku, .string kp] 24)).alloc (.cells #[.int .i64 0, .int .i64 vp] 26))) (by repeat (first | exact Gr.refl _ | assumption | refine Gr.alloc ?_ _ | refine Gr.drew ?_ | refine Gr.drewN ?_ _ | (refine Gr.put ?_ ?_ _; first | exact Nat.le_refl _ | (simp; done) | omega) | (apply Gr.after; assumption)))
        generalize ((w.alloc (.cells #[.int .i64 ku, .string kp] 24)).alloc (.cells #[.int .i64 0, .int .i64 vp] 26)) = W at *
        generalize w.heap.size = b at *
        go_loopw [31] (fun i wr => ∃ k : Nat, k ≤ n ∧ i = .int .i64 k ∧ Hid (findP ⟨ku, kp⟩ vp (l.drop k) = (R1, R2)) ∧ Gr W wr) (fun i _ => n - (intOf i).toNat)
        case atStart => exact ⟨0, Nat.zero_le _, rfl, HR, Gr.refl _⟩
        case round =>
          obtain ⟨k, hk, rfl, HR, hG⟩ := hrel
          replace K1 := K1.mono hG
          replace K2 := K2.mono hG
          by_cases hlt : k < n
          · have hkl : k < l.length := by have := HN.out; omega
            obtain ⟨B, off, rfl, cs, hc, his⟩ := sliceC_cell ((sliceC presetC).mono HL.out (g0.trans hG)) hkl
            rw [presetC_size] at hc
            have HR2 := HR.out
            rw [List.drop_eq_getElem_cons hkl, findP] at HR2
            generalize l[k] = x at *
            obtain ⟨pn, pt, ps⟩ := x
            obtain ⟨sv, rfl, _, _, hs⟩ := his
            have c0 := hc 0 (by omega)
            have c1 := hc 1 (by omega)
            have c2 := hc 2 (by omega)
            simp only [List.getElem?_cons_zero, List.getElem?_cons_succ, Nat.add_zero, ← Nat.add_assoc] at c0 c1 c2
            clear hc
            simp only at hs HR2
            obtain ⟨sa, m, scap, rfl, HM, hsn, hscap⟩ := sliceC_open hs
            have HS := Lib.hid hs; clear hs
            by_cases hpn : pn = vp
            · rw [if_pos hpn] at HR2
              have HR3 := Lib.hid HR2; clear HR2 HR
              have hpn' : (pn != vp) = false := by simpa using hpn
              clear hpn
              replace K2 := K2.mono (w1 := wr.alloc (.cells #[.int .i64 pn, .string pt, .slice sa m scap] 67)) (by repeat (first | exact Gr.refl _ | assumption | refine Gr.alloc ?_ _ | refine Gr.drew ?_ | refine Gr.drewN ?_ _ | (refine Gr.put ?_ ?_ _; first | exact Nat.le_refl _ | (simp; done) | omega) | (apply Gr.after; assumption)))
              replace K1 := K1.mono (w1 := wr.alloc (.cells #[.int .i64 pn, .string pt, .slice sa m scap] 67)) (by repeat (first | exact Gr.refl _ | assumption | refine Gr.alloc ?_ _ | refine Gr.drew ?_ | refine Gr.drewN ?_ _ | (refine Gr.put ?_ ?_ _; first | exact Nat.le_refl _ | (simp; done) | omega) | (apply Gr.after; assumption)))
              replace HS := Lib.hid ((sliceC settingC).mono (w' := wr.alloc (.cells #[.int .i64 pn, .string pt, .slice sa m scap] 67)) HS.out (by repeat (first | exact Gr.refl _ | assumption | refine Gr.alloc ?_ _ | refine Gr.drew ?_ | refine Gr.drewN ?_ _ | (refine Gr.put ?_ ?_ _; first | exact Nat.le_refl _ | (simp; done) | omega) | (apply Gr.after; assumption))))
              have hG2 : Gr w (wr.alloc (.cells #[.int .i64 pn, .string pt, .slice sa m scap] 67)) := (g0.trans hG).trans (by repeat (first | exact Gr.refl _ | assumption | refine Gr.alloc ?_ _ | refine Gr.drew ?_ | refine Gr.drewN ?_ _ | (refine Gr.put ?_ ?_ _; first | exact Nat.le_refl _ | (simp; done) | omega) | (apply Gr.after; assumption)))
              go_wp2
              generalize wr.alloc (.cells #[.int .i64 pn, .string pt, .slice sa m scap] 67) = W2 at *
              obtain ⟨wo, rfl⟩ : ∃ wo : World, wo = wr := ⟨_, rfl⟩
              go_loopw [43] (fun i wr2 => ∃ j : Nat, j ≤ m ∧ i = .int .i64 j ∧ Hid (findS ⟨ku, kp⟩ (ps.drop j) = (R1, R2)) ∧ Gr W2 wr2) (fun i _ => m - (intOf i).toNat)
              case atStart => exact ⟨0, Nat.zero_le _, rfl, HR3, Gr.refl _⟩
              case round =>
                clear HR3
                obtain ⟨j, hj, rfl, HR, hG3⟩ := hrel
                replace K1 := K1.mono hG3
                by_cases hlt2 : j < m
                · have hjl : j < ps.length := by have := HM.out; omega
                  obtain ⟨B2, off2, rfl, cs, hc, his⟩ := sliceC_cell ((sliceC settingC).mono HS.out hG3) hjl
                  rw [settingC_size] at hc
                  have HR2 := HR.out
                  rw [List.drop_eq_getElem_cons hjl, findS] at HR2
                  generalize ps[j] = x at *
                  obtain ⟨⟨su, sp⟩, sl⟩ := x
                  obtain ⟨rfl, _⟩ := his
                  have d0 := hc 0 (by omega)
                  have d1 := hc 1 (by omega)
                  have d2 := hc 2 (by omega)
                  simp only [List.getElem?_cons_zero, List.getElem?_cons_succ, Nat.add_zero, ← Nat.add_assoc] at d0 d1 d2
                  clear hc
                  simp only at HR2
                  replace K1 := K1.mono (w1 := wr.alloc (.cells #[.int .i64 su, .string sp, .int .i64 sl] 59)) (by repeat (first | exact Gr.refl _ | assumption | refine Gr.alloc ?_ _ | refine Gr.drew ?_ | refine Gr.drewN ?_ _ | (refine Gr.put ?_ ?_ _; first | exact Nat.le_refl _ | (simp; done) | omega) | (apply Gr.after; assumption)))
                  have hin : Gr wr (wr.alloc (.cells #[.int .i64 su, .string sp, .int .i64 sl] 59)) := (by repeat (first | exact Gr.refl _ | assumption | refine Gr.alloc ?_ _ | refine Gr.drew ?_ | refine Gr.drewN ?_ _ | (refine Gr.put ?_ ?_ _; first | exact Nat.le_refl _ | (simp; done) | omega) | (apply Gr.after; assumption)))
                  cases hq : keyB su sp ku kp
                  · have HR4 : Hid (findS ⟨ku, kp⟩ (ps.drop (j + 1)) = (R1, R2)) := Lib.hid (by rw [if_neg (by rw [← keyB_iff ⟨su, sp⟩ ku kp]; simp [hq])] at HR2; exact HR2)
                    clear HR2
                    go_wp2
                    go_roundw
                    case rel => exact ⟨j + 1, by omega, by go_num, HR4, hG3.trans hin⟩
                    case measure => simp [intOf]; omega
                  · have HR4 : Hid ((sl, (0 : Int)) = (R1, R2)) := Lib.hid (by rw [if_pos ((keyB_iff ⟨su, sp⟩ ku kp).1 hq)] at HR2; exact HR2)
                    clear HR2
                    go_wp2
                    go_ret2
                    obtain ⟨rfl, rfl⟩ := Prod.mk.inj HR4.out
                    exact ⟨rfl, (hG2.trans hG3).trans hin⟩
                · go_wp2
                  go_ret2
                  have e := HR.out
                  rw [List.drop_eq_nil_of_le (by have := HM.out; omega), findS] at e
                  obtain ⟨rfl, rfl⟩ := Prod.mk.inj e
                  exact ⟨rfl, hG2.trans hG3⟩
            · rw [if_neg hpn] at HR2
              have HR3 := Lib.hid HR2; clear HR2
              have hpn' : (pn != vp) = true := by simpa using hpn
              clear hpn
              replace K2 := K2.mono (w1 := wr.alloc (.cells #[.int .i64 pn, .string pt, .slice sa m scap] 67)) (by repeat (first | exact Gr.refl _ | assumption | refine Gr.alloc ?_ _ | refine Gr.drew ?_ | refine Gr.drewN ?_ _ | (refine Gr.put ?_ ?_ _; first | exact Nat.le_refl _ | (simp; done) | omega) | (apply Gr.after; assumption)))
              go_wp2
              go_roundw
              case rel => exact ⟨k + 1, by omega, by go_num, HR3, hG.trans (by repeat (first | exact Gr.refl _ | assumption | refine Gr.alloc ?_ _ | refine Gr.drew ?_ | refine Gr.drewN ?_ _ | (refine Gr.put ?_ ?_ _; first | exact Nat.le_refl _ | (simp; done) | omega) | (apply Gr.after; assumption)))⟩
              case measure => simp [intOf]; omega
          · go_wp2
            go_ret2
            have e := HR.out
            rw [List.drop_eq_nil_of_le (by have := HN.out; omega), findP] at e
            obtain ⟨rfl, rfl⟩ := Prod.mk.inj e
            exact ⟨rfl, g0.trans hG⟩
end Go.Proofs.Ytjhdogdaldlkhaa
