/- The contracts of the reference's PresetOf and Level. -/
import Derived.Test.YtjhdogdaldlkhaaPkB
namespace Go.Proofs.Ytjhdogdaldlkhaa
open Go.RowKit
set_option linter.unusedVariables false
set_option linter.unusedSimpArgs false

def presetOf (n : Int) : List PresetD → PresetD × Bool
  | [] => (⟨0, ByteArray.empty, []⟩, false)
  | p :: r => if p.number = n then (p, true) else presetOf n r
/-- The call returns this struct and this bool; nothing that was there has changed. -/
def RetSB {α : Type} (c : Cod α) (x : α × Bool) (w : World) (e : Ending) (w' : World) : Prop := ∃ cs : List Value, e = .returned (.tuple #[.agg cs.toArray, .bool x.2]) ∧ c.is w' cs x.1 ∧ Gr w w'

set_option maxHeartbeats 1000000 in
theorem presetOf4_any (l : List PresetD) (num : Int) (sv : Value) (w : World) (hl : (sliceC presetC).is w [sv] l) :
    Calls Try.prog 43 #[sv, .int .i64 num] w (RetSB presetC (presetOf num l) w) := by
  obtain ⟨a, n, cap, rfl, HN, hn, hcap⟩ := sliceC_open hl
  have HL := Lib.hid hl; clear hl
  generalize hR : presetOf num l = R
  have HR := Lib.hid hR; clear hR
  go_enter Try.func43, Try.ntmps43
  go_wp2
  have K := Box3.of (heap_last w (.cells #[.int .i64 0, .string ⟨#[]⟩, .slice none 0 0] 67))
  have g0 : Gr w (w.alloc (.cells #[.int .i64 0, .string ⟨#[]⟩, .slice none 0 0] 67)) := (by repeat (first | exact Gr.refl _ | assumption | refine Gr.alloc ?_ _ | refine Gr.drew ?_ | refine Gr.drewN ?_ _ | (refine Gr.put ?_ ?_ _; first | exact Nat.le_refl _ | (simp; done) | omega) | (apply Gr.after; assumption)))
  generalize hb : w.heap.size = b at *
  have HB := Lib.hid hb; clear hb
  generalize (w.alloc (.cells #[.int .i64 0, .string ⟨#[]⟩, .slice none 0 0] 67)) = W at *
  go_loopw [10] (fun i wr => ∃ k : Nat, k ≤ n ∧ i = .int .i64 k ∧ Hid (presetOf num (l.drop k) = R) ∧ Gr W wr) (fun i _ => n - (intOf i).toNat)
  case atStart => exact ⟨0, Nat.zero_le _, rfl, HR, Gr.refl _⟩
  case round =>
    clear HR
    obtain ⟨k, hk, rfl, HR, hG⟩ := hrel
    replace K := K.mono hG
    by_cases hlt : k < n
    · have hkl : k < l.length := by have := HN.out; omega
      obtain ⟨B_c, off_c, rfl, cs_c, hc_c, his_c⟩ := sliceC_cell HL.out hkl
      rw [presetC_size] at hc_c
      have HR2 := HR.out
      rw [List.drop_eq_getElem_cons hkl, presetOf] at HR2
      generalize l[k] = x_c at *
      obtain ⟨pn, pt, ps⟩ := x_c
      obtain ⟨v_ps, rfl, b_pn, b_pt, h_ps⟩ := his_c
      have c0 := hc_c 0 (by omega)
      have c1 := hc_c 1 (by omega)
      have c2 := hc_c 2 (by omega)
      simp only [List.getElem?_cons_zero, List.getElem?_cons_succ, Nat.add_zero, ← Nat.add_assoc] at c0 c1 c2
      replace c0 := Gr.cell (g0.trans hG) c0
      replace c1 := Gr.cell (g0.trans hG) c1
      replace c2 := Gr.cell (g0.trans hG) c2
      clear hc_c
      try simp only at HR2
      try simp only at h_ps
      obtain ⟨a_ps, n_ps, cap_ps, rfl, N_ps, nle_ps, cle_ps⟩ := sliceC_open h_ps
      have H_ps := Lib.hid h_ps; clear h_ps
      clear HR
      have hin : Gr wr (wr.alloc (.cells #[.int .i64 pn, .string pt, .slice a_ps n_ps cap_ps] 67)) := (by repeat (first | exact Gr.refl _ | assumption | refine Gr.alloc ?_ _ | refine Gr.drew ?_ | refine Gr.drewN ?_ _ | (refine Gr.put ?_ ?_ _; first | exact Nat.le_refl _ | (simp; done) | omega) | (apply Gr.after; assumption)))
      replace K := K.mono hin
      by_cases hpn : pn = num
      · rw [if_pos hpn] at HR2
        have HR3 := Lib.hid HR2; clear HR2
        have hpn' : (pn == num) = true := by simpa using hpn
        clear hpn
        go_wp2
        have hb := HB.out
        have K' : Box3 ((((wr.alloc (.cells #[.int .i64 pn, .string pt, .slice a_ps n_ps cap_ps] 67)).setCell ⟨b, 0, none⟩ (.int .i64 pn)).setCell ⟨b, 1, none⟩ (.string pt)).setCell ⟨b, 2, none⟩ (.slice a_ps n_ps cap_ps)) b (.int .i64 pn) (.string pt) (.slice a_ps n_ps cap_ps) := K.st0.st1.st2
        refine bodyPost_ret (v := .tuple #[.agg #[.int .i64 pn, .string pt, .slice a_ps n_ps cap_ps], .bool true]) (by simp [results, Try.results43, go_sem, K']) rfl ?_
        have e := HR3.out
        subst e
        have hg : Gr w ((((wr.alloc (.cells #[.int .i64 pn, .string pt, .slice a_ps n_ps cap_ps] 67)).setCell ⟨b, 0, none⟩ (.int .i64 pn)).setCell ⟨b, 1, none⟩ (.string pt)).setCell ⟨b, 2, none⟩ (.slice a_ps n_ps cap_ps)) := ((((g0.trans hG).trans hin).put (by omega) _).put (by omega) _).put (by omega) _
        exact ⟨_, rfl, ⟨_, rfl, b_pn, b_pt, (sliceC settingC).mono H_ps.out hg⟩, hg⟩
      · rw [if_neg hpn] at HR2
        have HR3 := Lib.hid HR2; clear HR2
        have hpn' : (pn == num) = false := by simpa using hpn
        clear hpn
        go_wp2
        go_roundw
        case rel => exact ⟨k + 1, by omega, by go_num, HR3, hG.trans hin⟩
        case measure => simp [intOf]; omega
    · go_wp2
      have hb := HB.out
      have K' : Box3 (((wr.setCell ⟨b, 0, none⟩ (.int .i64 0)).setCell ⟨b, 1, none⟩ (.string ⟨#[]⟩)).setCell ⟨b, 2, none⟩ (.slice none 0 0)) b (.int .i64 0) (.string ⟨#[]⟩) (.slice none 0 0) := K.st0.st1.st2
      refine bodyPost_ret (v := .tuple #[.agg #[.int .i64 0, .string ⟨#[]⟩, .slice none 0 0], .bool false]) (by simp [results, Try.results43, go_sem, K']) rfl ?_
      have e := HR.out
      rw [List.drop_eq_nil_of_le (by have := HN.out; omega), presetOf] at e
      subst e
      have hg : Gr w (((wr.setCell ⟨b, 0, none⟩ (.int .i64 0)).setCell ⟨b, 1, none⟩ (.string ⟨#[]⟩)).setCell ⟨b, 2, none⟩ (.slice none 0 0)) := (((g0.trans hG).put (by omega) _).put (by omega) _).put (by omega) _
      exact ⟨_, rfl, ⟨_, rfl, by decide, Nat.zero_le _, .inl ⟨rfl, rfl⟩⟩, hg⟩
end Go.Proofs.Ytjhdogdaldlkhaa
