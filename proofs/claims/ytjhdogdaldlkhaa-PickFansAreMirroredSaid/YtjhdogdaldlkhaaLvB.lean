/- The reference's Spread, where all is right. -/
import Derived.Test.YtjhdogdaldlkhaaLvA
namespace Go.Proofs.Ytjhdogdaldlkhaa
open Go.RowKit
set_option linter.unusedVariables false
set_option linter.unusedSimpArgs false

theorem part_of (x y : Int) (a b : Nat) (w : World) (hx : x = a) (hy : y = b) (ha : a ≤ 9223372036854775807) (hb : b ≤ 9223372036854775807) : Calls Try.prog 124 #[.int .i64 x, .int .i64 y] w (RetF false a b w) := by
  subst hx; subst hy; exact part_any a b w ha hb
set_option maxHeartbeats 4000000 in
set_option maxRecDepth 100000 in
theorem Spread1_ok (l : List Int) (n : Nat) (v : Value) (w : World) (hl : (sliceC intC).is w [v] l) (hv : ∀ x ∈ l, withinB x 0 65535 = true) (h0 : 0 < l.length) (h20 : l.length ≤ 2000) (hn : n ≤ 2000) :
    Calls Try.prog 84 #[v, .int .i64 n] w (RetL0 (sprL l n) w) := by
  obtain ⟨a, m, cap, rfl, HM, hm, hcap⟩ := sliceC_open hl
  have HL := Lib.hid hl; have HV := Lib.hid hv; clear hl hv
  have hm0 : 0 < m := by rw [HM.out]; exact h0
  have hm1 : m ≤ 2000 := by rw [HM.out]; exact h20
  clear h0 h20
  have hwn : withinB (n : Int) 0 2000 = true := by simp [withinB]; omega
  have hz : ((m : Int) == 0) = false := by simp; omega
  have hz2 : decide ((2000 : Int) < (m : Int)) = false := decide_eq_false (by omega)
  go_enter Try.func84, Try.ntmps84
  go_wp2
  go_loop [22] (fun i => ∃ k : Nat, k ≤ m ∧ i = .int .i64 k) (fun i => m - (intOf i).toNat)
  case atStart => exact ⟨0, Nat.zero_le _, rfl⟩
  case round =>
    obtain ⟨k, hk, rfl⟩ := hrel
    by_cases hlt : k < m
    · have hkl : k < l.length := by have := HM.out; omega
      obtain ⟨b, off, rfl, c0, -⟩ := sliceC_int HL.out hkl
      have hx := HV.out l[k] (List.getElem_mem hkl)
      generalize l[k] = x at *
      go_wp2_with (go_at_call 42; refine (isLevel1_any _ _).mono ?_; rintro e w' ⟨rfl, rfl⟩)
      go_round
      case rel => exact ⟨k + 1, by omega, by go_num⟩
      case measure => simp [intOf]; omega
    · have hkm : k = m := by omega
      subst hkm
      clear hlt hk
      go_wp2_with (go_at_call 48; refine (within1_any _ _ _ _).mono ?_; rintro e w' ⟨rfl, rfl⟩)
      have hown : Own w w.heap.size 3 intC (.slice none 0 0) [] := Own.nil _ _ _ _
      go_loopw [8, 34] (fun v i wr => ∃ j : Nat, j ≤ n ∧ i = .int .i64 j ∧ Own wr w.heap.size 3 intC v ((sprL l n).take j) ∧ Gr w wr) (fun _ i _ => n - (intOf i).toNat)
      case atStart => exact ⟨0, Nat.zero_le _, rfl, hown, Gr.refl _⟩
      case round =>
        clear hown
        obtain ⟨j, hk, rfl, hown, hG⟩ := hrel
        obtain ⟨m, rfl⟩ : ∃ m, m = k := ⟨_, rfl⟩
        obtain ⟨k, rfl⟩ : ∃ k, k = j := ⟨_, rfl⟩
        obtain ⟨va, vn, vc, rfl, Hvn, h7, h8⟩ := hown.shape
        have hsz := hG.size
        by_cases hlt : k < n
        · have hll : ((sprL l n).take k).length ≤ 2000 := by rw [List.length_take, sprL_len]; omega
          have HT := Lib.hid (sprL_take l n k hlt)
          by_cases hn1 : n = 1 ∨ m = 1
          · obtain ⟨b, off, rfl, c0, ci⟩ := sliceC_int HL.out (k := 0) (by have := HM.out; omega)
            have HX : Hid (sprAt l n k = l[0]'(by have := HM.out; omega)) := Lib.hid (by
              rw [getD_of_lt]
              by_cases h1 : n = 1
              · rw [sprAt, if_pos h1]
              · have hm1 : l.length - 1 = 0 := by have := HM.out; omega
                rw [sprAt, if_neg h1, hm1]
                simp only [Nat.mul_zero, Nat.zero_div, Nat.zero_mod, Int.natCast_zero, Int.mul_zero, Int.add_zero]
                exact roundI_whole _ _ (by omega))
            generalize l[0]'(by have := HM.out; omega) = x at *
            replace c0 := hG.cell c0
            rw [Nat.add_zero] at c0
            rw [HX.out] at HT
            by_cases h1 : n = 1
            · have h1' : ((n : Int) == 1) = true := by simp; omega
              clear h1 hn1
              go_wp2_with (at_builtin; refine app_int _ rfl _ _ 31 rfl Try.underlying31 w.heap.size _ _ rfl ((hown.mono (by repeat (first | exact Gr.refl _ | assumption | refine Gr.alloc ?_ _ | refine Gr.drew ?_ | refine Gr.drewN ?_ _ | (refine Gr.put ?_ ?_ _; first | exact Nat.le_refl _ | (simp; done) | omega) | (apply Gr.after; assumption))))) _ rfl _ _ (heap_last _ _) ci (by omega) (by simp; omega) ?_; intro v' w' hown' hgrow)
              go_roundw
              case rel => exact ⟨k + 1, by omega, by go_num, by rw [HT.out]; exact hown', Own.gr (hown.mono (by repeat (first | exact Gr.refl _ | assumption | refine Gr.alloc ?_ _ | refine Gr.drew ?_ | refine Gr.drewN ?_ _ | (refine Gr.put ?_ ?_ _; first | exact Nat.le_refl _ | (simp; done) | omega) | (apply Gr.after; assumption)))) (hG.trans (by repeat (first | exact Gr.refl _ | assumption | refine Gr.alloc ?_ _ | refine Gr.drew ?_ | refine Gr.drewN ?_ _ | (refine Gr.put ?_ ?_ _; first | exact Nat.le_refl _ | (simp; done) | omega) | (apply Gr.after; assumption)))) (Nat.le_refl _) hgrow⟩
              case measure => simp [intOf]; omega
            · have h1' : ((n : Int) == 1) = false := by simp; omega
              have h2' : ((m : Int) == 1) = true := by simp; omega
              clear h1 hn1
              go_wp2_with (at_builtin; refine app_int _ rfl _ _ 31 rfl Try.underlying31 w.heap.size _ _ rfl ((hown.mono (by repeat (first | exact Gr.refl _ | assumption | refine Gr.alloc ?_ _ | refine Gr.drew ?_ | refine Gr.drewN ?_ _ | (refine Gr.put ?_ ?_ _; first | exact Nat.le_refl _ | (simp; done) | omega) | (apply Gr.after; assumption))))) _ rfl _ _ (heap_last _ _) ci (by omega) (by simp; omega) ?_; intro v' w' hown' hgrow)
              go_roundw
              case rel => exact ⟨k + 1, by omega, by go_num, by rw [HT.out]; exact hown', Own.gr (hown.mono (by repeat (first | exact Gr.refl _ | assumption | refine Gr.alloc ?_ _ | refine Gr.drew ?_ | refine Gr.drewN ?_ _ | (refine Gr.put ?_ ?_ _; first | exact Nat.le_refl _ | (simp; done) | omega) | (apply Gr.after; assumption)))) (hG.trans (by repeat (first | exact Gr.refl _ | assumption | refine Gr.alloc ?_ _ | refine Gr.drew ?_ | refine Gr.drewN ?_ _ | (refine Gr.put ?_ ?_ _; first | exact Nat.le_refl _ | (simp; done) | omega) | (apply Gr.after; assumption)))) (Nat.le_refl _) hgrow⟩
              case measure => simp [intOf]; omega
          · have h1' : ((n : Int) == 1) = false := by simp; omega
            have h2' : ((m : Int) == 1) = false := by simp; omega
            have hm2000 : (k : Int) * ((m : Int) - 1) = ((k * (m - 1) : Nat) : Int) := by rw [Int.natCast_mul, Int.natCast_sub (by omega)]; rfl
            have hkm : k * (m - 1) ≤ (n - 1) * (m - 1) := Nat.mul_le_mul_right _ (by omega)
            have hkm2 : k * (m - 1) ≤ 2000 * 2000 := Nat.mul_le_mul (by omega) (by omega)
            have hK : k * (m - 1) / (n - 1) ≤ m - 1 := Nat.div_le_of_le_mul hkm
            have hR : k * (m - 1) % (n - 1) < n - 1 := Nat.mod_lt _ (by omega)
            have hDM := Nat.div_add_mod (k * (m - 1)) (n - 1)
            have HK2 : Hid (k * (m - 1) / (n - 1) = m - 1 → k * (m - 1) % (n - 1) = 0) := Lib.hid (fun h => by rw [h] at hDM; omega)
            have HAT : Hid (sprAt l n k = roundI (l.getD (k * (m - 1) / (n - 1)) 0 * ((n - 1 : Nat) : Int) + (l.getD (k * (m - 1) / (n - 1) + 1) 0 - l.getD (k * (m - 1) / (n - 1)) 0) * ((k * (m - 1) % (n - 1) : Nat) : Int)) ((n - 1 : Nat) : Int)) := Lib.hid (by rw [sprAt, if_neg (by omega), HM.out])
            have htd : ((k * (m - 1) : Nat) : Int) / ((n : Int) - 1) = ((k * (m - 1) / (n - 1) : Nat) : Int) := by
              rw [show ((n : Int) - 1) = ((n - 1 : Nat) : Int) by omega, Int.natCast_ediv]
            have htm : ((k * (m - 1) : Nat) : Int).tmod ((n : Int) - 1) = ((k * (m - 1) % (n - 1) : Nat) : Int) := by
              rw [show ((n : Int) - 1) = ((n - 1 : Nat) : Int) by omega, Int.tmod_eq_emod_of_nonneg (by omega), Int.natCast_emod]
            generalize k * (m - 1) / (n - 1) = K at *
            generalize k * (m - 1) % (n - 1) = R at *
            generalize k * (m - 1) = X at *
            have hn1n : ¬ n = 1 := by omega
            clear hDM hkm hn1
            by_cases hKm : K = m - 1
            · have hR0 := HK2.out hKm
              subst hR0
              have hKm' : ((K : Int) == (m : Int) - 1) = true := by simp; omega
              obtain ⟨b, off, rfl, c0, ci⟩ := sliceC_int HL.out (k := K) (by have := HM.out; omega)
              rw [getD_of_lt] at c0 ci
              replace c0 := hG.cell c0
              have HX : Hid (sprAt l n k = l.getD K 0) := Lib.hid (by rw [HAT.out]; simp only [Int.natCast_zero, Int.mul_zero, Int.add_zero]; exact roundI_whole _ _ (by omega))
              clear HAT htm
              generalize l.getD K 0 = x at *
              rw [HX.out] at HT
              have hkb : K < m := by omega
              clear hKm
              go_wp2_with (at_builtin; refine app_int _ rfl _ _ 31 rfl Try.underlying31 w.heap.size _ _ rfl ((hown.mono (by repeat (first | exact Gr.refl _ | assumption | refine Gr.alloc ?_ _ | refine Gr.drew ?_ | refine Gr.drewN ?_ _ | (refine Gr.put ?_ ?_ _; first | exact Nat.le_refl _ | (simp; done) | omega) | (apply Gr.after; assumption))))) _ rfl _ _ (heap_last _ _) ci (by omega) (by simp; omega) ?_; intro v' w' hown' hgrow)
              go_roundw
              case rel => exact ⟨k + 1, by omega, by go_num, by rw [HT.out]; exact hown', Own.gr (hown.mono (by repeat (first | exact Gr.refl _ | assumption | refine Gr.alloc ?_ _ | refine Gr.drew ?_ | refine Gr.drewN ?_ _ | (refine Gr.put ?_ ?_ _; first | exact Nat.le_refl _ | (simp; done) | omega) | (apply Gr.after; assumption)))) (hG.trans (by repeat (first | exact Gr.refl _ | assumption | refine Gr.alloc ?_ _ | refine Gr.drew ?_ | refine Gr.drewN ?_ _ | (refine Gr.put ?_ ?_ _; first | exact Nat.le_refl _ | (simp; done) | omega) | (apply Gr.after; assumption)))) (Nat.le_refl _) hgrow⟩
              case measure => simp [intOf]; omega
            · have hKm' : ((K : Int) == (m : Int) - 1) = false := by simp; omega
              have hKl : K + 1 < m := by omega
              clear hKm
              obtain ⟨b, off, rfl, c0, -⟩ := sliceC_int HL.out (k := K) (by have := HM.out; omega)
              obtain ⟨b', off', e', c1, -⟩ := sliceC_int HL.out (k := K + 1) (by have := HM.out; omega)
              injection e' with e'
              injection e' with e1 e2 e3
              subst e1; subst e2
              have v0 := HV.out _ (List.getElem_mem (show K < l.length by have := HM.out; omega))
              have v1 := HV.out _ (List.getElem_mem (show K + 1 < l.length by have := HM.out; omega))
              rw [getD_of_lt] at c0 c1 v0 v1
              have KC : Cell2 w b (off + K) (off + (K + 1)) (.int .i64 (l.getD K 0)) (.int .i64 (l.getD (K + 1) 0)) := ⟨c0, c1⟩
              clear c0 c1
              have v0' : 0 ≤ l.getD K 0 ∧ l.getD K 0 ≤ 65535 := by simpa [withinB] using v0
              have v1' : 0 ≤ l.getD (K + 1) 0 ∧ l.getD (K + 1) 0 ≤ 65535 := by simpa [withinB] using v1
              clear v0 v1
              obtain ⟨x, hx⟩ : ∃ x : Nat, l.getD K 0 = x := ⟨_, (Int.toNat_of_nonneg v0'.1).symm⟩
              obtain ⟨y, hy⟩ : ∃ x : Nat, l.getD (K + 1) 0 = x := ⟨_, (Int.toNat_of_nonneg v1'.1).symm⟩
              rw [hx] at KC v0' HAT
              rw [hy] at KC v1' HAT
              clear hx hy
              have hw4 : IntKind.i64.wrap ((K : Int) + 1) = (K : Int) + 1 := wrap_in (by omega)
              have hk0 : (0 : Int) ≤ (K : Int) + 1 := by omega
              have hk1 : ((K : Int) + 1).toNat = K + 1 := by omega
              have hk2 : (K : Int) + 1 < (m : Int) := by omega
              have hk3 : (K : Int) < (m : Int) := by omega
              have hw3 : IntKind.i64.wrap (R : Int) = (R : Int) := wrap_in (by omega)
              have hrx : inI (roundI ((x : Int) * ((n - 1 : Nat) : Int) + ((y : Int) - x) * (R : Int)) ((n - 1 : Nat) : Int)) := by
                have := mixI_bd x y R ((n - 1 : Nat) : Int) v0' v1' (by omega) (by omega)
                unfold inI; omega
              rw [HAT.out] at HT
              go_wp2
              have hw1 : IntKind.i64.wrap ((n : Int) - 1) = (n : Int) - 1 := wrap_in (by omega)
              have hne : ((n : Int) - 1 == 0) = false := by simp; omega
              have q3 : ¬ ((n : Int) - 1 = 0) := by omega
              have q4 : (0 : Int) < (n : Int) - 1 := by omega
              have q5 : ¬ ((n : Int) = 1) := by omega
              have q6 : (0 : Int) ≤ (X : Int) := by omega
              go_region_held3 (fun w' => Cell2 w' b (off + K) (off + (K + 1)) (.int .i64 x) (.int .i64 y)) ((refine Cell2.mono KC ?_; (repeat (first | exact Gr.refl _ | assumption | refine Gr.alloc ?_ _ | refine Gr.drew ?_ | refine Gr.drewN ?_ _ | (refine Gr.put ?_ ?_ _; first | exact Nat.le_refl _ | (simp; done) | omega) | (apply Gr.after; assumption))); done)) (first
                | (go_at_call 124; (with_reducible refine (part_of R ((n : Int) - 1) R (n - 1) _ rfl (by omega) (by omega) (by omega)).mono ?_); rintro e w1 ⟨v1, u1, rfl, h1, h2, -, -, hb1⟩; obtain ⟨a2, k2, c2, rfl, -, -⟩ := h1.shape (by omega); obtain ⟨e2, l2, p2, rfl, -, -⟩ := h2.shape (by omega); have H1 := Lib.hid h1; have H2 := Lib.hid h2; clear h1 h2; have hs1 : wr.heap.size ≤ w1.heap.size := hb1.size)
                | (go_at_call 123; (with_reducible refine (mix1_any x y R (n - 1) a2 k2 c2 e2 l2 p2 _ (by exact H1.out.mono (by repeat (first | exact Gr.refl _ | assumption | refine Gr.alloc ?_ _ | refine Gr.drew ?_ | refine Gr.drewN ?_ _ | (refine Gr.put ?_ ?_ _; first | exact Nat.le_refl _ | (simp; done) | omega) | (apply Gr.after; assumption)))) (by exact H2.out.mono (by repeat (first | exact Gr.refl _ | assumption | refine Gr.alloc ?_ _ | refine Gr.drew ?_ | refine Gr.drewN ?_ _ | (refine Gr.put ?_ ?_ _; first | exact Nat.le_refl _ | (simp; done) | omega) | (apply Gr.after; assumption)))) (by omega) (by omega) (by omega) (by omega) (by omega)).mono ?_); rintro e w2 ⟨rfl, hb2⟩; have hs2 := hb2.size)
                | (refine sapp_int _ rfl _ _ 31 rfl Try.underlying31 w.heap.size _ _ rfl (hown.mono (by repeat (first | exact Gr.refl _ | assumption | refine Gr.alloc ?_ _ | refine Gr.drew ?_ | refine Gr.drewN ?_ _ | (refine Gr.put ?_ ?_ _; first | exact Nat.le_refl _ | (simp; done) | omega) | (apply Gr.after; assumption)))) _ rfl _ _ (by exact heap_last _ _) hrx (by omega) (by simp; omega) ?_; intro v' w' hown' hgrow; have gA : Gr w w' := Own.gr (hown.mono (w' := _) (by repeat (first | exact Gr.refl _ | assumption | refine Gr.alloc ?_ _ | refine Gr.drew ?_ | refine Gr.drewN ?_ _ | (refine Gr.put ?_ ?_ _; first | exact Nat.le_refl _ | (simp; done) | omega) | (apply Gr.after; assumption)))) (by exact (by repeat (first | exact Gr.refl _ | assumption | refine Gr.alloc ?_ _ | refine Gr.drew ?_ | refine Gr.drewN ?_ _ | (refine Gr.put ?_ ?_ _; first | exact Nat.le_refl _ | (simp; done) | omega) | (apply Gr.after; assumption)))) (Nat.le_refl _) hgrow))
              all_goals
                go_wp2
                go_roundw
                case rel => exact ⟨k + 1, by omega, by go_num, by rw [HT.out]; exact hown', gA⟩
                case measure => simp [intOf]; omega
        · go_wp2
          go_ret2
          have e : (sprL l n).take k = sprL l n := List.take_of_length_le (by rw [sprL_len]; omega)
          rw [e] at hown
          exact ⟨_, rfl, hown.is, hG⟩
end Go.Proofs.Ytjhdogdaldlkhaa
