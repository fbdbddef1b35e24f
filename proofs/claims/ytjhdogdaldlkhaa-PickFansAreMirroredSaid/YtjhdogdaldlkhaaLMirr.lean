/- The walk of PickFansAreMirrored. -/
import Derived.Test.YtjhdogdaldlkhaaFnD
import Derived.Test.YtjhdogdaldlkhaaSlB
namespace Go.Proofs.Ytjhdogdaldlkhaa
open Go.RowKit
set_option linter.unusedVariables false
set_option linter.unusedSimpArgs false

theorem mirr_idx (q j : Nat) (hj : j < 2 * q) : (if (2 * q - 1 - j) / q % 2 = 1 then q - 1 - (2 * q - 1 - j) % q else (2 * q - 1 - j) % q) = if j / q % 2 = 1 then q - 1 - j % q else j % q := by
  have hq : 0 < q := by omega
  by_cases h : j < q
  · have e1 : j / q = 0 := Nat.div_eq_of_lt h
    have e2 : j % q = j := Nat.mod_eq_of_lt h
    have e3 : 2 * q - 1 - j = q * 1 + (q - 1 - j) := by omega
    have e4 : (2 * q - 1 - j) / q = 1 := by rw [e3, Nat.mul_add_div hq, Nat.div_eq_of_lt (by omega)]
    have e5 : (2 * q - 1 - j) % q = q - 1 - j := by rw [e3, Nat.mul_add_mod, Nat.mod_eq_of_lt (by omega)]
    rw [e1, e2, e4, e5]
    simp; omega
  · obtain ⟨d, rfl⟩ := Nat.exists_eq_add_of_le (Nat.le_of_not_lt h)
    have e1 : (q + d) / q = 1 := by rw [show q + d = q * 1 + d by omega, Nat.mul_add_div hq, Nat.div_eq_of_lt (by omega)]
    have e2 : (q + d) % q = d := by rw [show q + d = q * 1 + d by omega, Nat.mul_add_mod, Nat.mod_eq_of_lt (by omega)]
    have e4 : (2 * q - 1 - (q + d)) / q = 0 := Nat.div_eq_of_lt (by omega)
    have e5 : (2 * q - 1 - (q + d)) % q = 2 * q - 1 - (q + d) := Nat.mod_eq_of_lt (by omega)
    rw [e1, e2, e4, e5]
    simp; omega
theorem fanAt_mirr (c : List Int) (B q i : Nat) (hB : 0 < B) (hi : i < B * (2 * q)) : fanAt c B 2 (B * (2 * q)) (B * (2 * q) - 1 - i) = fanAt c B 2 (B * (2 * q)) i := by
  have hm : (B * (2 * q) + B - 1) / B = 2 * q := by
    rw [show B * (2 * q) + B - 1 = B * (2 * q) + (B - 1) by omega, Nat.mul_add_div hB, Nat.div_eq_of_lt (by omega)]; omega
  have hs : (2 * q + 2 - 1) / 2 = q := by omega
  have hj : i / B < 2 * q := by rw [Nat.div_lt_iff_lt_mul hB, Nat.mul_comm]; exact hi
  have hj' : (B * (2 * q) - 1 - i) / B = 2 * q - 1 - i / B := by
    have h1 := Nat.div_add_mod i B
    have h2 := Nat.mod_lt i hB
    obtain ⟨d, hd⟩ : ∃ d, 2 * q = i / B + 1 + d := ⟨2 * q - 1 - i / B, by omega⟩
    have e : B * (2 * q) - 1 - i = B * d + (B - 1 - i % B) := by
      have e1 : B * (2 * q) = B * (i / B) + B + B * d := by rw [hd, Nat.mul_add, Nat.mul_add, Nat.mul_one]
      omega
    rw [e, Nat.mul_add_div hB, Nat.div_eq_of_lt (by omega)]
    omega
  unfold fanAt
  rw [hm, hs, hj', mirr_idx q (i / B) hj]
theorem fan_mirror (c : List Int) (B n : Nat) (hB : 0 < B) (h : n % (2 * B) = 0) : (fanL c B 2 n).reverse = fanL c B 2 n := by
  obtain ⟨q, hq⟩ := Nat.dvd_of_mod_eq_zero h
  have hn : n = B * (2 * q) := by rw [hq]; rw [Nat.mul_comm 2 B, Nat.mul_assoc]
  subst hn
  apply List.ext_getElem (by simp)
  intro i h1 h2
  rw [fanL_len] at h2
  rw [List.getElem_reverse]
  simp only [fanL, List.length_map, List.length_range, List.getElem_map, List.getElem_range]
  exact fanAt_mirr c B q i hB h2
set_option maxHeartbeats 2000000 in
theorem pickFansAreMirrored_walk (cs : Array Value) (f : FanD) (n : Int) (w : World) (hf : fanC.is w cs.toList f) :
    Calls Try.prog 5 #[.agg cs, .int .i64 n] w fun e w' => e = .returned (.bool true) ∧ Gr w w' := by
  obtain ⟨c, b, g⟩ := f
  obtain ⟨v, hcs, hl, -, -⟩ := hf
  obtain rfl : cs = #[v, .int .i64 b, .int .i64 g] := by cases cs; simpa using hcs
  clear hcs
  simp only at hl
  obtain ⟨a, cn, cap, rfl, HCN, hcn, hcap⟩ := sliceC_open hl
  have HL := Lib.hid hl; clear hl
  have g0 : Gr w (w.alloc (.cells #[.slice a cn cap, .int .i64 b, .int .i64 2] 33)) := (by repeat (first | exact Gr.refl _ | assumption | refine Gr.alloc ?_ _ | refine Gr.drew ?_ | refine Gr.drewN ?_ _ | (refine Gr.put ?_ ?_ _; first | exact Nat.le_refl _ | (simp; done) | omega) | (apply Gr.after; assumption)))
  have K : Box3 (w.alloc (.cells #[.slice a cn cap, .int .i64 b, .int .i64 2] 33)) w.heap.size (.slice a cn cap) (.int .i64 b) (.int .i64 2) := Box3.of (by repeat (first | exact heap_last _ _ | (refine heap_at _ _ _ ?_; (simp; done)) | (refine heap_old _ _ _ _ (by simp; try omega) ?_)))
  by_cases hE : lvE c b 2 n = 0
  · have hfn : fanF c b 2 = 0 ∧ withinB n 0 400 = true := by
      unfold lvE at hE
      split at hE
      · rename_i h; refine ⟨h, ?_⟩; split at hE
        · assumption
        · cases hE
      · rename_i h; exact absurd hE h
    obtain ⟨h1, h2, h3, h4, h5⟩ := fanF_ok hfn.1
    have hn' : 0 ≤ n ∧ n ≤ 400 := by simpa [withinB] using hfn.2
    have HF := Lib.hid hfn.1; have HN := Lib.hid hfn.2
    clear hE hfn h1 h2 h3 h5
    obtain ⟨B, rfl⟩ : ∃ B : Nat, b = B := ⟨b.toNat, by omega⟩
    obtain ⟨N, rfl⟩ : ∃ B : Nat, n = B := ⟨n.toNat, by omega⟩
    have hlen : (fanL c B 2 N).length = N := fanL_len _ _ _ _
    have HL8 : Hid ((fanL c B 2 N).length ≤ 10000000000000) := Lib.hid (by rw [hlen]; omega)
    have HLEN := Lib.hid hlen; clear hlen
    have hmod : (N : Int).tmod (2 * (B : Int)) = ((N % (2 * B) : Nat) : Int) := by rw [Int.tmod_eq_emod_of_nonneg (by omega), Int.natCast_emod]; rfl
    have hmod2 : (N : Int) % (2 * (B : Int)) = ((N % (2 * B) : Nat) : Int) := by rw [Int.natCast_emod]; rfl
    have hBn : ¬ ((2 : Int) * (B : Int) = 0) := by omega
    have hBn' : ((2 : Int) * (B : Int) == 0) = false := by simp; omega
    have HM := Lib.hid (fan_mirror c B N (by omega))
    by_cases hz : N % (2 * B) = 0
    · have HR := Lib.hid (HM.out hz)
      rw [hz] at hmod hmod2
      clear HM hz
      go_enter Try.func5, Try.ntmps5
      go_wp2_with (first
        | (go_at_call 13; (with_reducible refine (Levels_ok c B 2 N _ _ ((sliceC intC).mono HL.out g0) HF.out HN.out).mono ?_); rintro e w1 ⟨v1, rfl, h1, hb1⟩; simp only [Int.toNat_natCast, show Int.toNat 2 = 2 from rfl] at h1; obtain ⟨va, vn, vc, rfl, HVN, hvn, hvc⟩ := sliceC_open h1; have hvn' : vn = N := HVN.out.trans HLEN.out; subst hvn'; have H1 := Lib.hid h1; clear h1; replace K := K.mono hb1)
        | (go_at_call 18; (with_reducible refine (cloneI_any _ _ _ H1.out HL8.out).mono ?_); rintro e w2 ⟨v2, rfl, h2, hb2⟩; have H2 := Lib.hid h2; clear h2)
        | (go_at_call 19; (with_reducible refine (reverseI_any _ _ _ _ H2.out).mono ?_); rintro e w3 ⟨rfl, h3, hgr⟩; rw [HR.out] at h3; have gA : Gr w1 w3 := Own.gr H2.out hb2 (Nat.le_refl _) hgr; have H3 := Lib.hid h3; clear h3 hgr)
        | (go_at_call 17; (with_reducible refine (equalI_any _ _ _ _ _ ((sliceC intC).mono H1.out gA) H3.out.is).mono ?_); rintro e w5 ⟨rfl, q, rfl⟩; rw [decide_eq_true (Eq.refl (fanL c B 2 vn))]))
      go_ret
      exact ⟨rfl, ((g0.trans hb1).trans gA).drewN _⟩
    · have hz' : (((N % (2 * B) : Nat) : Int) != 0) = true := by simp; omega
      generalize N % (2 * B) = R at *
      clear HM
      go_enter Try.func5, Try.ntmps5
      go_wp2_with (first
        | (go_at_call 13; (with_reducible refine (Levels_ok c B 2 N _ _ ((sliceC intC).mono HL.out g0) HF.out HN.out).mono ?_); rintro e w1 ⟨v1, rfl, h1, hb1⟩; simp only [Int.toNat_natCast, show Int.toNat 2 = 2 from rfl] at h1; obtain ⟨va, vn, vc, rfl, HVN, hvn, hvc⟩ := sliceC_open h1; have hvn' : vn = N := HVN.out.trans HLEN.out; subst hvn'; have H1 := Lib.hid h1; clear h1; replace K := K.mono hb1))
      go_ret
      exact ⟨rfl, g0.trans hb1⟩
  · have HE := Lib.hid hE
    have hE' : (lvE c b 2 n != 0) = true := by simpa using hE
    clear hE
    go_enter Try.func5, Try.ntmps5
    go_wp2_with (first
      | (go_at_call 13; (with_reducible refine (Levels_no c b 2 n _ _ ((sliceC intC).mono HL.out g0) HE.out).mono ?_); rintro e w1 ⟨rfl, hb1⟩; replace K := K.mono hb1))
    go_ret
    exact ⟨rfl, g0.trans hb1⟩
end Go.Proofs.Ytjhdogdaldlkhaa
