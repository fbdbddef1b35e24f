/- The reference's naturals: times. -/
import Derived.Test.YtjhdogdaldlkhaaNtA
namespace Go.Proofs.Ytjhdogdaldlkhaa
open Go.RowKit
set_option linter.unusedVariables false
set_option linter.unusedSimpArgs false

set_option maxHeartbeats 4000000 in
set_option maxRecDepth 100000 in
theorem times_any (x y : Nat) (vx vy : Value) (w : World) (hx : NatIs w vx x) (hy : NatIs w vy y) (hxl : (dig x).length ≤ 1000000) (hyl : (dig y).length ≤ 1000000) :
    Calls Try.prog 152 #[vx, vy] w (RetN (x * y) w) := by
  obtain ⟨a, n, cap, rfl, HN, hn, hcap⟩ := sliceC_open hx
  obtain ⟨b, m, dap, rfl, HM, hm, hdap⟩ := sliceC_open hy
  have HX := Lib.hid hx; have HY := Lib.hid hy; clear hx hy
  have hn6 : n ≤ 1000000 := by rw [HN.out]; exact hxl
  have hm6 : m ≤ 1000000 := by rw [HM.out]; exact hyl
  clear hxl hyl
  have HOX := Lib.hid (okD_dig x); have HOY := Lib.hid (okD_dig y)
  have hmk : ∀ W : World, (Instr.makeSlice 170 (.int .i64 ((n : Int) + (m : Int) + 1)) (.int .i64 ((n : Int) + (m : Int) + 1))).run Try.prog W = .ok (.slice (some ⟨W.heap.size, 0, none⟩) (n + m + 1) (n + m + 1)) (W.alloc (.cells (madeCells #[.int .i64 0] (n + m + 1)) 3)) := fun W => by rw [show ((n : Int) + (m : Int) + 1) = ((n + m + 1 : Nat) : Int) by omega]; exact mk_nat _ (by omega) W
  go_enter Try.func152, Try.ntmps152
  go_wp2
  have hrow := RowD.made w (n + m + 1)
  have g0 : Gr w (w.alloc (.cells (madeCells #[.int .i64 0] (n + m + 1)) 3)) := (by repeat (first | exact Gr.refl _ | assumption | refine Gr.alloc ?_ _ | refine Gr.drew ?_ | refine Gr.drewN ?_ _ | (refine Gr.put ?_ ?_ _; first | exact Nat.le_refl _ | (simp; done) | omega) | (apply Gr.after; assumption)))
  generalize hW : w.alloc (.cells (madeCells #[.int .i64 0] (n + m + 1)) 3) = W at *
  have hg : w.heap.size ≤ w.heap.size := Nat.le_refl _
  generalize hgg : w.heap.size = g at hrow hg ⊢
  clear hW hmk
  have HG := Lib.hid hgg; clear hgg
  go_loopw [19] (fun i wr => ∃ (k : Nat) (out : List Int), k ≤ n ∧ i = .int .i64 k ∧ out.length = n + m + 1 ∧ Hid (okD out) ∧ RowD wr g out ∧ Hid (dval out = dval ((dig x).take k) * dval (dig y)) ∧ Gr w wr) (fun i _ => n - (intOf i).toNat)
  case atStart => exact ⟨0, _, Nat.zero_le _, rfl, by simp, Lib.hid (okD_zeros _), hrow, Lib.hid (by rw [dval_zeros]; simp [dval]), g0⟩
  case round =>
    clear hrow
    obtain ⟨i, out, hi, rfl, hlen, HOL, hrow, HE, hG⟩ := hrel
    by_cases hlt : i < n
    · obtain ⟨B1, o1, rfl, c1, -⟩ := sliceC_int HX.out (k := i) (by have := HN.out; omega)
      rw [getD_of_lt] at c1
      have c1w := c1
      replace c1 := hG.cell c1
      have hdx := okD_getD HOX.out i
      generalize hdxe : (dig x).getD i 0 = dx at *
      have HDX := Lib.hid hdxe; clear hdxe
      go_wp2
      obtain ⟨wo, rfl⟩ : ∃ wo : World, wo = wr := ⟨_, rfl⟩
      go_loopw [7, 8] (fun cr kk wr => ∃ (k : Nat) (c : Int) (out : List Int), kk = .int .i64 k ∧ cr = .int .i64 c ∧ 0 ≤ c ∧ c < 1000000000 ∧ (k ≤ m ∨ c = 0 ∧ k ≤ m + 1) ∧ out.length = n + m + 1 ∧ Hid (okD out) ∧ RowD wr g out ∧
        Hid (dval out + c * 1000000000 ^ (i + k) = dval ((dig x).take i) * dval (dig y) + dx * 1000000000 ^ i * dval ((dig y).take k)) ∧ Gr w wr) (fun _ kk _ => m + 1 - (intOf kk).toNat)
      case atStart => exact ⟨0, 0, out, rfl, rfl, by omega, by omega, .inl (Nat.zero_le _), hlen, HOL, hrow, Lib.hid (by rw [HE.out]; simp [dval]), hG⟩
      case round =>
        clear hrow HE HOL c1 hG hlen
        obtain ⟨k, c, out, rfl, rfl, hc0, hc1, hkm, hlen, HOL, hrow, HE, hG⟩ := hrel
        have c1 := hG.cell c1w
        by_cases hgo : k < m ∨ 0 < c
        · have hkk : k ≤ m := by omega
          have hdo := okD_getD HOL.out (i + k)
          have hdy := okD_getD HOY.out k
          have HR := Lib.hid hrow
          have r1 := World.rowIs.cell hrow (i := i + k) (by omega)
          have r2 := World.rowIs.frozen hrow (i + k)
          have HE2 := Lib.hid (times_step out (dig x) (dig y) i k c dx (by omega) HE.out)
          have HY1 : Hid (k < m → ∃ (b' off : Nat), b = some ⟨b', off, none⟩ ∧ w.cell? ⟨b', off + k, none⟩ = some (.int .i64 ((dig y).getD k 0))) := Lib.hid fun h => by
            obtain ⟨b, off, e, h1, _⟩ := sliceC_int HY.out (k := k) (by have := HM.out; omega)
            exact ⟨b, off, e, by rw [h1, getD_of_lt]⟩
          have HY0 : Hid (¬ k < m → (dig y).getD k 0 = 0) := Lib.hid fun h => getD_of_ge (by have := HM.out; omega)
          clear HE hrow
          have HLT : Hid (k = m → ∀ (out' : List Int) (c' : Int), okD out' → 0 ≤ c' → dval out' + c' * 1000000000 ^ (i + (k + 1)) = dval ((dig x).take i) * dval (dig y) + dx * 1000000000 ^ i * dval ((dig y).take (k + 1)) → c' = 0) := Lib.hid fun hkm' out' c' h1 h2 h3 => by
            subst hkm'
            rw [HM.out] at h3
            exact times_carry out' (dig x) (dig y) i c' dx h1 HOX.out HOY.out (by have := HN.out; omega) hdx h2 h3
          have hmul0 : 0 ≤ dx * (dig y).getD k 0 := Int.mul_nonneg hdx.1 hdy.1
          have hmul1 : dx * (dig y).getD k 0 ≤ 999999999 * 999999999 := Int.mul_le_mul (by omega) (by omega) hdy.1 (by omega)
          generalize hoo : out.getD (i + k) 0 = o at *
          have HOO := Lib.hid hoo; clear hoo
          generalize (dig y).getD k 0 = dy at *
          by_cases h2 : k < m
          · obtain ⟨B2, o2, rfl, c2⟩ := HY1.out h2
            replace c2 := hG.cell c2
            have hw1 : IntKind.i64.wrap (dx * dy) = dx * dy := wrap_in (by omega)
            have hw2 : IntKind.i64.wrap (o + c + dx * dy) = o + c + dx * dy := wrap_in (by omega)
            go_wp2
            go_quiet (fail)
            go_wp2
            go_roundw
            case rel =>
              have hgb := HG.out
              have hrow2 := (HR.out).set (i + k) ((o + c + dx * dy) % 1000000000) (by omega)
              have HOL2 := okD_set HOL.out (i + k) ((o + c + dx * dy) % 1000000000) (by omega)
              exact ⟨k + 1, (o + c + dx * dy) / 1000000000, _, by go_num, by first | rfl | go_num, by omega, by omega, .inl (by omega), by simp [hlen], Lib.hid HOL2, hrow2, HE2, (hG.drewN _).put (by omega) _⟩
            case measure => simp [intOf] <;> omega
          · obtain rfl := HY0.out h2
            obtain rfl : k = m := by omega
            have hc2 : 0 < c := by omega
            simp only [Int.mul_zero, Int.add_zero] at HE2
            have HOL2 := okD_set HOL.out (i + k) ((o + c) % 1000000000) (by omega)
            have hcz : (o + c) / 1000000000 = 0 := HLT.out rfl _ _ HOL2 (by omega) HE2.out
            have HCZ := Lib.hid hcz; clear hcz
            go_wp2
            go_roundw
            case rel =>
              have hgb := HG.out
              have hrow2 := (HR.out).set (i + k) ((o + c) % 1000000000) (by omega)
              exact ⟨k + 1, (o + c) / 1000000000, _, by go_num, by first | rfl | go_num, by omega, by omega, .inr ⟨HCZ.out, Nat.le_refl _⟩, by simp [hlen], Lib.hid HOL2, hrow2, HE2, hG.put (by omega) _⟩
            case measure => simp [intOf] <;> omega
        · obtain rfl : c = 0 := by omega
          go_wp2
          go_roundw
          case rel => exact ⟨i + 1, out, by omega, by go_num, hlen, HOL, hrow, Lib.hid (times_out out (dig x) (dig y) i k dx HDX.out.symm (by have := HM.out; omega) HE.out), hG⟩
          case measure => simp [intOf] <;> omega
    · have HIS := Lib.hid (RowD.is hrow HOL.out (by unfold maxLen; omega))
      rw [hlen] at HIS
      go_wp2_with (go_at_call 163; refine (trim_any _ _ _ _ _ HIS.out HOL.out).mono ?_; rintro e w' ⟨kt, rfl, hnt, rfl⟩)
      go_ret
      refine ⟨.slice (some ⟨g, 0, none⟩) kt (n + m + 1), rfl, ?_, Nat.le_of_eq HG.out, hG⟩
      have h1 := HE.out
      rw [List.take_of_length_le (by have := HN.out; omega), dval_dig, dval_dig] at h1
      rw [h1, ← Int.natCast_mul, Int.toNat_natCast] at hnt
      exact hnt
end Go.Proofs.Ytjhdogdaldlkhaa
