/- The reference's naturals: order, minus, short, number, and divide by one digit. -/
import Derived.Test.YtjhdogdaldlkhaaNtB
namespace Go.Proofs.Ytjhdogdaldlkhaa
open Go.RowKit
set_option linter.unusedVariables false
set_option linter.unusedSimpArgs false

def ordI (x y : Nat) : Int := if x < y then -1 else if x = y then 0 else 1
set_option maxHeartbeats 2000000 in
theorem order_any (x y : Nat) (vx vy : Value) (w : World) (hx : NatIs w vx x) (hy : NatIs w vy y) :
    Calls Try.prog 155 #[vx, vy] w fun e w' => e = .returned (.int .i64 (ordI x y)) ∧ ∃ k, w' = w.drewN k := by
  obtain ⟨a, n, cap, rfl, HN, hn, hcap⟩ := sliceC_open hx
  obtain ⟨b, m, dap, rfl, HM, hm, hdap⟩ := sliceC_open hy
  have HX := Lib.hid hx; have HY := Lib.hid hy; clear hx hy
  by_cases hnm : n = m
  · subst hnm
    have h0 : ((n : Int) != (n : Int)) = false := by simp
    go_enter Try.func155, Try.ntmps155
    go_wp2
    go_loopw [5] (fun i wr => ∃ k : Nat, k ≤ n ∧ i = .int .i64 ((k : Int) - 1) ∧ Hid ((dig x).drop k = (dig y).drop k) ∧ ∃ q, wr = w.drewN q) (fun i _ => (intOf i + 1).toNat)
    case atStart => exact ⟨n, Nat.le_refl _, rfl, Lib.hid (by rw [List.drop_eq_nil_of_le (by have := HN.out; omega), List.drop_eq_nil_of_le (by have := HM.out; omega)]), 0, rfl⟩
    case round =>
      obtain ⟨k, hk, rfl, HE, q, rfl⟩ := hrel
      cases k with
      | zero =>
        go_wp2
        go_ret
        have e := dig_eq_of_drop HE.out
        exact ⟨ret_int (by simp [ordI, e]), _, rfl⟩
      | succ k =>
        obtain ⟨B1, o1, rfl, c1, -⟩ := sliceC_int HX.out (k := k) (by have := HN.out; omega)
        obtain ⟨B2, o2, rfl, c2, -⟩ := sliceC_int HY.out (k := k) (by have := HM.out; omega)
        rw [getD_of_lt] at c1 c2
        have HXL : Hid (k < (dig x).length) := Lib.hid (by have := HN.out; omega)
        have HYL : Hid (k < (dig y).length) := Lib.hid (by have := HM.out; omega)
        have HD1 : Hid ((dig x).getD k 0 < (dig y).getD k 0 → x < y) := Lib.hid fun h => dig_digit_lt k HXL.out HYL.out HE.out h
        have HD2 : Hid ((dig y).getD k 0 < (dig x).getD k 0 → y < x) := Lib.hid fun h => dig_digit_lt k HYL.out HXL.out HE.out.symm h
        have HD3 : Hid ((dig x).getD k 0 = (dig y).getD k 0 → (dig x).drop k = (dig y).drop k) := Lib.hid fun h => by
          rw [List.drop_eq_getElem_cons HXL.out, List.drop_eq_getElem_cons HYL.out, HE.out, getD_of_lt HXL.out, getD_of_lt HYL.out, h]
        generalize (dig x).getD k 0 = dx at *
        generalize (dig y).getD k 0 = dy at *
        have hi0 : (0 : Int) ≤ (k : Int) := by omega
        have hi1 : (k : Int) < (n : Int) := by omega
        have hi2 : k < n := by omega
        have hs : ((k + 1 : Nat) : Int) - 1 = (k : Int) := by omega
        rw [hs]
        clear hs
        by_cases h1 : dx = dy
        · subst h1
          have h1' : (dx != dx) = false := by simp
          go_wp2
          go_quiet (fail)
          go_wp2
          go_roundw
          case rel => exact ⟨k, by omega, by first | rfl | go_num, Lib.hid (HD3.out (by trivial)), _, by first | rfl | (simp only [World.drewN_drewN]; rfl)⟩
          case measure => simp [intOf] <;> omega
        · have h1' : (dx != dy) = true := by simpa using h1
          by_cases h2 : dx < dy
          · go_wp2
            go_quiet (fail)
            go_wp2
            go_quiet (fail)
            go_wp2
            go_ret
            have := HD1.out h2
            exact ⟨ret_int (by simp [ordI, this]), _, by first | rfl | (simp only [World.drewN_drewN]; rfl)⟩
          · have h2' : decide (dx < dy) = false := by simpa using h2
            go_wp2
            go_quiet (fail)
            go_wp2
            go_quiet (fail)
            go_wp2
            go_ret
            have := HD2.out (by omega)
            exact ⟨ret_int (by rw [ordI, if_neg (by omega), if_neg (by omega)]), _, by first | rfl | (simp only [World.drewN_drewN]; rfl)⟩
  · have h0 : ((n : Int) != (m : Int)) = true := by simp; omega
    by_cases h1 : n < m
    · have := dig_len_lt (x := x) (y := y) (by rw [← HN.out, ← HM.out]; exact h1)
      have HR : Hid (ordI x y = -1) := Lib.hid (by simp [ordI, this])
      clear this
      go_enter Try.func155, Try.ntmps155
      go_wp2
      go_ret
      exact ⟨ret_int HR.out.symm, 0, rfl⟩
    · have := dig_len_lt (x := y) (y := x) (by rw [← HN.out, ← HM.out]; omega)
      have HR : Hid (ordI x y = 1) := Lib.hid (by rw [ordI, if_neg (by omega), if_neg (by omega)])
      clear this
      go_enter Try.func155, Try.ntmps155
      go_wp2
      go_ret
      exact ⟨ret_int HR.out.symm, 0, rfl⟩
set_option maxHeartbeats 2000000 in
theorem minus_any (x y : Nat) (vx vy : Value) (w : World) (hx : NatIs w vx x) (hy : NatIs w vy y) (hxl : (dig x).length ≤ 1000000) (hyx : y ≤ x) :
    Calls Try.prog 156 #[vx, vy] w (RetN (x - y) w) := by
  obtain ⟨a, n, cap, rfl, HN, hn, hcap⟩ := sliceC_open hx
  obtain ⟨b, m, dap, rfl, HM, hm, hdap⟩ := sliceC_open hy
  have HX := Lib.hid hx; have HY := Lib.hid hy; clear hx hy
  have hn6 : n ≤ 1000000 := by rw [HN.out]; exact hxl
  have hmn : m ≤ n := by
    rcases Nat.lt_or_ge n m with h | h
    · have := dig_len_lt (x := x) (y := y) (by rw [← HN.out, ← HM.out]; exact h); omega
    · exact h
  clear hxl
  have HOX := Lib.hid (okD_dig x); have HOY := Lib.hid (okD_dig y)
  have hown : Own w w.heap.size 3 intC (.slice none 0 0) [] := Own.nil _ _ _ _
  go_enter Try.func156, Try.ntmps156
  go_wp2
  go_loopw [5, 6, 11] (fun v cr i wr => ∃ (k : Nat) (c : Int) (l : List Int), i = .int .i64 k ∧ cr = .int .i64 c ∧ (c = 0 ∨ c = 1) ∧ k ≤ n ∧ Hid (l.length = k) ∧ Hid (okD l) ∧ Own wr w.heap.size 3 intC v l ∧
    Hid (dval l + 1000000000 ^ k * (dval ((dig x).drop k) - dval ((dig y).drop k) - c) = (x : Int) - (y : Int)) ∧ Gr w wr) (fun _ _ i _ => n - (intOf i).toNat)
  case atStart => exact ⟨0, 0, [], rfl, rfl, .inl rfl, Nat.zero_le _, Lib.hid rfl, Lib.hid okD_nil, hown, Lib.hid (by simp [dval, dval_dig]), Gr.refl _⟩
  case round =>
    clear hown
    obtain ⟨k, c, l, rfl, rfl, hc01, hkm, HK, HOL, hown, HE, hG⟩ := hrel
    have hc0 : 0 ≤ c := by omega
    have hc1 : c ≤ 1 := by omega
    by_cases hgo : k < n
    · have hsz := hG.size
      obtain ⟨va, vn, vc, rfl, Hvn, h7, h8⟩ := hown.shape
      have hdx := okD_getD HOX.out k
      have hdy := okD_getD HOY.out k
      obtain ⟨B1, o1, rfl, c1, -⟩ := sliceC_int HX.out (k := k) (by have := HN.out; omega)
      rw [getD_of_lt] at c1
      replace c1 := hG.cell c1
      have HY1 : Hid (k < m → ∃ (b' off : Nat), b = some ⟨b', off, none⟩ ∧ w.cell? ⟨b', off + k, none⟩ = some (.int .i64 ((dig y).getD k 0))) := Lib.hid fun h => by
        obtain ⟨b, off, e, h1, _⟩ := sliceC_int HY.out (k := k) (by have := HM.out; omega)
        exact ⟨b, off, e, by rw [h1, getD_of_lt]⟩
      have HY0 : Hid (¬ k < m → (dig y).getD k 0 = 0) := Lib.hid fun h => getD_of_ge (by have := HM.out; omega)
      have HE2 : Hid (∀ d c', d = (dig x).getD k 0 - c - (dig y).getD k 0 + 1000000000 * c' → dval (l ++ [d]) + 1000000000 ^ (k + 1) * (dval ((dig x).drop (k + 1)) - dval ((dig y).drop (k + 1)) - c') = (x : Int) - (y : Int)) := Lib.hid (fun d c' hd => by
        have h1 := HE.out
        have hk := HK.out
        subst hk
        rw [dval_drop (dig x), dval_drop (dig y)] at h1
        exact minus_step l _ _ _ _ _ _ d c' hd h1)
      clear HE
      generalize (dig x).getD k 0 = dx at *
      generalize (dig y).getD k 0 = dy at *
      by_cases h2 : k < m
      · obtain ⟨B2, o2, rfl, c2⟩ := HY1.out h2
        replace c2 := hG.cell c2
        by_cases hneg : dx - c - dy < 0
        · go_wp2_with (first | (at_builtin; refine app_int _ rfl _ _ 170 rfl Try.underlying170 w.heap.size _ l rfl (hown.alloc _) _ rfl _ _ (heap_last _ _) (by unfold inI; omega) (by have := HK.out; omega) (by simp; omega) ?_; intro v' w' hown' hgrow))
          go_roundw
          case rel => exact ⟨k + 1, 1, _, by go_num, rfl, .inr rfl, by omega, Lib.hid (by simp [HK.out]), Lib.hid (okD_append.2 ⟨HOL.out, okD_cons.2 ⟨by omega, okD_nil⟩⟩), hown', Lib.hid (HE2.out _ _ (by omega)), Own.gr (hown.alloc _) (hG.alloc _) (Nat.le_refl _) hgrow⟩
          case measure => simp [intOf] <;> omega
        · go_wp2_with (first | (at_builtin; refine app_int _ rfl _ _ 170 rfl Try.underlying170 w.heap.size _ l rfl (hown.alloc _) _ rfl _ _ (heap_last _ _) (by unfold inI; omega) (by have := HK.out; omega) (by simp; omega) ?_; intro v' w' hown' hgrow))
          go_roundw
          case rel => exact ⟨k + 1, 0, _, by go_num, rfl, .inl rfl, by omega, Lib.hid (by simp [HK.out]), Lib.hid (okD_append.2 ⟨HOL.out, okD_cons.2 ⟨by omega, okD_nil⟩⟩), hown', Lib.hid (HE2.out _ _ (by omega)), Own.gr (hown.alloc _) (hG.alloc _) (Nat.le_refl _) hgrow⟩
          case measure => simp [intOf] <;> omega
      · obtain rfl := HY0.out h2
        by_cases hneg : dx - c < 0
        · go_wp2_with (first | (at_builtin; refine app_int _ rfl _ _ 170 rfl Try.underlying170 w.heap.size _ l rfl (hown.alloc _) _ rfl _ _ (heap_last _ _) (by unfold inI; omega) (by have := HK.out; omega) (by simp; omega) ?_; intro v' w' hown' hgrow))
          go_roundw
          case rel => exact ⟨k + 1, 1, _, by go_num, rfl, .inr rfl, by omega, Lib.hid (by simp [HK.out]), Lib.hid (okD_append.2 ⟨HOL.out, okD_cons.2 ⟨by omega, okD_nil⟩⟩), hown', Lib.hid (HE2.out _ _ (by omega)), Own.gr (hown.alloc _) (hG.alloc _) (Nat.le_refl _) hgrow⟩
          case measure => simp [intOf] <;> omega
        · go_wp2_with (first | (at_builtin; refine app_int _ rfl _ _ 170 rfl Try.underlying170 w.heap.size _ l rfl (hown.alloc _) _ rfl _ _ (heap_last _ _) (by unfold inI; omega) (by have := HK.out; omega) (by simp; omega) ?_; intro v' w' hown' hgrow))
          go_roundw
          case rel => exact ⟨k + 1, 0, _, by go_num, rfl, .inl rfl, by omega, Lib.hid (by simp [HK.out]), Lib.hid (okD_append.2 ⟨HOL.out, okD_cons.2 ⟨by omega, okD_nil⟩⟩), hown', Lib.hid (HE2.out _ _ (by omega)), Own.gr (hown.alloc _) (hG.alloc _) (Nat.le_refl _) hgrow⟩
          case measure => simp [intOf] <;> omega
    · obtain ⟨va, vn, vc, rfl, -, -, -⟩ := hown.shape
      have HIS := Lib.hid hown.is
      go_wp2_with (go_at_call 163; refine (trim_any _ _ _ _ _ HIS.out HOL.out).mono ?_; rintro e w' ⟨kt, rfl, hnt, rfl⟩)
      go_ret
      refine ⟨_, rfl, ?_, hown.fresh _, hG⟩
      have h1 := HE.out
      rw [List.drop_eq_nil_of_le (by have := HN.out; omega), List.drop_eq_nil_of_le (by have := HM.out; omega), ← HK.out] at h1
      have h2 := minus_end HOL.out c _ (by omega) hc01 h1
      rw [h2, show ((x : Int) - (y : Int)).toNat = x - y by omega] at hnt
      exact hnt
end Go.Proofs.Ytjhdogdaldlkhaa
