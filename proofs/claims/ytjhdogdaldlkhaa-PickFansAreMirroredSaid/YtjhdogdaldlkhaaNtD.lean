/- The reference's naturals: short, number, and divide by one digit. -/
import Derived.Test.YtjhdogdaldlkhaaNtC
namespace Go.Proofs.Ytjhdogdaldlkhaa
open Go.RowKit
set_option linter.unusedVariables false
set_option linter.unusedSimpArgs false

theorem short_end {X out : List Int} {x : Nat} {n rest : Int} (hX : dval X = x) (hn : 0 < n) (hr0 : 0 ≤ rest) (hr1 : rest < n) (ho : okD out) (h : dval (out.drop 0) * n + rest = dval (X.drop 0)) :
    (dval out).toNat = x / n.toNat ∧ rest = ((x % n.toNat : Nat) : Int) := by
  simp only [List.drop_zero, hX] at h
  have h1 := dval_nonneg ho
  obtain ⟨m, rfl⟩ : ∃ m : Nat, n = m := ⟨n.toNat, by omega⟩
  obtain ⟨r, rfl⟩ : ∃ m : Nat, rest = m := ⟨rest.toNat, by omega⟩
  obtain ⟨q, hq⟩ : ∃ m : Nat, dval out = m := ⟨(dval out).toNat, by omega⟩
  rw [hq] at h ⊢
  have h2 : q * m + r = x := by exact_mod_cast h
  simp only [Int.toNat_natCast]
  have hm : 0 < m := by omega
  have hrm : r < m := by omega
  subst h2
  constructor
  · rw [Nat.mul_comm, Nat.mul_add_div hm, Nat.div_eq_of_lt hrm]; omega
  · rw [Nat.mul_comm, Nat.mul_add_mod, Nat.mod_eq_of_lt hrm]
set_option maxHeartbeats 2000000 in
set_option maxRecDepth 100000 in
theorem short_any (x : Nat) (n : Int) (vx : Value) (w : World) (hx : NatIs w vx x) (hxl : (dig x).length ≤ 1000000) (hn0 : 0 < n) (hn1 : n ≤ 1000000000) :
    Calls Try.prog 169 #[vx, .int .i64 n] w fun e w' => ∃ v, e = .returned (.tuple #[v, .int .i64 ((x % n.toNat : Nat) : Int)]) ∧ NatIs w' v (x / n.toNat) ∧ Gr w w' := by
  obtain ⟨a, m, cap, rfl, HN, hn, hcap⟩ := sliceC_open hx
  have HX := Lib.hid hx; clear hx
  have hn6 : m ≤ 1000000 := by rw [HN.out]; exact hxl
  clear hxl
  have HOX := Lib.hid (okD_dig x)
  have hmk := fun W => mk_nat m (by omega) W
  go_enter Try.func169, Try.ntmps169
  go_wp2
  have hrow := RowD.made w m
  have g0 : Gr w (w.alloc (.cells (madeCells #[.int .i64 0] m) 3)) := (by repeat (first | exact Gr.refl _ | assumption | refine Gr.alloc ?_ _ | refine Gr.drew ?_ | refine Gr.drewN ?_ _ | (refine Gr.put ?_ ?_ _; first | exact Nat.le_refl _ | (simp; done) | omega) | (apply Gr.after; assumption)))
  generalize hW : w.alloc (.cells (madeCells #[.int .i64 0] m) 3) = W at *
  have hg : w.heap.size ≤ w.heap.size := Nat.le_refl _
  generalize hgg : w.heap.size = g at hrow hg ⊢
  clear hW hmk
  have HG := Lib.hid hgg; clear hgg
  go_loopw [7, 8] (fun r i wr => ∃ (k : Nat) (rest : Int) (out : List Int), k ≤ m ∧ i = .int .i64 ((k : Int) - 1) ∧ r = .int .i64 rest ∧ 0 ≤ rest ∧ rest < n ∧ out.length = m ∧ Hid (okD out) ∧ RowD wr g out ∧ Hid (dval (out.drop k) * n + rest = dval ((dig x).drop k)) ∧ Gr w wr) (fun _ i _ => (intOf i + 1).toNat)
  case atStart => exact ⟨m, 0, _, Nat.le_refl _, rfl, rfl, by omega, by omega, by simp, Lib.hid (okD_zeros _), hrow, Lib.hid (by rw [List.drop_eq_nil_of_le (by simp), List.drop_eq_nil_of_le (by have := HN.out; omega)]; simp [dval]), g0⟩
  case round =>
    clear hrow
    obtain ⟨k, rest, out, hk, rfl, rfl, hr0, hr1, hlen, HOL, hrow, HE, hG⟩ := hrel
    cases k with
    | zero =>
      have HIS := Lib.hid (RowD.is hrow HOL.out (by unfold maxLen; omega))
      rw [hlen] at HIS
      go_wp2_with (go_at_call 163; refine (trim_any _ _ _ _ _ HIS.out HOL.out).mono ?_; rintro e w' ⟨kt, rfl, hnt, rfl⟩)
      go_ret2
      obtain ⟨h1, h2⟩ := short_end (dval_dig x) hn0 hr0 hr1 HOL.out HE.out
      refine ⟨.slice (some ⟨g, 0, none⟩) kt m, ?_, ?_, hG⟩
      · rw [← h2]; rfl
      · rw [h1] at hnt; exact hnt
    | succ k =>
      obtain ⟨B1, o1, rfl, c1, -⟩ := sliceC_int HX.out (k := k) (by have := HN.out; omega)
      rw [getD_of_lt] at c1
      replace c1 := hG.cell c1
      have hdx := okD_getD HOX.out k
      have HE2 := Lib.hid (short_step out (dig x) k n rest (by omega) hn0 HE.out)
      have HR := Lib.hid hrow
      have r1 := World.rowIs.cell hrow (i := k) (by omega)
      have r2 := World.rowIs.frozen hrow k
      clear HE hrow
      generalize (dig x).getD k 0 = dx at *
      have hq0 : 0 ≤ (rest * 1000000000 + dx) / n := Int.ediv_nonneg (by omega) (by omega)
      have hq1 : (rest * 1000000000 + dx) / n < 1000000000 := Int.ediv_lt_of_lt_mul hn0 (by
        have : (rest + 1) * 1000000000 ≤ n * 1000000000 := Int.mul_le_mul_of_nonneg_right (by omega) (by omega)
        rw [Int.mul_comm 1000000000 n]; omega)
      have hm0 := Int.emod_nonneg (rest * 1000000000 + dx) (show n ≠ 0 by omega)
      have hm1 := Int.emod_lt_of_pos (rest * 1000000000 + dx) hn0
      have hs : ((k + 1 : Nat) : Int) - 1 = (k : Int) := by omega
      rw [hs]
      clear hs
      go_wp2
      go_roundw
      case rel =>
        have hgb := HG.out
        exact ⟨k, (rest * 1000000000 + dx) % n, _, by omega, by first | rfl | go_num, by first | rfl | go_num, hm0, hm1, by simp [hlen], Lib.hid (okD_set HOL.out k ((rest * 1000000000 + dx) / n) ⟨hq0, hq1⟩), (HR.out).set k ((rest * 1000000000 + dx) / n) (by omega), HE2, hG.put (by omega) _⟩
      case measure => simp [intOf] <;> omega
set_option maxHeartbeats 2000000 in
theorem number_any1 (x : Nat) (vx : Value) (w : World) (hx : NatIs w vx x) (hx63 : x ≤ 9223372036854775807) :
    Calls Try.prog 166 #[vx] w fun e w' => e = .returned (.int .i64 x) ∧ w = w' := by
  obtain ⟨a, m, cap, rfl, HN, hn, hcap⟩ := sliceC_open hx
  have HX := Lib.hid hx; clear hx
  have HOX := Lib.hid (okD_dig x)
  go_enter Try.func166, Try.ntmps166
  go_wp2
  go_loop [3, 4] (fun r i => ∃ (k : Nat) (acc : Int), k ≤ m ∧ i = .int .i64 ((k : Int) - 1) ∧ r = .int .i64 acc ∧ Hid (acc = dval ((dig x).drop k))) (fun _ i => (intOf i + 1).toNat)
  case atStart => exact ⟨m, 0, Nat.le_refl _, rfl, rfl, Lib.hid (by rw [List.drop_eq_nil_of_le (by have := HN.out; omega)]; rfl)⟩
  case round =>
    obtain ⟨k, acc, hk, rfl, rfl, HE⟩ := hrel
    cases k with
    | zero =>
      go_wp2
      go_ret
      exact ⟨ret_int (by rw [HE.out, List.drop_zero, dval_dig]), rfl⟩
    | succ k =>
      obtain ⟨B1, o1, rfl, c1, -⟩ := sliceC_int HX.out (k := k) (by have := HN.out; omega)
      rw [getD_of_lt] at c1
      have hdx := okD_getD HOX.out k
      have hb1 := dval_drop_le (x := x) k
      have hb2 := dval_drop_le (x := x) (k + 1)
      have hb3 := dval_drop (dig x) k
      rw [← HE.out] at hb2 hb3
      have HE2 : Hid (acc * 1000000000 + (dig x).getD k 0 = dval ((dig x).drop k)) := Lib.hid (by omega)
      rw [← HE2.out] at hb1
      clear HE hb3
      generalize (dig x).getD k 0 = dx at *
      have hs : ((k + 1 : Nat) : Int) - 1 = (k : Int) := by omega
      rw [hs]
      clear hs
      go_wp2
      go_round
      case rel => exact ⟨k, acc * 1000000000 + dx, by omega, by first | rfl | go_num, by first | rfl | go_num, HE2⟩
      case measure => simp [intOf] <;> omega
/-- The call returns these two naturals. -/
def RetNN (n m : Nat) (w : World) (e : Ending) (w' : World) : Prop := ∃ v u, e = .returned (.tuple #[v, u]) ∧ NatIs w' v n ∧ NatIs w' u m ∧ Gr w w'
set_option maxHeartbeats 2000000 in
set_option maxRecDepth 100000 in
theorem divide1_any (x y : Nat) (vx vy : Value) (w : World) (hx : NatIs w vx x) (hy : NatIs w vy y) (hxl : (dig x).length ≤ 1000000) (hy0 : 0 < y) (hy9 : y < 1000000000) :
    Calls Try.prog 165 #[vx, vy] w (RetNN (x / y) (x % y) w) := by
  have HX := Lib.hid hx; have HY := Lib.hid hy
  obtain ⟨a, m, cap, rfl, HN, hn, hcap⟩ := sliceC_open hy
  obtain ⟨B1, o1, rfl, c1, -⟩ := sliceC_int hy (k := 0) (by rw [dig_len_one hy9 hy0]; simp)
  have hm1 : m = 1 := by rw [HN.out, dig_len_one hy9 hy0]; rfl
  subst hm1
  have hyy : (dig y)[0]'(by rw [dig_len_one hy9 hy0]; simp) = (y : Int) := by simp [dig_len_one hy9 hy0]
  rw [hyy, Nat.add_zero] at c1
  clear hx hy HN hyy
  by_cases hlt : x < y
  · have HO : Hid (ordI x y = -1) := Lib.hid (by simp [ordI, hlt])
    have HR : Hid (x / y = 0 ∧ x % y = x) := Lib.hid ⟨Nat.div_eq_of_lt hlt, Nat.mod_eq_of_lt hlt⟩
    go_enter Try.func165, Try.ntmps165
    go_wp2_with (first | (go_at_call 155; refine (order_any x y _ _ _ HX.out HY.out).mono ?_; rintro e w' ⟨rfl, k, rfl⟩; rw [HO.out]))
    go_ret2
    obtain ⟨h1, h2⟩ := HR.out
    rw [h1, h2]
    exact ⟨_, _, rfl, by unfold NatIs; rw [dig_zero]; exact .inl ⟨rfl, rfl⟩, HX.out.mono ((Gr.refl _).drewN _), (Gr.refl _).drewN _⟩
  · have hoI : ¬ ordI x y < 0 := by rw [ordI, if_neg hlt]; split <;> omega
    have hoI' : decide (ordI x y < 0) = false := by simpa using hoI
    clear hoI
    have hr9 : x % y ≤ 9223372036854775807 := by have := Nat.mod_lt x hy0; omega
    go_enter Try.func165, Try.ntmps165
    go_wp2_with (first
      | (go_at_call 155; refine (order_any x y _ _ _ HX.out HY.out).mono ?_; rintro e w' ⟨rfl, k, rfl⟩)
      | (go_at_call 169; refine (short_any x y _ _ (HX.out.mono ((Gr.refl _).drewN _)) hxl (by omega) (by omega)).mono ?_; rintro e w1 ⟨v1, rfl, h1, hb1⟩; simp only [Int.toNat_natCast] at h1 ⊢; have H1 := Lib.hid h1; clear h1)
      | (go_at_call 141; refine (small_any _ _ hr9).mono ?_; rintro e w2 ⟨v2, rfl, h2, -, hb2⟩; have H2 := Lib.hid h2; clear h2))
    go_ret2
    exact ⟨_, _, rfl, H1.out.mono hb2, H2.out, (((Gr.refl _).drewN _).trans hb1).trans hb2⟩
end Go.Proofs.Ytjhdogdaldlkhaa
