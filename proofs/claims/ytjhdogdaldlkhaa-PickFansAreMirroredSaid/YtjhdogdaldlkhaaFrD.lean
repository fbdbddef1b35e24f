/- The reference's fractions: Floor, Round, and mix. -/
import Derived.Test.YtjhdogdaldlkhaaFrC
namespace Go.Proofs.Ytjhdogdaldlkhaa
open Go.RowKit
set_option linter.unusedVariables false
set_option linter.unusedSimpArgs false

set_option maxHeartbeats 2000000 in
theorem ffloor_any (n d : Nat) (a1 : Option Addr) (k1 c1 : Nat) (e1 : Option Addr) (l1 p1 : Nat) (w : World)
    (hn : NatIs w (.slice a1 k1 c1) n) (hd : NatIs w (.slice e1 l1 p1) d) (bn : n < 1000000000000000000) (bd0 : 0 < d) (bd : d < 1000000000) :
    Calls Try.prog 157 #[.agg #[.bool false, .slice a1 k1 c1, .slice e1 l1 p1]] w fun e w' => e = .returned (.int .i64 ((n / d : Nat) : Int)) ∧ Gr w w' := by
  have HN := Lib.hid hn; have HD := Lib.hid hd; clear hn hd
  have L1 := Lib.hid (dig_len6 (n := n) (by omega))
  have K : Box3 (w.alloc (.cells #[.bool false, .slice a1 k1 c1, .slice e1 l1 p1] 172)) w.heap.size (.bool false) (.slice a1 k1 c1) (.slice e1 l1 p1) := Box3.of (by repeat (first | exact heap_last _ _ | (refine heap_at _ _ _ ?_; (simp; done)) | (refine heap_old _ _ _ _ (by simp; try omega) ?_)))
  have g0 : Gr w (w.alloc (.cells #[.bool false, .slice a1 k1 c1, .slice e1 l1 p1] 172)) := (by repeat (first | exact Gr.refl _ | assumption | refine Gr.alloc ?_ _ | refine Gr.drew ?_ | refine Gr.drewN ?_ _ | (refine Gr.put ?_ ?_ _; first | exact Nat.le_refl _ | (simp; done) | omega) | (apply Gr.after; assumption)))
  have hqn : n / d ≤ n := Nat.div_le_self n d
  have hqm : n % d < d := Nat.mod_lt n bd0
  generalize hQ : n / d = Q at *
  generalize hR : n % d = R at *
  have HQ := Lib.hid hQ; have HRR := Lib.hid hR; clear hQ hR
  go_enter Try.func157, Try.ntmps157
  go_wp2_with (first
      | (go_at_call 165; (with_reducible refine (divide1_any n d _ _ _ (by exact HN.out.mono g0) (by exact HD.out.mono g0) L1.out bd0 bd).mono ?_); rintro e w1 ⟨v1, v2, rfl, h1, h2, hb1⟩; rw [HQ.out] at h1; rw [HRR.out] at h2; have H1 := Lib.hid h1; have H2 := Lib.hid h2; clear h1 h2; replace K := K.mono hb1)
      | (go_at_call 166; (with_reducible refine (number_any1 Q _ _ H1.out (by omega)).mono ?_); rintro e w2 ⟨rfl, rfl⟩))
  go_ret
  exact ⟨rfl, g0.trans hb1⟩
set_option maxHeartbeats 2000000 in
theorem part12 (w : World) : Calls Try.prog 124 #[.int .i64 1, .int .i64 2] w (RetF false 1 2 w) := part_any 1 2 w (by omega) (by omega)
theorem fround_any (n d : Nat) (a1 : Option Addr) (k1 c1 : Nat) (e1 : Option Addr) (l1 p1 : Nat) (w : World)
    (hn : NatIs w (.slice a1 k1 c1) n) (hd : NatIs w (.slice e1 l1 p1) d) (bn : n < 10000000000000) (bd0 : 0 < d) (bd : d < 500000000) :
    Calls Try.prog 140 #[.agg #[.bool false, .slice a1 k1 c1, .slice e1 l1 p1]] w fun e w' => e = .returned (.int .i64 (((n * 2 + 1 * d) / (d * 2) : Nat) : Int)) ∧ Gr w w' := by
  have HN := Lib.hid hn; have HD := Lib.hid hd; clear hn hd
  go_enter Try.func140, Try.ntmps140
  go_wp2
  obtain ⟨W, hW⟩ : ∃ W, W = w.alloc (.cells #[.bool false, .slice a1 k1 c1, .slice e1 l1 p1] 172) := ⟨_, rfl⟩
  have K : Box3 W w.heap.size (.bool false) (.slice a1 k1 c1) (.slice e1 l1 p1) := by subst hW; exact Box3.of (by repeat (first | exact heap_last _ _ | (refine heap_at _ _ _ ?_; (simp; done)) | (refine heap_old _ _ _ _ (by simp; try omega) ?_)))
  have g0 : Gr w W := by subst hW; exact (by repeat (first | exact Gr.refl _ | assumption | refine Gr.alloc ?_ _ | refine Gr.drew ?_ | refine Gr.drewN ?_ _ | (refine Gr.put ?_ ?_ _; first | exact Nat.le_refl _ | (simp; done) | omega) | (apply Gr.after; assumption)))
  rw [← hW]
  clear hW
  go_region_held3 (fun w' => Box3 w' w.heap.size (.bool false) (.slice a1 k1 c1) (.slice e1 l1 p1)) ((refine Box3.mono K ?_; (repeat (first | exact Gr.refl _ | assumption | refine Gr.alloc ?_ _ | refine Gr.drew ?_ | refine Gr.drewN ?_ _ | (refine Gr.put ?_ ?_ _; first | exact Nat.le_refl _ | (simp; done) | omega) | (apply Gr.after; assumption))); done)) (first
    | (go_at_call 124; (with_reducible refine (part12 _).mono ?_); rintro e w1 ⟨v1, u1, rfl, h1, h2, -, -, hb1⟩; obtain ⟨a2, k2, c2, rfl, -, -⟩ := h1.shape (by omega); obtain ⟨e2, l2, p2, rfl, -, -⟩ := h2.shape (by omega); have H1 := Lib.hid h1; have H2 := Lib.hid h2; clear h1 h2)
    | (go_at_call 138; (with_reducible refine (fplus_any false false n d 1 2 a1 k1 c1 e1 l1 p1 a2 k2 c2 e2 l2 p2 _ (by exact HN.out.mono (by repeat (first | exact Gr.refl _ | assumption | refine Gr.alloc ?_ _ | refine Gr.drew ?_ | refine Gr.drewN ?_ _ | (refine Gr.put ?_ ?_ _; first | exact Nat.le_refl _ | (simp; done) | omega) | (apply Gr.after; assumption)))) (by exact HD.out.mono (by repeat (first | exact Gr.refl _ | assumption | refine Gr.alloc ?_ _ | refine Gr.drew ?_ | refine Gr.drewN ?_ _ | (refine Gr.put ?_ ?_ _; first | exact Nat.le_refl _ | (simp; done) | omega) | (apply Gr.after; assumption)))) (by exact H1.out.mono (by repeat (first | exact Gr.refl _ | assumption | refine Gr.alloc ?_ _ | refine Gr.drew ?_ | refine Gr.drewN ?_ _ | (refine Gr.put ?_ ?_ _; first | exact Nat.le_refl _ | (simp; done) | omega) | (apply Gr.after; assumption)))) (by exact H2.out.mono (by repeat (first | exact Gr.refl _ | assumption | refine Gr.alloc ?_ _ | refine Gr.drew ?_ | refine Gr.drewN ?_ _ | (refine Gr.put ?_ ?_ _; first | exact Nat.le_refl _ | (simp; done) | omega) | (apply Gr.after; assumption)))) bn (by omega) (by omega) (by omega)).mono ?_); rintro e w2 ⟨v3, u3, rfl, h3, h4, -, -, hb2⟩; rw [show fpN false false (n * 2) (1 * d) = n * 2 + 1 * d from if_pos rfl] at h3; obtain ⟨a3, k3, c3, rfl, -, -⟩ := h3.shape (by omega); obtain ⟨e3, l3, p3, rfl, -, -⟩ := h4.shape (by omega); have H3 := Lib.hid h3; have H4 := Lib.hid h4; clear h3 h4; rw [show fpS false false (n * 2) (1 * d) = false from if_pos rfl])
    | (go_at_call 157; (with_reducible refine (ffloor_any (n * 2 + 1 * d) (d * 2) a3 k3 c3 e3 l3 p3 _ (by exact H3.out.mono (by repeat (first | exact Gr.refl _ | assumption | refine Gr.alloc ?_ _ | refine Gr.drew ?_ | refine Gr.drewN ?_ _ | (refine Gr.put ?_ ?_ _; first | exact Nat.le_refl _ | (simp; done) | omega) | (apply Gr.after; assumption)))) (by exact H4.out.mono (by repeat (first | exact Gr.refl _ | assumption | refine Gr.alloc ?_ _ | refine Gr.drew ?_ | refine Gr.drewN ?_ _ | (refine Gr.put ?_ ?_ _; first | exact Nat.le_refl _ | (simp; done) | omega) | (apply Gr.after; assumption)))) (by omega) (by omega) (by omega)).mono ?_); rintro e w3 ⟨rfl, hb3⟩))
  all_goals
    go_wp2
    go_ret
    exact ⟨ret_int (by simp), (by repeat (first | exact Gr.refl _ | assumption | refine Gr.alloc ?_ _ | refine Gr.drew ?_ | refine Gr.drewN ?_ _ | (refine Gr.put ?_ ?_ _; first | exact Nat.le_refl _ | (simp; done) | omega) | (apply Gr.after; assumption)))⟩
theorem congr_div {a b c d : Int} (h : a = c) (k : b = d) : a / b = c / d := by rw [h, k]
theorem whole_of (x : Int) (m : Nat) (w : World) (h : x = m) (hm : m ≤ 9223372036854775807) : Calls Try.prog 137 #[.int .i64 x] w (RetF false m 1 w) := h ▸ whole_pos m w hm
theorem whole_ofn (x : Int) (m : Nat) (w : World) (h : x = -(m : Int)) (hm : m ≤ 9223372036854775807) (h0 : 0 < m) : Calls Try.prog 137 #[.int .i64 x] w (RetF true m 1 w) := h ▸ whole_neg m w hm h0
theorem mix_core (A B p v D : Nat) (sg : Bool) (num : Nat) (a1 : Option Addr) (k1 c1 : Nat) (e1 : Option Addr) (l1 p1 : Nat) (w : World)
    (hn : NatIs w (.slice a1 k1 c1) p) (hd : NatIs w (.slice e1 l1 p1) v) (bA : A ≤ 65535) (bD : D ≤ 65535) (bB : B ≤ 65535) (bp : p ≤ v) (bv0 : 0 < v) (bv : v ≤ 36000000)
    (hwhole : Hid (∀ W, Calls Try.prog 137 #[.int .i64 ((B : Int) - (A : Int))] W (RetF sg D 1 W))) (hS : Hid (fpS false sg (A * (1 * v)) (D * p * 1) = false)) (hN : Hid (fpN false sg (A * (1 * v)) (D * p * 1) = num)) (bnum : num < 10000000000000) :
    Calls Try.prog 123 #[.int .i64 A, .int .i64 B, .agg #[.bool false, .slice a1 k1 c1, .slice e1 l1 p1]] w fun e w' => e = .returned (.int .i64 (((num * 2 + 1 * (1 * (1 * v))) / (1 * (1 * v) * 2) : Nat) : Int)) ∧ Gr w w' := by
  have HN := Lib.hid hn; have HD := Lib.hid hd; clear hn hd
  have bDp : D * p ≤ 65535 * 36000000 := Nat.mul_le_mul bD (by omega)
  have hw1 : IntKind.i64.wrap ((B : Int) - (A : Int)) = (B : Int) - (A : Int) := wrap_in (by omega)
  go_enter Try.func123, Try.ntmps123
  go_wp2
  obtain ⟨W, hW⟩ : ∃ W, W = w.alloc (.cells #[.bool false, .slice a1 k1 c1, .slice e1 l1 p1] 172) := ⟨_, rfl⟩
  have K : Box3 W w.heap.size (.bool false) (.slice a1 k1 c1) (.slice e1 l1 p1) := by subst hW; exact Box3.of (by repeat (first | exact heap_last _ _ | (refine heap_at _ _ _ ?_; (simp; done)) | (refine heap_old _ _ _ _ (by simp; try omega) ?_)))
  have g0 : Gr w W := by subst hW; exact (by repeat (first | exact Gr.refl _ | assumption | refine Gr.alloc ?_ _ | refine Gr.drew ?_ | refine Gr.drewN ?_ _ | (refine Gr.put ?_ ?_ _; first | exact Nat.le_refl _ | (simp; done) | omega) | (apply Gr.after; assumption)))
  rw [← hW]
  clear hW
  go_region_held3 (fun w' => Box3 w' w.heap.size (.bool false) (.slice a1 k1 c1) (.slice e1 l1 p1)) ((refine Box3.mono K ?_; (repeat (first | exact Gr.refl _ | assumption | refine Gr.alloc ?_ _ | refine Gr.drew ?_ | refine Gr.drewN ?_ _ | (refine Gr.put ?_ ?_ _; first | exact Nat.le_refl _ | (simp; done) | omega) | (apply Gr.after; assumption))); done)) (first
    | (go_at_call 137; (with_reducible refine (whole_pos A _ (by omega)).mono ?_); rintro e wa ⟨v2, u2, rfl, h1, h2, -, -, hba⟩; obtain ⟨a2, k2, c2, rfl, -, -⟩ := h1.shape (by omega); obtain ⟨e2, l2, p2, rfl, -, -⟩ := h2.shape (by omega); have H1 := Lib.hid h1; have H2 := Lib.hid h2; clear h1 h2)
    | (go_at_call 137; (with_reducible refine (hwhole.out _).mono ?_); rintro e wb ⟨v3, u3, rfl, h3, h4, -, -, hbb⟩; obtain ⟨a3, k3, c3, rfl, -, -⟩ := h3.shape (by omega); obtain ⟨e3, l3, p3, rfl, -, -⟩ := h4.shape (by omega); have H3 := Lib.hid h3; have H4 := Lib.hid h4; clear h3 h4)
    | (go_at_call 139; (with_reducible refine (ftimes_any sg false D 1 p v a3 k3 c3 e3 l3 p3 a1 k1 c1 e1 l1 p1 _ (by exact H3.out.mono (by repeat (first | exact Gr.refl _ | assumption | refine Gr.alloc ?_ _ | refine Gr.drew ?_ | refine Gr.drewN ?_ _ | (refine Gr.put ?_ ?_ _; first | exact Nat.le_refl _ | (simp; done) | omega) | (apply Gr.after; assumption)))) (by exact H4.out.mono (by repeat (first | exact Gr.refl _ | assumption | refine Gr.alloc ?_ _ | refine Gr.drew ?_ | refine Gr.drewN ?_ _ | (refine Gr.put ?_ ?_ _; first | exact Nat.le_refl _ | (simp; done) | omega) | (apply Gr.after; assumption)))) (by exact HN.out.mono (by repeat (first | exact Gr.refl _ | assumption | refine Gr.alloc ?_ _ | refine Gr.drew ?_ | refine Gr.drewN ?_ _ | (refine Gr.put ?_ ?_ _; first | exact Nat.le_refl _ | (simp; done) | omega) | (apply Gr.after; assumption)))) (by exact HD.out.mono (by repeat (first | exact Gr.refl _ | assumption | refine Gr.alloc ?_ _ | refine Gr.drew ?_ | refine Gr.drewN ?_ _ | (refine Gr.put ?_ ?_ _; first | exact Nat.le_refl _ | (simp; done) | omega) | (apply Gr.after; assumption)))) (by omega) (by omega) (by omega) (by omega)).mono ?_); rintro e wc ⟨v4, u4, rfl, h5, h6, -, -, hbc⟩; obtain ⟨a4, k4, c4, rfl, -, -⟩ := h5.shape (by omega); obtain ⟨e4, l4, p4, rfl, -, -⟩ := h6.shape (by omega); have H5 := Lib.hid h5; have H6 := Lib.hid h6; clear h5 h6; rw [show (sg != false) = sg by cases sg <;> rfl])
    | (go_at_call 138; (with_reducible refine (fplus_any false sg A 1 (D * p) (1 * v) a2 k2 c2 e2 l2 p2 a4 k4 c4 e4 l4 p4 _ (by exact H1.out.mono (by repeat (first | exact Gr.refl _ | assumption | refine Gr.alloc ?_ _ | refine Gr.drew ?_ | refine Gr.drewN ?_ _ | (refine Gr.put ?_ ?_ _; first | exact Nat.le_refl _ | (simp; done) | omega) | (apply Gr.after; assumption)))) (by exact H2.out.mono (by repeat (first | exact Gr.refl _ | assumption | refine Gr.alloc ?_ _ | refine Gr.drew ?_ | refine Gr.drewN ?_ _ | (refine Gr.put ?_ ?_ _; first | exact Nat.le_refl _ | (simp; done) | omega) | (apply Gr.after; assumption)))) (by exact H5.out.mono (by repeat (first | exact Gr.refl _ | assumption | refine Gr.alloc ?_ _ | refine Gr.drew ?_ | refine Gr.drewN ?_ _ | (refine Gr.put ?_ ?_ _; first | exact Nat.le_refl _ | (simp; done) | omega) | (apply Gr.after; assumption)))) (by exact H6.out.mono (by repeat (first | exact Gr.refl _ | assumption | refine Gr.alloc ?_ _ | refine Gr.drew ?_ | refine Gr.drewN ?_ _ | (refine Gr.put ?_ ?_ _; first | exact Nat.le_refl _ | (simp; done) | omega) | (apply Gr.after; assumption)))) (by omega) (by omega) (by omega) (by omega)).mono ?_); rintro e wd ⟨v5, u5, rfl, h7, h8, -, -, hbd⟩; rw [hN.out] at h7; rw [hS.out]; obtain ⟨a5, k5, c5, rfl, -, -⟩ := h7.shape (by omega); obtain ⟨e5, l5, p5, rfl, -, -⟩ := h8.shape (by omega); have H7 := Lib.hid h7; have H8 := Lib.hid h8; clear h7 h8)
    | (go_at_call 140; (with_reducible refine (fround_any num (1 * (1 * v)) a5 k5 c5 e5 l5 p5 _ (by exact H7.out.mono (by repeat (first | exact Gr.refl _ | assumption | refine Gr.alloc ?_ _ | refine Gr.drew ?_ | refine Gr.drewN ?_ _ | (refine Gr.put ?_ ?_ _; first | exact Nat.le_refl _ | (simp; done) | omega) | (apply Gr.after; assumption)))) (by exact H8.out.mono (by repeat (first | exact Gr.refl _ | assumption | refine Gr.alloc ?_ _ | refine Gr.drew ?_ | refine Gr.drewN ?_ _ | (refine Gr.put ?_ ?_ _; first | exact Nat.le_refl _ | (simp; done) | omega) | (apply Gr.after; assumption)))) bnum (by omega) (by omega)).mono ?_); rintro e we ⟨rfl, hbe⟩))
  all_goals
    go_wp2
    go_ret
    exact ⟨ret_int (by simp), (by repeat (first | exact Gr.refl _ | assumption | refine Gr.alloc ?_ _ | refine Gr.drew ?_ | refine Gr.drewN ?_ _ | (refine Gr.put ?_ ?_ _; first | exact Nat.le_refl _ | (simp; done) | omega) | (apply Gr.after; assumption)))⟩
theorem mix1_any (A B p v : Nat) (a1 : Option Addr) (k1 c1 : Nat) (e1 : Option Addr) (l1 p1 : Nat) (w : World)
    (hn : NatIs w (.slice a1 k1 c1) p) (hd : NatIs w (.slice e1 l1 p1) v) (bA : A ≤ 65535) (bB : B ≤ 65535) (bp : p ≤ v) (bv0 : 0 < v) (bv : v ≤ 36000000) :
    Calls Try.prog 123 #[.int .i64 A, .int .i64 B, .agg #[.bool false, .slice a1 k1 c1, .slice e1 l1 p1]] w fun e w' => e = .returned (.int .i64 (roundI ((A : Int) * v + ((B : Int) - A) * p) v)) ∧ Gr w w' := by
  have bAv : A * v ≤ 65535 * 36000000 := Nat.mul_le_mul bA bv
  by_cases h : A ≤ B
  · obtain ⟨D, rfl⟩ := Nat.exists_eq_add_of_le h
    have bDp : D * p ≤ 65535 * 36000000 := Nat.mul_le_mul (by omega) (by omega)
    have e : roundI ((A : Int) * v + (((A + D : Nat) : Int) - A) * p) v = ((((A * v + D * p) * 2 + 1 * (1 * (1 * v))) / (1 * (1 * v) * 2) : Nat) : Int) := by
      rw [show (((A + D : Nat) : Int) - A) = (D : Int) by omega, ← Int.natCast_mul, ← Int.natCast_mul]
      generalize A * v = x
      generalize D * p = y
      unfold roundI
      simp only [Nat.one_mul]
      rw [Int.natCast_ediv]
      exact congr_div (by omega) (by omega)
    rw [e]
    exact mix_core A (A + D) p v D false (A * v + D * p) a1 k1 c1 e1 l1 p1 w hn hd bA (by omega) bB bp bv0 bv (Lib.hid fun W => whole_of _ D W (by omega) (by omega)) (Lib.hid (if_pos rfl)) (Lib.hid (by rw [fpN, if_pos rfl, Nat.one_mul, Nat.mul_one])) (by omega)
  · obtain ⟨D, hD⟩ := Nat.exists_eq_add_of_lt (Nat.lt_of_not_le h)
    have hD' : A = B + (D + 1) := by omega
    have bDp : (D + 1) * p ≤ 65535 * 36000000 := Nat.mul_le_mul (by omega) (by omega)
    have hle : (D + 1) * p ≤ A * v := Nat.mul_le_mul (by omega) bp
    have e : roundI ((A : Int) * v + ((B : Int) - A) * p) v = ((((A * v - (D + 1) * p) * 2 + 1 * (1 * (1 * v))) / (1 * (1 * v) * 2) : Nat) : Int) := by
      rw [show ((B : Int) - A) = -((D + 1 : Nat) : Int) by omega, Int.neg_mul, ← Int.natCast_mul, ← Int.natCast_mul]
      generalize A * v = x at *
      generalize (D + 1) * p = y at *
      unfold roundI
      simp only [Nat.one_mul]
      rw [Int.natCast_ediv]
      exact congr_div (by omega) (by omega)
    rw [e]
    exact mix_core A B p v (D + 1) true (A * v - (D + 1) * p) a1 k1 c1 e1 l1 p1 w hn hd bA (by omega) bB bp bv0 bv (Lib.hid fun W => whole_ofn _ (D + 1) W (by omega) (by omega) (by omega)) (Lib.hid (by rw [fpS, if_neg (by decide), Nat.one_mul, Nat.mul_one, if_pos hle])) (Lib.hid (by rw [fpN, if_neg (by decide), Nat.one_mul, Nat.mul_one, if_pos hle])) (by omega)
end Go.Proofs.Ytjhdogdaldlkhaa
