/- The reference's fractions: Plus. -/
import Derived.Test.YtjhdogdaldlkhaaFrB
namespace Go.Proofs.Ytjhdogdaldlkhaa
open Go.RowKit
set_option linter.unusedVariables false
set_option linter.unusedSimpArgs false

def fpS (s1 s2 : Bool) (p q : Nat) : Bool := if s1 = s2 then s1 else if q ≤ p then s1 else s2
def fpN (s1 s2 : Bool) (p q : Nat) : Nat := if s1 = s2 then p + q else if q ≤ p then p - q else q - p
set_option maxHeartbeats 4000000 in
theorem fplus_eq (s1 s2 : Bool) (n1 d1 n2 d2 : Nat) (a1 : Option Addr) (k1 c1 : Nat) (e1 : Option Addr) (l1 p1 : Nat) (a2 : Option Addr) (k2 c2 : Nat) (e2 : Option Addr) (l2 p2 : Nat) (w : World)
    (hn1 : NatIs w (.slice a1 k1 c1) n1) (hd1 : NatIs w (.slice e1 l1 p1) d1) (hn2 : NatIs w (.slice a2 k2 c2) n2) (hd2 : NatIs w (.slice e2 l2 p2) d2)
    (bn1 : n1 < 10000000000000) (bd1 : d1 < 10000000000000) (bn2 : n2 < 10000000000000) (bd2 : d2 < 10000000000000) (hc : s1 = s2) :
    Calls Try.prog 138 #[.agg #[.bool s1, .slice a1 k1 c1, .slice e1 l1 p1], .agg #[.bool s2, .slice a2 k2 c2, .slice e2 l2 p2]] w (RetF (fpS s1 s2 (n1 * d2) (n2 * d1)) (fpN s1 s2 (n1 * d2) (n2 * d1)) (d1 * d2) w) := by
  have HN1 := Lib.hid hn1; have HN2 := Lib.hid hn2; have HD1 := Lib.hid hd1; have HD2 := Lib.hid hd2
  have L1 := Lib.hid (dig_len6 (n := n1) (by omega)); have L2 := Lib.hid (dig_len6 (n := n2) (by omega)); have L3 := Lib.hid (dig_len6 (n := d1) (by omega)); have L4 := Lib.hid (dig_len6 (n := d2) (by omega))
  have bnn' : n1 * d2 ≤ 10000000000000 * 10000000000000 := Nat.mul_le_mul (Nat.le_of_lt bn1) (Nat.le_of_lt bd2)
  have bmm' : n2 * d1 ≤ 10000000000000 * 10000000000000 := Nat.mul_le_mul (Nat.le_of_lt bn2) (Nat.le_of_lt bd1)
  have bnn : n1 * d2 < 1000000000000000000000000000 := by omega
  have bmm : n2 * d1 < 1000000000000000000000000000 := by omega
  have bdd : d1 * d2 < 1000000000000000000000000000 := Nat.lt_of_le_of_lt (Nat.mul_le_mul (Nat.le_of_lt bd1) (Nat.le_of_lt bd2)) (by omega)
  have L5 := Lib.hid (dig_len6 bnn); have L6 := Lib.hid (dig_len6 bmm)
  clear hn1 hn2 hd1 hd2
  subst hc
  rw [show fpS s1 s1 (n1 * d2) (n2 * d1) = s1 from if_pos rfl, show fpN s1 s1 (n1 * d2) (n2 * d1) = n1 * d2 + n2 * d1 from if_pos rfl]
  have bval : (n1 * d2 + n2 * d1) < 1000000000000000000000000000 := by omega
  go_enter Try.func138, Try.ntmps138
  go_wp2
  obtain ⟨W, hW⟩ : ∃ W, W = ((w.alloc (.cells #[.bool s1, .slice a1 k1 c1, .slice e1 l1 p1] 172)).alloc (.cells #[.bool s1, .slice a2 k2 c2, .slice e2 l2 p2] 172)).alloc (.cells #[.bool false, .slice none 0 0, .slice none 0 0] 172) := ⟨_, rfl⟩
  have K : Box33 W w.heap.size (w.heap.size + 1) (.bool s1) (.slice a1 k1 c1) (.slice e1 l1 p1) (.bool s1) (.slice a2 k2 c2) (.slice e2 l2 p2) := by
    subst hW; exact ⟨Box3.of (by repeat (first | exact heap_last _ _ | (refine heap_at _ _ _ ?_; (simp; done)) | (refine heap_old _ _ _ _ (by simp; try omega) ?_))), Box3.of (by repeat (first | exact heap_last _ _ | (refine heap_at _ _ _ ?_; (simp; done)) | (refine heap_old _ _ _ _ (by simp; try omega) ?_)))⟩
  have K3 : Box3 W (w.heap.size + 1 + 1) (.bool false) (.slice none 0 0) (.slice none 0 0) := by subst hW; exact Box3.of (by repeat (first | exact heap_last _ _ | (refine heap_at _ _ _ ?_; (simp; done)) | (refine heap_old _ _ _ _ (by simp; try omega) ?_)))
  have g0 : Gr w W := by subst hW; exact (by repeat (first | exact Gr.refl _ | assumption | refine Gr.alloc ?_ _ | refine Gr.drew ?_ | refine Gr.drewN ?_ _ | (refine Gr.put ?_ ?_ _; first | exact Nat.le_refl _ | (simp; done) | omega) | (apply Gr.after; assumption)))
  have hsz : w.heap.size + 3 = W.heap.size := by subst hW; simp
  rw [← hW]
  clear hW
  go_region_held3 (fun w' => Box33 w' w.heap.size (w.heap.size + 1) (.bool s1) (.slice a1 k1 c1) (.slice e1 l1 p1) (.bool s1) (.slice a2 k2 c2) (.slice e2 l2 p2)) (first | (refine Box33.mono K ?_; (repeat (first | exact Gr.refl _ | assumption | refine Gr.alloc ?_ _ | refine Gr.drew ?_ | refine Gr.drewN ?_ _ | (refine Gr.put ?_ ?_ _; first | exact Nat.le_refl _ | (simp; done) | omega) | (apply Gr.after; assumption))); done) | (exact ⟨((K1c.other (by omega)).other (by omega)).other (by omega), ((K2c.other (by omega)).other (by omega)).other (by omega)⟩)) (first
    | (go_at_call 152; (with_reducible refine (times_any n1 d2 (.slice a1 k1 c1) (.slice e2 l2 p2) _ (by exact HN1.out.mono (by repeat (first | exact Gr.refl _ | assumption | refine Gr.alloc ?_ _ | refine Gr.drew ?_ | refine Gr.drewN ?_ _ | (refine Gr.put ?_ ?_ _; first | exact Nat.le_refl _ | (simp; done) | omega) | (apply Gr.after; assumption)))) (by exact HD2.out.mono (by repeat (first | exact Gr.refl _ | assumption | refine Gr.alloc ?_ _ | refine Gr.drew ?_ | refine Gr.drewN ?_ _ | (refine Gr.put ?_ ?_ _; first | exact Nat.le_refl _ | (simp; done) | omega) | (apply Gr.after; assumption)))) L1.out L4.out).mono ?_); rintro e wz ⟨va, rfl, ha, fa, hbz⟩; obtain ⟨aa, ka, ca, rfl, hka, -⟩ := ha.shape bnn; have HA := Lib.hid ha; have FA := Lib.hid (Fresh.le (C := W.heap.size) fa (Gr.size (by repeat (first | exact Gr.refl _ | assumption | refine Gr.alloc ?_ _ | refine Gr.drew ?_ | refine Gr.drewN ?_ _ | (refine Gr.put ?_ ?_ _; first | exact Nat.le_refl _ | (simp; done) | omega) | (apply Gr.after; assumption))))); clear ha fa; (try replace HB := Lib.hid (NatIs.mono (w' := wz) HB.out (by repeat (first | exact Gr.refl _ | assumption | refine Gr.alloc ?_ _ | refine Gr.drew ?_ | refine Gr.drewN ?_ _ | (refine Gr.put ?_ ?_ _; first | exact Nat.le_refl _ | (simp; done) | omega) | (apply Gr.after; assumption))))); have gz : Gr W wz := (by repeat (first | exact Gr.refl _ | assumption | refine Gr.alloc ?_ _ | refine Gr.drew ?_ | refine Gr.drewN ?_ _ | (refine Gr.put ?_ ?_ _; first | exact Nat.le_refl _ | (simp; done) | omega) | (apply Gr.after; assumption))))
    | (go_at_call 152; (with_reducible refine (times_any n2 d1 (.slice a2 k2 c2) (.slice e1 l1 p1) _ (by exact HN2.out.mono (by repeat (first | exact Gr.refl _ | assumption | refine Gr.alloc ?_ _ | refine Gr.drew ?_ | refine Gr.drewN ?_ _ | (refine Gr.put ?_ ?_ _; first | exact Nat.le_refl _ | (simp; done) | omega) | (apply Gr.after; assumption)))) (by exact HD1.out.mono (by repeat (first | exact Gr.refl _ | assumption | refine Gr.alloc ?_ _ | refine Gr.drew ?_ | refine Gr.drewN ?_ _ | (refine Gr.put ?_ ?_ _; first | exact Nat.le_refl _ | (simp; done) | omega) | (apply Gr.after; assumption)))) L2.out L3.out).mono ?_); rintro e wz ⟨vb, rfl, hb, fb, hbz⟩; obtain ⟨ab, kb, cb, rfl, hkb, -⟩ := hb.shape bmm; have HB := Lib.hid hb; have FB := Lib.hid (Fresh.le (C := W.heap.size) fb (Gr.size (by repeat (first | exact Gr.refl _ | assumption | refine Gr.alloc ?_ _ | refine Gr.drew ?_ | refine Gr.drewN ?_ _ | (refine Gr.put ?_ ?_ _; first | exact Nat.le_refl _ | (simp; done) | omega) | (apply Gr.after; assumption))))); clear hb fb; (try replace HA := Lib.hid (NatIs.mono (w' := wz) HA.out (by repeat (first | exact Gr.refl _ | assumption | refine Gr.alloc ?_ _ | refine Gr.drew ?_ | refine Gr.drewN ?_ _ | (refine Gr.put ?_ ?_ _; first | exact Nat.le_refl _ | (simp; done) | omega) | (apply Gr.after; assumption))))); have gz : Gr W wz := (by repeat (first | exact Gr.refl _ | assumption | refine Gr.alloc ?_ _ | refine Gr.drew ?_ | refine Gr.drewN ?_ _ | (refine Gr.put ?_ ?_ _; first | exact Nat.le_refl _ | (simp; done) | omega) | (apply Gr.after; assumption)))))
  all_goals
    rename_i hh
    have K1 := hh.1; have K2 := hh.2
    clear hh K hbz
    replace K3 := K3.mono gz
    go_wp2_with (first
      | (go_at_call 152; (with_reducible refine (times_any d1 d2 (.slice e1 l1 p1) (.slice e2 l2 p2) _ (by exact HD1.out.mono (g0.trans gz)) (by exact HD2.out.mono (g0.trans gz)) L3.out L4.out).mono ?_); rintro e wy ⟨vd, rfl, hd, fd, hby⟩; obtain ⟨ad, kd, cd, rfl, hkd, -⟩ := hd.shape bdd; have HD := Lib.hid hd; have FD := Lib.hid (Fresh.le (C := W.heap.size) fd gz.size); clear hd fd; replace HA := Lib.hid (NatIs.mono HA.out hby); replace HB := Lib.hid (NatIs.mono HB.out hby); have gy : Gr W wy := gz.trans hby; replace K1 := K1.mono hby; replace K2 := K2.mono hby; replace K3 := K3.mono hby)
      | (go_at_call 155; (with_reducible refine (order_any (n1 * d2) (n2 * d1) _ _ _ HA.out HB.out).mono ?_); rintro e wo ⟨rfl, q, rfl⟩))
    clear gz hby
    go_region_held3 (fun w' => Box3 w' w.heap.size (.bool s1) (.slice a1 k1 c1) (.slice e1 l1 p1)) (first | (refine Box3.mono K1 ?_; (repeat (first | exact Gr.refl _ | assumption | refine Gr.alloc ?_ _ | refine Gr.drew ?_ | refine Gr.drewN ?_ _ | (refine Gr.put ?_ ?_ _; first | exact Nat.le_refl _ | (simp; done) | omega) | (apply Gr.after; assumption))); done) | (exact ((Kc.other (by omega)).other (by omega)).other (by omega))) (first
      | (go_at_call 153; (with_reducible refine (plus_any (n1 * d2) (n2 * d1) (.slice aa ka ca) (.slice ab kb cb) _ (by exact HA.out.mono (by repeat (first | exact Gr.refl _ | assumption | refine Gr.alloc ?_ _ | refine Gr.drew ?_ | refine Gr.drewN ?_ _ | (refine Gr.put ?_ ?_ _; first | exact Nat.le_refl _ | (simp; done) | omega) | (apply Gr.after; assumption)))) (by exact HB.out.mono (by repeat (first | exact Gr.refl _ | assumption | refine Gr.alloc ?_ _ | refine Gr.drew ?_ | refine Gr.drewN ?_ _ | (refine Gr.put ?_ ?_ _; first | exact Nat.le_refl _ | (simp; done) | omega) | (apply Gr.after; assumption)))) L5.out L6.out).mono ?_); rintro e wp ⟨vp, rfl, hvp, fp, hbp⟩; obtain ⟨ap, kp, cp, rfl, hkp, -⟩ := hvp.shape bval; have HP := Lib.hid hvp; have FP := Lib.hid (Fresh.le (C := W.heap.size) fp (Gr.size (by repeat (first | exact Gr.refl _ | assumption | refine Gr.alloc ?_ _ | refine Gr.drew ?_ | refine Gr.drewN ?_ _ | (refine Gr.put ?_ ?_ _; first | exact Nat.le_refl _ | (simp; done) | omega) | (apply Gr.after; assumption))))); clear hvp fp)
      | (go_at_call 154; (with_reducible refine (reduced_any _ _ _ _ _ _ _ _ (by omega) (by omega)).mono ?_); rintro e wc ⟨rfl, hbc⟩; have gWc : Gr wy wc := (by repeat (first | exact Gr.refl _ | assumption | refine Gr.alloc ?_ _ | refine Gr.drew ?_ | refine Gr.drewN ?_ _ | (refine Gr.put ?_ ?_ _; first | exact Nat.le_refl _ | (simp; done) | omega) | (apply Gr.after; assumption))); have K3c := K3.mono gWc; have Kc := K1.mono gWc))
    all_goals
      have HP' : NatIs wc (.slice ap kp cp) (n1 * d2 + n2 * d1) := by clear gWc; exact HP.out.mono (by repeat (first | exact Gr.refl _ | assumption | refine Gr.alloc ?_ _ | refine Gr.drew ?_ | refine Gr.drewN ?_ _ | (refine Gr.put ?_ ?_ _; first | exact Nat.le_refl _ | (simp; done) | omega) | (apply Gr.after; assumption)))
      have HD' : NatIs wc (.slice ad kd cd) (d1 * d2) := HD.out.mono gWc
      have gwc : Gr w wc := (g0.trans gy).trans gWc
      go_wp2
      have K' : Box3 (((wc.setCell ⟨w.heap.size + 1 + 1, 0, none⟩ (.bool s1)).setCell ⟨w.heap.size + 1 + 1, 1, none⟩ (.slice ap kp cp)).setCell ⟨w.heap.size + 1 + 1, 2, none⟩ (.slice ad kd cd)) (w.heap.size + 1 + 1) (.bool s1) (.slice ap kp cp) (.slice ad kd cd) := K3c.st0.st1.st2
      refine bodyPost_ret (v := .agg #[.bool s1, .slice ap kp cp, .slice ad kd cd]) (by simp [results, Try.results138, go_sem, K']) rfl ?_
      exact ⟨_, _, rfl, ((HP'.off FP.out (by omega)).off FP.out (by omega)).off FP.out (by omega), ((HD'.off FD.out (by omega)).off FD.out (by omega)).off FD.out (by omega), FP.out.le (by omega), FD.out.le (by omega), ((gwc.put (by omega) _).put (by omega) _).put (by omega) _⟩
set_option maxHeartbeats 4000000 in
theorem fplus_ge (s1 s2 : Bool) (n1 d1 n2 d2 : Nat) (a1 : Option Addr) (k1 c1 : Nat) (e1 : Option Addr) (l1 p1 : Nat) (a2 : Option Addr) (k2 c2 : Nat) (e2 : Option Addr) (l2 p2 : Nat) (w : World)
    (hn1 : NatIs w (.slice a1 k1 c1) n1) (hd1 : NatIs w (.slice e1 l1 p1) d1) (hn2 : NatIs w (.slice a2 k2 c2) n2) (hd2 : NatIs w (.slice e2 l2 p2) d2)
    (bn1 : n1 < 10000000000000) (bd1 : d1 < 10000000000000) (bn2 : n2 < 10000000000000) (bd2 : d2 < 10000000000000) (hc : (s1 == s2) = false) (hpq : n2 * d1 ≤ n1 * d2) :
    Calls Try.prog 138 #[.agg #[.bool s1, .slice a1 k1 c1, .slice e1 l1 p1], .agg #[.bool s2, .slice a2 k2 c2, .slice e2 l2 p2]] w (RetF (fpS s1 s2 (n1 * d2) (n2 * d1)) (fpN s1 s2 (n1 * d2) (n2 * d1)) (d1 * d2) w) := by
  have HN1 := Lib.hid hn1; have HN2 := Lib.hid hn2; have HD1 := Lib.hid hd1; have HD2 := Lib.hid hd2
  have L1 := Lib.hid (dig_len6 (n := n1) (by omega)); have L2 := Lib.hid (dig_len6 (n := n2) (by omega)); have L3 := Lib.hid (dig_len6 (n := d1) (by omega)); have L4 := Lib.hid (dig_len6 (n := d2) (by omega))
  have bnn' : n1 * d2 ≤ 10000000000000 * 10000000000000 := Nat.mul_le_mul (Nat.le_of_lt bn1) (Nat.le_of_lt bd2)
  have bmm' : n2 * d1 ≤ 10000000000000 * 10000000000000 := Nat.mul_le_mul (Nat.le_of_lt bn2) (Nat.le_of_lt bd1)
  have bnn : n1 * d2 < 1000000000000000000000000000 := by omega
  have bmm : n2 * d1 < 1000000000000000000000000000 := by omega
  have bdd : d1 * d2 < 1000000000000000000000000000 := Nat.lt_of_le_of_lt (Nat.mul_le_mul (Nat.le_of_lt bd1) (Nat.le_of_lt bd2)) (by omega)
  have L5 := Lib.hid (dig_len6 bnn); have L6 := Lib.hid (dig_len6 bmm)
  clear hn1 hn2 hd1 hd2
  have hcc : s1 ≠ s2 := by simpa using hc
  rw [show fpS s1 s2 (n1 * d2) (n2 * d1) = s1 by rw [fpS, if_neg hcc, if_pos hpq], show fpN s1 s2 (n1 * d2) (n2 * d1) = n1 * d2 - n2 * d1 by rw [fpN, if_neg hcc, if_pos hpq]]
  clear hcc
  have hord : 0 ≤ ordI (n1 * d2) (n2 * d1) := by rw [ordI, if_neg (by omega)]; split <;> omega
  have bval : (n1 * d2 - n2 * d1) < 1000000000000000000000000000 := by omega
  go_enter Try.func138, Try.ntmps138
  go_wp2
  obtain ⟨W, hW⟩ : ∃ W, W = ((w.alloc (.cells #[.bool s1, .slice a1 k1 c1, .slice e1 l1 p1] 172)).alloc (.cells #[.bool s2, .slice a2 k2 c2, .slice e2 l2 p2] 172)).alloc (.cells #[.bool false, .slice none 0 0, .slice none 0 0] 172) := ⟨_, rfl⟩
  have K : Box33 W w.heap.size (w.heap.size + 1) (.bool s1) (.slice a1 k1 c1) (.slice e1 l1 p1) (.bool s2) (.slice a2 k2 c2) (.slice e2 l2 p2) := by
    subst hW; exact ⟨Box3.of (by repeat (first | exact heap_last _ _ | (refine heap_at _ _ _ ?_; (simp; done)) | (refine heap_old _ _ _ _ (by simp; try omega) ?_))), Box3.of (by repeat (first | exact heap_last _ _ | (refine heap_at _ _ _ ?_; (simp; done)) | (refine heap_old _ _ _ _ (by simp; try omega) ?_)))⟩
  have K3 : Box3 W (w.heap.size + 1 + 1) (.bool false) (.slice none 0 0) (.slice none 0 0) := by subst hW; exact Box3.of (by repeat (first | exact heap_last _ _ | (refine heap_at _ _ _ ?_; (simp; done)) | (refine heap_old _ _ _ _ (by simp; try omega) ?_)))
  have g0 : Gr w W := by subst hW; exact (by repeat (first | exact Gr.refl _ | assumption | refine Gr.alloc ?_ _ | refine Gr.drew ?_ | refine Gr.drewN ?_ _ | (refine Gr.put ?_ ?_ _; first | exact Nat.le_refl _ | (simp; done) | omega) | (apply Gr.after; assumption)))
  have hsz : w.heap.size + 3 = W.heap.size := by subst hW; simp
  rw [← hW]
  clear hW
  go_region_held3 (fun w' => Box33 w' w.heap.size (w.heap.size + 1) (.bool s1) (.slice a1 k1 c1) (.slice e1 l1 p1) (.bool s2) (.slice a2 k2 c2) (.slice e2 l2 p2)) (first | (refine Box33.mono K ?_; (repeat (first | exact Gr.refl _ | assumption | refine Gr.alloc ?_ _ | refine Gr.drew ?_ | refine Gr.drewN ?_ _ | (refine Gr.put ?_ ?_ _; first | exact Nat.le_refl _ | (simp; done) | omega) | (apply Gr.after; assumption))); done) | (exact ⟨((K1c.other (by omega)).other (by omega)).other (by omega), ((K2c.other (by omega)).other (by omega)).other (by omega)⟩)) (first
    | (go_at_call 152; (with_reducible refine (times_any n1 d2 (.slice a1 k1 c1) (.slice e2 l2 p2) _ (by exact HN1.out.mono (by repeat (first | exact Gr.refl _ | assumption | refine Gr.alloc ?_ _ | refine Gr.drew ?_ | refine Gr.drewN ?_ _ | (refine Gr.put ?_ ?_ _; first | exact Nat.le_refl _ | (simp; done) | omega) | (apply Gr.after; assumption)))) (by exact HD2.out.mono (by repeat (first | exact Gr.refl _ | assumption | refine Gr.alloc ?_ _ | refine Gr.drew ?_ | refine Gr.drewN ?_ _ | (refine Gr.put ?_ ?_ _; first | exact Nat.le_refl _ | (simp; done) | omega) | (apply Gr.after; assumption)))) L1.out L4.out).mono ?_); rintro e wz ⟨va, rfl, ha, fa, hbz⟩; obtain ⟨aa, ka, ca, rfl, hka, -⟩ := ha.shape bnn; have HA := Lib.hid ha; have FA := Lib.hid (Fresh.le (C := W.heap.size) fa (Gr.size (by repeat (first | exact Gr.refl _ | assumption | refine Gr.alloc ?_ _ | refine Gr.drew ?_ | refine Gr.drewN ?_ _ | (refine Gr.put ?_ ?_ _; first | exact Nat.le_refl _ | (simp; done) | omega) | (apply Gr.after; assumption))))); clear ha fa; (try replace HB := Lib.hid (NatIs.mono (w' := wz) HB.out (by repeat (first | exact Gr.refl _ | assumption | refine Gr.alloc ?_ _ | refine Gr.drew ?_ | refine Gr.drewN ?_ _ | (refine Gr.put ?_ ?_ _; first | exact Nat.le_refl _ | (simp; done) | omega) | (apply Gr.after; assumption))))); have gz : Gr W wz := (by repeat (first | exact Gr.refl _ | assumption | refine Gr.alloc ?_ _ | refine Gr.drew ?_ | refine Gr.drewN ?_ _ | (refine Gr.put ?_ ?_ _; first | exact Nat.le_refl _ | (simp; done) | omega) | (apply Gr.after; assumption))))
    | (go_at_call 152; (with_reducible refine (times_any n2 d1 (.slice a2 k2 c2) (.slice e1 l1 p1) _ (by exact HN2.out.mono (by repeat (first | exact Gr.refl _ | assumption | refine Gr.alloc ?_ _ | refine Gr.drew ?_ | refine Gr.drewN ?_ _ | (refine Gr.put ?_ ?_ _; first | exact Nat.le_refl _ | (simp; done) | omega) | (apply Gr.after; assumption)))) (by exact HD1.out.mono (by repeat (first | exact Gr.refl _ | assumption | refine Gr.alloc ?_ _ | refine Gr.drew ?_ | refine Gr.drewN ?_ _ | (refine Gr.put ?_ ?_ _; first | exact Nat.le_refl _ | (simp; done) | omega) | (apply Gr.after; assumption)))) L2.out L3.out).mono ?_); rintro e wz ⟨vb, rfl, hb, fb, hbz⟩; obtain ⟨ab, kb, cb, rfl, hkb, -⟩ := hb.shape bmm; have HB := Lib.hid hb; have FB := Lib.hid (Fresh.le (C := W.heap.size) fb (Gr.size (by repeat (first | exact Gr.refl _ | assumption | refine Gr.alloc ?_ _ | refine Gr.drew ?_ | refine Gr.drewN ?_ _ | (refine Gr.put ?_ ?_ _; first | exact Nat.le_refl _ | (simp; done) | omega) | (apply Gr.after; assumption))))); clear hb fb; (try replace HA := Lib.hid (NatIs.mono (w' := wz) HA.out (by repeat (first | exact Gr.refl _ | assumption | refine Gr.alloc ?_ _ | refine Gr.drew ?_ | refine Gr.drewN ?_ _ | (refine Gr.put ?_ ?_ _; first | exact Nat.le_refl _ | (simp; done) | omega) | (apply Gr.after; assumption))))); have gz : Gr W wz := (by repeat (first | exact Gr.refl _ | assumption | refine Gr.alloc ?_ _ | refine Gr.drew ?_ | refine Gr.drewN ?_ _ | (refine Gr.put ?_ ?_ _; first | exact Nat.le_refl _ | (simp; done) | omega) | (apply Gr.after; assumption)))))
  all_goals
    rename_i hh
    have K1 := hh.1; have K2 := hh.2
    clear hh K hbz
    replace K3 := K3.mono gz
    go_wp2_with (first
      | (go_at_call 152; (with_reducible refine (times_any d1 d2 (.slice e1 l1 p1) (.slice e2 l2 p2) _ (by exact HD1.out.mono (g0.trans gz)) (by exact HD2.out.mono (g0.trans gz)) L3.out L4.out).mono ?_); rintro e wy ⟨vd, rfl, hd, fd, hby⟩; obtain ⟨ad, kd, cd, rfl, hkd, -⟩ := hd.shape bdd; have HD := Lib.hid hd; have FD := Lib.hid (Fresh.le (C := W.heap.size) fd gz.size); clear hd fd; replace HA := Lib.hid (NatIs.mono HA.out hby); replace HB := Lib.hid (NatIs.mono HB.out hby); have gy : Gr W wy := gz.trans hby; replace K1 := K1.mono hby; replace K2 := K2.mono hby; replace K3 := K3.mono hby)
      | (go_at_call 155; (with_reducible refine (order_any (n1 * d2) (n2 * d1) _ _ _ HA.out HB.out).mono ?_); rintro e wo ⟨rfl, q, rfl⟩))
    have gq : Gr wy (wy.drewN q) := (Gr.refl _).drewN _
    replace K1 := K1.mono gq; replace K2 := K2.mono gq; replace K3 := K3.mono gq; replace HA := Lib.hid (NatIs.mono HA.out gq); replace HB := Lib.hid (NatIs.mono HB.out gq); replace HD := Lib.hid (NatIs.mono HD.out gq); replace gy := gy.trans gq
    generalize wy.drewN q = wy at *
    clear gz hby gq
    go_region_held3 (fun w' => Box3 w' w.heap.size (.bool s1) (.slice a1 k1 c1) (.slice e1 l1 p1)) (first | (refine Box3.mono K1 ?_; (repeat (first | exact Gr.refl _ | assumption | refine Gr.alloc ?_ _ | refine Gr.drew ?_ | refine Gr.drewN ?_ _ | (refine Gr.put ?_ ?_ _; first | exact Nat.le_refl _ | (simp; done) | omega) | (apply Gr.after; assumption))); done) | (exact ((Kc.other (by omega)).other (by omega)).other (by omega))) (first
      | (go_at_call 156; (with_reducible refine (minus_any (n1 * d2) (n2 * d1) (.slice aa ka ca) (.slice ab kb cb) _ (by exact HA.out.mono (by repeat (first | exact Gr.refl _ | assumption | refine Gr.alloc ?_ _ | refine Gr.drew ?_ | refine Gr.drewN ?_ _ | (refine Gr.put ?_ ?_ _; first | exact Nat.le_refl _ | (simp; done) | omega) | (apply Gr.after; assumption)))) (by exact HB.out.mono (by repeat (first | exact Gr.refl _ | assumption | refine Gr.alloc ?_ _ | refine Gr.drew ?_ | refine Gr.drewN ?_ _ | (refine Gr.put ?_ ?_ _; first | exact Nat.le_refl _ | (simp; done) | omega) | (apply Gr.after; assumption)))) L5.out hpq).mono ?_); rintro e wp ⟨vp, rfl, hvp, fp, hbp⟩; obtain ⟨ap, kp, cp, rfl, hkp, -⟩ := hvp.shape bval; have HP := Lib.hid hvp; have FP := Lib.hid (Fresh.le (C := W.heap.size) fp (Gr.size (by repeat (first | exact Gr.refl _ | assumption | refine Gr.alloc ?_ _ | refine Gr.drew ?_ | refine Gr.drewN ?_ _ | (refine Gr.put ?_ ?_ _; first | exact Nat.le_refl _ | (simp; done) | omega) | (apply Gr.after; assumption))))); clear hvp fp)
      | (go_at_call 154; (with_reducible refine (reduced_any _ _ _ _ _ _ _ _ (by omega) (by omega)).mono ?_); rintro e wc ⟨rfl, hbc⟩; have gWc : Gr wy wc := (by repeat (first | exact Gr.refl _ | assumption | refine Gr.alloc ?_ _ | refine Gr.drew ?_ | refine Gr.drewN ?_ _ | (refine Gr.put ?_ ?_ _; first | exact Nat.le_refl _ | (simp; done) | omega) | (apply Gr.after; assumption))); have K3c := K3.mono gWc; have Kc := K1.mono gWc))
    all_goals
      have HP' : NatIs wc (.slice ap kp cp) (n1 * d2 - n2 * d1) := by clear gWc; exact HP.out.mono (by repeat (first | exact Gr.refl _ | assumption | refine Gr.alloc ?_ _ | refine Gr.drew ?_ | refine Gr.drewN ?_ _ | (refine Gr.put ?_ ?_ _; first | exact Nat.le_refl _ | (simp; done) | omega) | (apply Gr.after; assumption)))
      have HD' : NatIs wc (.slice ad kd cd) (d1 * d2) := HD.out.mono gWc
      have gwc : Gr w wc := (g0.trans gy).trans gWc
      go_wp2
      have K' : Box3 (((wc.setCell ⟨w.heap.size + 1 + 1, 0, none⟩ (.bool s1)).setCell ⟨w.heap.size + 1 + 1, 1, none⟩ (.slice ap kp cp)).setCell ⟨w.heap.size + 1 + 1, 2, none⟩ (.slice ad kd cd)) (w.heap.size + 1 + 1) (.bool s1) (.slice ap kp cp) (.slice ad kd cd) := K3c.st0.st1.st2
      refine bodyPost_ret (v := .agg #[.bool s1, .slice ap kp cp, .slice ad kd cd]) (by simp [results, Try.results138, go_sem, K']) rfl ?_
      exact ⟨_, _, rfl, ((HP'.off FP.out (by omega)).off FP.out (by omega)).off FP.out (by omega), ((HD'.off FD.out (by omega)).off FD.out (by omega)).off FD.out (by omega), FP.out.le (by omega), FD.out.le (by omega), ((gwc.put (by omega) _).put (by omega) _).put (by omega) _⟩
set_option maxHeartbeats 4000000 in
theorem fplus_lt (s1 s2 : Bool) (n1 d1 n2 d2 : Nat) (a1 : Option Addr) (k1 c1 : Nat) (e1 : Option Addr) (l1 p1 : Nat) (a2 : Option Addr) (k2 c2 : Nat) (e2 : Option Addr) (l2 p2 : Nat) (w : World)
    (hn1 : NatIs w (.slice a1 k1 c1) n1) (hd1 : NatIs w (.slice e1 l1 p1) d1) (hn2 : NatIs w (.slice a2 k2 c2) n2) (hd2 : NatIs w (.slice e2 l2 p2) d2)
    (bn1 : n1 < 10000000000000) (bd1 : d1 < 10000000000000) (bn2 : n2 < 10000000000000) (bd2 : d2 < 10000000000000) (hc : (s1 == s2) = false) (hpq : n1 * d2 < n2 * d1) :
    Calls Try.prog 138 #[.agg #[.bool s1, .slice a1 k1 c1, .slice e1 l1 p1], .agg #[.bool s2, .slice a2 k2 c2, .slice e2 l2 p2]] w (RetF (fpS s1 s2 (n1 * d2) (n2 * d1)) (fpN s1 s2 (n1 * d2) (n2 * d1)) (d1 * d2) w) := by
  have HN1 := Lib.hid hn1; have HN2 := Lib.hid hn2; have HD1 := Lib.hid hd1; have HD2 := Lib.hid hd2
  have L1 := Lib.hid (dig_len6 (n := n1) (by omega)); have L2 := Lib.hid (dig_len6 (n := n2) (by omega)); have L3 := Lib.hid (dig_len6 (n := d1) (by omega)); have L4 := Lib.hid (dig_len6 (n := d2) (by omega))
  have bnn' : n1 * d2 ≤ 10000000000000 * 10000000000000 := Nat.mul_le_mul (Nat.le_of_lt bn1) (Nat.le_of_lt bd2)
  have bmm' : n2 * d1 ≤ 10000000000000 * 10000000000000 := Nat.mul_le_mul (Nat.le_of_lt bn2) (Nat.le_of_lt bd1)
  have bnn : n1 * d2 < 1000000000000000000000000000 := by omega
  have bmm : n2 * d1 < 1000000000000000000000000000 := by omega
  have bdd : d1 * d2 < 1000000000000000000000000000 := Nat.lt_of_le_of_lt (Nat.mul_le_mul (Nat.le_of_lt bd1) (Nat.le_of_lt bd2)) (by omega)
  have L5 := Lib.hid (dig_len6 bnn); have L6 := Lib.hid (dig_len6 bmm)
  clear hn1 hn2 hd1 hd2
  have hcc : s1 ≠ s2 := by simpa using hc
  rw [show fpS s1 s2 (n1 * d2) (n2 * d1) = s2 by rw [fpS, if_neg hcc, if_neg (by omega)], show fpN s1 s2 (n1 * d2) (n2 * d1) = n2 * d1 - n1 * d2 by rw [fpN, if_neg hcc, if_neg (by omega)]]
  clear hcc
  have hord : decide (0 ≤ ordI (n1 * d2) (n2 * d1)) = false := by rw [ordI, if_pos hpq]; rfl
  have bval : (n2 * d1 - n1 * d2) < 1000000000000000000000000000 := by omega
  go_enter Try.func138, Try.ntmps138
  go_wp2
  obtain ⟨W, hW⟩ : ∃ W, W = ((w.alloc (.cells #[.bool s1, .slice a1 k1 c1, .slice e1 l1 p1] 172)).alloc (.cells #[.bool s2, .slice a2 k2 c2, .slice e2 l2 p2] 172)).alloc (.cells #[.bool false, .slice none 0 0, .slice none 0 0] 172) := ⟨_, rfl⟩
  have K : Box33 W w.heap.size (w.heap.size + 1) (.bool s1) (.slice a1 k1 c1) (.slice e1 l1 p1) (.bool s2) (.slice a2 k2 c2) (.slice e2 l2 p2) := by
    subst hW; exact ⟨Box3.of (by repeat (first | exact heap_last _ _ | (refine heap_at _ _ _ ?_; (simp; done)) | (refine heap_old _ _ _ _ (by simp; try omega) ?_))), Box3.of (by repeat (first | exact heap_last _ _ | (refine heap_at _ _ _ ?_; (simp; done)) | (refine heap_old _ _ _ _ (by simp; try omega) ?_)))⟩
  have K3 : Box3 W (w.heap.size + 1 + 1) (.bool false) (.slice none 0 0) (.slice none 0 0) := by subst hW; exact Box3.of (by repeat (first | exact heap_last _ _ | (refine heap_at _ _ _ ?_; (simp; done)) | (refine heap_old _ _ _ _ (by simp; try omega) ?_)))
  have g0 : Gr w W := by subst hW; exact (by repeat (first | exact Gr.refl _ | assumption | refine Gr.alloc ?_ _ | refine Gr.drew ?_ | refine Gr.drewN ?_ _ | (refine Gr.put ?_ ?_ _; first | exact Nat.le_refl _ | (simp; done) | omega) | (apply Gr.after; assumption)))
  have hsz : w.heap.size + 3 = W.heap.size := by subst hW; simp
  rw [← hW]
  clear hW
  go_region_held3 (fun w' => Box33 w' w.heap.size (w.heap.size + 1) (.bool s1) (.slice a1 k1 c1) (.slice e1 l1 p1) (.bool s2) (.slice a2 k2 c2) (.slice e2 l2 p2)) (first | (refine Box33.mono K ?_; (repeat (first | exact Gr.refl _ | assumption | refine Gr.alloc ?_ _ | refine Gr.drew ?_ | refine Gr.drewN ?_ _ | (refine Gr.put ?_ ?_ _; first | exact Nat.le_refl _ | (simp; done) | omega) | (apply Gr.after; assumption))); done) | (exact ⟨((K1c.other (by omega)).other (by omega)).other (by omega), ((K2c.other (by omega)).other (by omega)).other (by omega)⟩)) (first
    | (go_at_call 152; (with_reducible refine (times_any n1 d2 (.slice a1 k1 c1) (.slice e2 l2 p2) _ (by exact HN1.out.mono (by repeat (first | exact Gr.refl _ | assumption | refine Gr.alloc ?_ _ | refine Gr.drew ?_ | refine Gr.drewN ?_ _ | (refine Gr.put ?_ ?_ _; first | exact Nat.le_refl _ | (simp; done) | omega) | (apply Gr.after; assumption)))) (by exact HD2.out.mono (by repeat (first | exact Gr.refl _ | assumption | refine Gr.alloc ?_ _ | refine Gr.drew ?_ | refine Gr.drewN ?_ _ | (refine Gr.put ?_ ?_ _; first | exact Nat.le_refl _ | (simp; done) | omega) | (apply Gr.after; assumption)))) L1.out L4.out).mono ?_); rintro e wz ⟨va, rfl, ha, fa, hbz⟩; obtain ⟨aa, ka, ca, rfl, hka, -⟩ := ha.shape bnn; have HA := Lib.hid ha; have FA := Lib.hid (Fresh.le (C := W.heap.size) fa (Gr.size (by repeat (first | exact Gr.refl _ | assumption | refine Gr.alloc ?_ _ | refine Gr.drew ?_ | refine Gr.drewN ?_ _ | (refine Gr.put ?_ ?_ _; first | exact Nat.le_refl _ | (simp; done) | omega) | (apply Gr.after; assumption))))); clear ha fa; (try replace HB := Lib.hid (NatIs.mono (w' := wz) HB.out (by repeat (first | exact Gr.refl _ | assumption | refine Gr.alloc ?_ _ | refine Gr.drew ?_ | refine Gr.drewN ?_ _ | (refine Gr.put ?_ ?_ _; first | exact Nat.le_refl _ | (simp; done) | omega) | (apply Gr.after; assumption))))); have gz : Gr W wz := (by repeat (first | exact Gr.refl _ | assumption | refine Gr.alloc ?_ _ | refine Gr.drew ?_ | refine Gr.drewN ?_ _ | (refine Gr.put ?_ ?_ _; first | exact Nat.le_refl _ | (simp; done) | omega) | (apply Gr.after; assumption))))
    | (go_at_call 152; (with_reducible refine (times_any n2 d1 (.slice a2 k2 c2) (.slice e1 l1 p1) _ (by exact HN2.out.mono (by repeat (first | exact Gr.refl _ | assumption | refine Gr.alloc ?_ _ | refine Gr.drew ?_ | refine Gr.drewN ?_ _ | (refine Gr.put ?_ ?_ _; first | exact Nat.le_refl _ | (simp; done) | omega) | (apply Gr.after; assumption)))) (by exact HD1.out.mono (by repeat (first | exact Gr.refl _ | assumption | refine Gr.alloc ?_ _ | refine Gr.drew ?_ | refine Gr.drewN ?_ _ | (refine Gr.put ?_ ?_ _; first | exact Nat.le_refl _ | (simp; done) | omega) | (apply Gr.after; assumption)))) L2.out L3.out).mono ?_); rintro e wz ⟨vb, rfl, hb, fb, hbz⟩; obtain ⟨ab, kb, cb, rfl, hkb, -⟩ := hb.shape bmm; have HB := Lib.hid hb; have FB := Lib.hid (Fresh.le (C := W.heap.size) fb (Gr.size (by repeat (first | exact Gr.refl _ | assumption | refine Gr.alloc ?_ _ | refine Gr.drew ?_ | refine Gr.drewN ?_ _ | (refine Gr.put ?_ ?_ _; first | exact Nat.le_refl _ | (simp; done) | omega) | (apply Gr.after; assumption))))); clear hb fb; (try replace HA := Lib.hid (NatIs.mono (w' := wz) HA.out (by repeat (first | exact Gr.refl _ | assumption | refine Gr.alloc ?_ _ | refine Gr.drew ?_ | refine Gr.drewN ?_ _ | (refine Gr.put ?_ ?_ _; first | exact Nat.le_refl _ | (simp; done) | omega) | (apply Gr.after; assumption))))); have gz : Gr W wz := (by repeat (first | exact Gr.refl _ | assumption | refine Gr.alloc ?_ _ | refine Gr.drew ?_ | refine Gr.drewN ?_ _ | (refine Gr.put ?_ ?_ _; first | exact Nat.le_refl _ | (simp; done) | omega) | (apply Gr.after; assumption)))))
  all_goals
    rename_i hh
    have K1 := hh.1; have K2 := hh.2
    clear hh K hbz
    replace K3 := K3.mono gz
    go_wp2_with (first
      | (go_at_call 152; (with_reducible refine (times_any d1 d2 (.slice e1 l1 p1) (.slice e2 l2 p2) _ (by exact HD1.out.mono (g0.trans gz)) (by exact HD2.out.mono (g0.trans gz)) L3.out L4.out).mono ?_); rintro e wy ⟨vd, rfl, hd, fd, hby⟩; obtain ⟨ad, kd, cd, rfl, hkd, -⟩ := hd.shape bdd; have HD := Lib.hid hd; have FD := Lib.hid (Fresh.le (C := W.heap.size) fd gz.size); clear hd fd; replace HA := Lib.hid (NatIs.mono HA.out hby); replace HB := Lib.hid (NatIs.mono HB.out hby); have gy : Gr W wy := gz.trans hby; replace K1 := K1.mono hby; replace K2 := K2.mono hby; replace K3 := K3.mono hby)
      | (go_at_call 155; (with_reducible refine (order_any (n1 * d2) (n2 * d1) _ _ _ HA.out HB.out).mono ?_); rintro e wo ⟨rfl, q, rfl⟩))
    have gq : Gr wy (wy.drewN q) := (Gr.refl _).drewN _
    replace K1 := K1.mono gq; replace K2 := K2.mono gq; replace K3 := K3.mono gq; replace HA := Lib.hid (NatIs.mono HA.out gq); replace HB := Lib.hid (NatIs.mono HB.out gq); replace HD := Lib.hid (NatIs.mono HD.out gq); replace gy := gy.trans gq
    generalize wy.drewN q = wy at *
    clear gz hby gq
    go_region_held3 (fun w' => Box3 w' (w.heap.size + 1) (.bool s2) (.slice a2 k2 c2) (.slice e2 l2 p2)) (first | (refine Box3.mono K2 ?_; (repeat (first | exact Gr.refl _ | assumption | refine Gr.alloc ?_ _ | refine Gr.drew ?_ | refine Gr.drewN ?_ _ | (refine Gr.put ?_ ?_ _; first | exact Nat.le_refl _ | (simp; done) | omega) | (apply Gr.after; assumption))); done) | (exact ((Kc.other (by omega)).other (by omega)).other (by omega))) (first
      | (go_at_call 156; (with_reducible refine (minus_any (n2 * d1) (n1 * d2) (.slice ab kb cb) (.slice aa ka ca) _ (by exact HB.out.mono (by repeat (first | exact Gr.refl _ | assumption | refine Gr.alloc ?_ _ | refine Gr.drew ?_ | refine Gr.drewN ?_ _ | (refine Gr.put ?_ ?_ _; first | exact Nat.le_refl _ | (simp; done) | omega) | (apply Gr.after; assumption)))) (by exact HA.out.mono (by repeat (first | exact Gr.refl _ | assumption | refine Gr.alloc ?_ _ | refine Gr.drew ?_ | refine Gr.drewN ?_ _ | (refine Gr.put ?_ ?_ _; first | exact Nat.le_refl _ | (simp; done) | omega) | (apply Gr.after; assumption)))) L6.out (Nat.le_of_lt hpq)).mono ?_); rintro e wp ⟨vp, rfl, hvp, fp, hbp⟩; obtain ⟨ap, kp, cp, rfl, hkp, -⟩ := hvp.shape bval; have HP := Lib.hid hvp; have FP := Lib.hid (Fresh.le (C := W.heap.size) fp (Gr.size (by repeat (first | exact Gr.refl _ | assumption | refine Gr.alloc ?_ _ | refine Gr.drew ?_ | refine Gr.drewN ?_ _ | (refine Gr.put ?_ ?_ _; first | exact Nat.le_refl _ | (simp; done) | omega) | (apply Gr.after; assumption))))); clear hvp fp)
      | (go_at_call 154; (with_reducible refine (reduced_any _ _ _ _ _ _ _ _ (by omega) (by omega)).mono ?_); rintro e wc ⟨rfl, hbc⟩; have gWc : Gr wy wc := (by repeat (first | exact Gr.refl _ | assumption | refine Gr.alloc ?_ _ | refine Gr.drew ?_ | refine Gr.drewN ?_ _ | (refine Gr.put ?_ ?_ _; first | exact Nat.le_refl _ | (simp; done) | omega) | (apply Gr.after; assumption))); have K3c := K3.mono gWc; have Kc := K2.mono gWc))
    all_goals
      have HP' : NatIs wc (.slice ap kp cp) (n2 * d1 - n1 * d2) := by clear gWc; exact HP.out.mono (by repeat (first | exact Gr.refl _ | assumption | refine Gr.alloc ?_ _ | refine Gr.drew ?_ | refine Gr.drewN ?_ _ | (refine Gr.put ?_ ?_ _; first | exact Nat.le_refl _ | (simp; done) | omega) | (apply Gr.after; assumption)))
      have HD' : NatIs wc (.slice ad kd cd) (d1 * d2) := HD.out.mono gWc
      have gwc : Gr w wc := (g0.trans gy).trans gWc
      go_wp2
      have K' : Box3 (((wc.setCell ⟨w.heap.size + 1 + 1, 0, none⟩ (.bool s2)).setCell ⟨w.heap.size + 1 + 1, 1, none⟩ (.slice ap kp cp)).setCell ⟨w.heap.size + 1 + 1, 2, none⟩ (.slice ad kd cd)) (w.heap.size + 1 + 1) (.bool s2) (.slice ap kp cp) (.slice ad kd cd) := K3c.st0.st1.st2
      refine bodyPost_ret (v := .agg #[.bool s2, .slice ap kp cp, .slice ad kd cd]) (by simp [results, Try.results138, go_sem, K']) rfl ?_
      exact ⟨_, _, rfl, ((HP'.off FP.out (by omega)).off FP.out (by omega)).off FP.out (by omega), ((HD'.off FD.out (by omega)).off FD.out (by omega)).off FD.out (by omega), FP.out.le (by omega), FD.out.le (by omega), ((gwc.put (by omega) _).put (by omega) _).put (by omega) _⟩
theorem fplus_any (s1 s2 : Bool) (n1 d1 n2 d2 : Nat) (a1 : Option Addr) (k1 c1 : Nat) (e1 : Option Addr) (l1 p1 : Nat) (a2 : Option Addr) (k2 c2 : Nat) (e2 : Option Addr) (l2 p2 : Nat) (w : World)
    (hn1 : NatIs w (.slice a1 k1 c1) n1) (hd1 : NatIs w (.slice e1 l1 p1) d1) (hn2 : NatIs w (.slice a2 k2 c2) n2) (hd2 : NatIs w (.slice e2 l2 p2) d2)
    (bn1 : n1 < 10000000000000) (bd1 : d1 < 10000000000000) (bn2 : n2 < 10000000000000) (bd2 : d2 < 10000000000000) :
    Calls Try.prog 138 #[.agg #[.bool s1, .slice a1 k1 c1, .slice e1 l1 p1], .agg #[.bool s2, .slice a2 k2 c2, .slice e2 l2 p2]] w (RetF (fpS s1 s2 (n1 * d2) (n2 * d1)) (fpN s1 s2 (n1 * d2) (n2 * d1)) (d1 * d2) w) := by
  by_cases hc : s1 = s2
  · exact fplus_eq s1 s2 n1 d1 n2 d2 a1 k1 c1 e1 l1 p1 a2 k2 c2 e2 l2 p2 w hn1 hd1 hn2 hd2 bn1 bd1 bn2 bd2 hc
  · rcases Nat.lt_or_ge (n1 * d2) (n2 * d1) with h | h
    · exact fplus_lt s1 s2 n1 d1 n2 d2 a1 k1 c1 e1 l1 p1 a2 k2 c2 e2 l2 p2 w hn1 hd1 hn2 hd2 bn1 bd1 bn2 bd2 (by simpa using hc) h
    · exact fplus_ge s1 s2 n1 d1 n2 d2 a1 k1 c1 e1 l1 p1 a2 k2 c2 e2 l2 p2 w hn1 hd1 hn2 hd2 bn1 bd1 bn2 bd2 (by simpa using hc) h
end Go.Proofs.Ytjhdogdaldlkhaa
