/- The reference's fractions: Times, Plus, Floor, Round. -/
import Derived.Test.YtjhdogdaldlkhaaFrA
namespace Go.Proofs.Ytjhdogdaldlkhaa
open Go.RowKit
set_option linter.unusedVariables false
set_option linter.unusedSimpArgs false

abbrev Box333 (w : World) (b c d : Nat) (v0 v1 v2 u0 u1 u2 x0 x1 x2 : Value) : Prop := Box3 w b v0 v1 v2 ∧ Box3 w c u0 u1 u2 ∧ Box3 w d x0 x1 x2
theorem Box333.mono {w w' : World} {b c d : Nat} {v0 v1 v2 u0 u1 u2 x0 x1 x2 : Value} (h : Box333 w b c d v0 v1 v2 u0 u1 u2 x0 x1 x2) (g : Gr w w') : Box333 w' b c d v0 v1 v2 u0 u1 u2 x0 x1 x2 := ⟨h.1.mono g, h.2.1.mono g, h.2.2.mono g⟩
abbrev Box33 (w : World) (b c : Nat) (v0 v1 v2 u0 u1 u2 : Value) : Prop := Box3 w b v0 v1 v2 ∧ Box3 w c u0 u1 u2
theorem Box33.mono {w w' : World} {b c : Nat} {v0 v1 v2 u0 u1 u2 : Value} (h : Box33 w b c v0 v1 v2 u0 u1 u2) (g : Gr w w') : Box33 w' b c v0 v1 v2 u0 u1 u2 := ⟨h.1.mono g, h.2.mono g⟩
set_option maxHeartbeats 4000000 in
theorem ftimes_any (s1 s2 : Bool) (n1 d1 n2 d2 : Nat) (a1 : Option Addr) (k1 c1 : Nat) (e1 : Option Addr) (l1 p1 : Nat) (a2 : Option Addr) (k2 c2 : Nat) (e2 : Option Addr) (l2 p2 : Nat) (w : World)
    (hn1 : NatIs w (.slice a1 k1 c1) n1) (hd1 : NatIs w (.slice e1 l1 p1) d1) (hn2 : NatIs w (.slice a2 k2 c2) n2) (hd2 : NatIs w (.slice e2 l2 p2) d2)
    (bn1 : n1 < 10000000000000) (bd1 : d1 < 10000000000000) (bn2 : n2 < 10000000000000) (bd2 : d2 < 10000000000000) :
    Calls Try.prog 139 #[.agg #[.bool s1, .slice a1 k1 c1, .slice e1 l1 p1], .agg #[.bool s2, .slice a2 k2 c2, .slice e2 l2 p2]] w (RetF (s1 != s2) (n1 * n2) (d1 * d2) w) := by
  have HN1 := Lib.hid hn1; have HN2 := Lib.hid hn2; have HD1 := Lib.hid hd1; have HD2 := Lib.hid hd2
  have L1 := Lib.hid (dig_len6 (n := n1) (by omega)); have L2 := Lib.hid (dig_len6 (n := n2) (by omega)); have L3 := Lib.hid (dig_len6 (n := d1) (by omega)); have L4 := Lib.hid (dig_len6 (n := d2) (by omega))
  have bnn : n1 * n2 < 1000000000000000000000000000 := Nat.lt_of_le_of_lt (Nat.mul_le_mul (Nat.le_of_lt bn1) (Nat.le_of_lt bn2)) (by omega)
  have bdd : d1 * d2 < 1000000000000000000000000000 := Nat.lt_of_le_of_lt (Nat.mul_le_mul (Nat.le_of_lt bd1) (Nat.le_of_lt bd2)) (by omega)
  clear hn1 hn2 hd1 hd2
  go_enter Try.func139, Try.ntmps139
  go_wp2
  obtain ⟨W, hW⟩ : ∃ W, W = ((w.alloc (.cells #[.bool s1, .slice a1 k1 c1, .slice e1 l1 p1] 172)).alloc (.cells #[.bool s2, .slice a2 k2 c2, .slice e2 l2 p2] 172)).alloc (.cells #[.bool false, .slice none 0 0, .slice none 0 0] 172) := ⟨_, rfl⟩
  have K : Box33 W w.heap.size (w.heap.size + 1) (.bool s1) (.slice a1 k1 c1) (.slice e1 l1 p1) (.bool s2) (.slice a2 k2 c2) (.slice e2 l2 p2) := by
    subst hW; exact ⟨Box3.of (by repeat (first | exact heap_last _ _ | (refine heap_at _ _ _ ?_; (simp; done)) | (refine heap_old _ _ _ _ (by simp; try omega) ?_))), Box3.of (by repeat (first | exact heap_last _ _ | (refine heap_at _ _ _ ?_; (simp; done)) | (refine heap_old _ _ _ _ (by simp; try omega) ?_)))⟩
  have K3 : Box3 W (w.heap.size + 1 + 1) (.bool false) (.slice none 0 0) (.slice none 0 0) := by subst hW; exact Box3.of (by repeat (first | exact heap_last _ _ | (refine heap_at _ _ _ ?_; (simp; done)) | (refine heap_old _ _ _ _ (by simp; try omega) ?_)))
  have g0 : Gr w W := by subst hW; exact (by repeat (first | exact Gr.refl _ | assumption | refine Gr.alloc ?_ _ | refine Gr.drew ?_ | refine Gr.drewN ?_ _ | (refine Gr.put ?_ ?_ _; first | exact Nat.le_refl _ | (simp; done) | omega) | (apply Gr.after; assumption)))
  have hsz : w.heap.size + 3 = W.heap.size := by subst hW; simp
  rw [← hW]
  clear hW
  go_region_held3 (fun w' => Box33 w' w.heap.size (w.heap.size + 1) (.bool s1) (.slice a1 k1 c1) (.slice e1 l1 p1) (.bool s2) (.slice a2 k2 c2) (.slice e2 l2 p2)) (first | (refine Box33.mono K ?_; (repeat (first | exact Gr.refl _ | assumption | refine Gr.alloc ?_ _ | refine Gr.drew ?_ | refine Gr.drewN ?_ _ | (refine Gr.put ?_ ?_ _; first | exact Nat.le_refl _ | (simp; done) | omega) | (apply Gr.after; assumption))); done) | (exact ⟨((K1c.other (by omega)).other (by omega)).other (by omega), ((K2c.other (by omega)).other (by omega)).other (by omega)⟩)) (first
    | (go_at_call 152; (with_reducible refine (times_any n1 n2 (.slice a1 k1 c1) (.slice a2 k2 c2) _ (by exact HN1.out.mono (by repeat (first | exact Gr.refl _ | assumption | refine Gr.alloc ?_ _ | refine Gr.drew ?_ | refine Gr.drewN ?_ _ | (refine Gr.put ?_ ?_ _; first | exact Nat.le_refl _ | (simp; done) | omega) | (apply Gr.after; assumption)))) (by exact HN2.out.mono (by repeat (first | exact Gr.refl _ | assumption | refine Gr.alloc ?_ _ | refine Gr.drew ?_ | refine Gr.drewN ?_ _ | (refine Gr.put ?_ ?_ _; first | exact Nat.le_refl _ | (simp; done) | omega) | (apply Gr.after; assumption)))) L1.out L2.out).mono ?_); rintro e wa ⟨va, rfl, ha, fa, hba⟩; obtain ⟨aa, ka, ca, rfl, hka, -⟩ := ha.shape bnn; have HA := Lib.hid ha; have FA := Lib.hid (Fresh.le (C := W.heap.size) fa (Gr.size (by repeat (first | exact Gr.refl _ | assumption | refine Gr.alloc ?_ _ | refine Gr.drew ?_ | refine Gr.drewN ?_ _ | (refine Gr.put ?_ ?_ _; first | exact Nat.le_refl _ | (simp; done) | omega) | (apply Gr.after; assumption))))); clear ha fa; have hsa := hba.size)
    | (go_at_call 152; (with_reducible refine (times_any d1 d2 (.slice e1 l1 p1) (.slice e2 l2 p2) _ (by exact HD1.out.mono (by repeat (first | exact Gr.refl _ | assumption | refine Gr.alloc ?_ _ | refine Gr.drew ?_ | refine Gr.drewN ?_ _ | (refine Gr.put ?_ ?_ _; first | exact Nat.le_refl _ | (simp; done) | omega) | (apply Gr.after; assumption)))) (by exact HD2.out.mono (by repeat (first | exact Gr.refl _ | assumption | refine Gr.alloc ?_ _ | refine Gr.drew ?_ | refine Gr.drewN ?_ _ | (refine Gr.put ?_ ?_ _; first | exact Nat.le_refl _ | (simp; done) | omega) | (apply Gr.after; assumption)))) L3.out L4.out).mono ?_); rintro e wb ⟨vb, rfl, hb, fb, hbb⟩; obtain ⟨ab, kb, cb, rfl, hkb, -⟩ := hb.shape bdd; have HB := Lib.hid hb; have FB := Lib.hid (Fresh.le (C := W.heap.size) fb (Gr.size (by repeat (first | exact Gr.refl _ | assumption | refine Gr.alloc ?_ _ | refine Gr.drew ?_ | refine Gr.drewN ?_ _ | (refine Gr.put ?_ ?_ _; first | exact Nat.le_refl _ | (simp; done) | omega) | (apply Gr.after; assumption))))); clear hb fb; have hsb := hbb.size)
    | (go_at_call 154; (with_reducible refine (reduced_any _ _ _ _ _ _ _ _ (by omega) (by omega)).mono ?_); rintro e wc ⟨rfl, hbc⟩; have hsc := hbc.size; have gWc : Gr W wc := (by repeat (first | exact Gr.refl _ | assumption | refine Gr.alloc ?_ _ | refine Gr.drew ?_ | refine Gr.drewN ?_ _ | (refine Gr.put ?_ ?_ _; first | exact Nat.le_refl _ | (simp; done) | omega) | (apply Gr.after; assumption))); have K3c := K3.mono gWc; have K1c := K.1.mono gWc; have K2c := K.2.mono gWc))
  all_goals
    have HA' : NatIs wc (.slice aa ka ca) (n1 * n2) := by clear gWc; exact HA.out.mono (by repeat (first | exact Gr.refl _ | assumption | refine Gr.alloc ?_ _ | refine Gr.drew ?_ | refine Gr.drewN ?_ _ | (refine Gr.put ?_ ?_ _; first | exact Nat.le_refl _ | (simp; done) | omega) | (apply Gr.after; assumption)))
    have HB' : NatIs wc (.slice ab kb cb) (d1 * d2) := by clear gWc; exact HB.out.mono (by repeat (first | exact Gr.refl _ | assumption | refine Gr.alloc ?_ _ | refine Gr.drew ?_ | refine Gr.drewN ?_ _ | (refine Gr.put ?_ ?_ _; first | exact Nat.le_refl _ | (simp; done) | omega) | (apply Gr.after; assumption)))
    have gwc : Gr w wc := g0.trans gWc
    go_wp2
    have K' : Box3 (((wc.setCell ⟨w.heap.size + 1 + 1, 0, none⟩ (.bool (!(s1 == s2)))).setCell ⟨w.heap.size + 1 + 1, 1, none⟩ (.slice aa ka ca)).setCell ⟨w.heap.size + 1 + 1, 2, none⟩ (.slice ab kb cb)) (w.heap.size + 1 + 1) (.bool (!(s1 == s2))) (.slice aa ka ca) (.slice ab kb cb) := K3c.st0.st1.st2
    refine bodyPost_ret (v := .agg #[.bool (!(s1 == s2)), .slice aa ka ca, .slice ab kb cb]) (by simp [results, Try.results139, go_sem, K']) rfl ?_
    exact ⟨_, _, rfl, ((HA'.off FA.out (by omega)).off FA.out (by omega)).off FA.out (by omega), ((HB'.off FB.out (by omega)).off FB.out (by omega)).off FB.out (by omega), FA.out.le (by omega), FB.out.le (by omega), ((gwc.put (by omega) _).put (by omega) _).put (by omega) _⟩
end Go.Proofs.Ytjhdogdaldlkhaa
