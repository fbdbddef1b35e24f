/- The reference's Read: the rounds. (gentx.py) -/
import Derived.Test.YtchbbdplopchlaaDoorTxF
import Derived.Test.YtchbbdplopchlaaDoorBs3
namespace Go.Proofs.YtchbbdplopchlaaDoor
open Go.RowKit Go.Sort
set_option linter.unusedVariables false
set_option linter.unusedSimpArgs false
theorem dv_eq (b : UInt8) : IntKind.i64.wrap ((b.toNat : Int) - 48) = dv b := by have := b.toNat_lt; exact wrap_in (by omega)
theorem b_eq (b : UInt8) : IntKind.i64.wrap (b.toNat : Int) = b.toNat := by have := b.toNat_lt; exact wrap_in (by omega)
theorem dv_bd (b : UInt8) : -48 ≤ dv b ∧ dv b ≤ 207 := by have := b.toNat_lt; unfold dv; omega
theorem bytes_ne {a b : ByteArray} (h : ¬ a = b) : (a.toList == b.toList) = false := by
  rw [beq_eq_false_iff_ne]
  intro e
  rw [ByteArray.toList_eq, ByteArray.toList_eq] at e
  cases a; cases b
  exact h (congrArg _ (Array.toList_inj.1 e))
theorem put4 {w : World} {b : Nat} {v0 v1 v2 v3 : Value} (K : Box4 w b v0 v1 v2 v3) (u0 u1 u2 u3 : Value) : (w.setCell ⟨b, 0, none⟩ u0).cell? ⟨b, 0, none⟩ = some u0 ∧ ((w.setCell ⟨b, 0, none⟩ u0).setCell ⟨b, 1, none⟩ u1).cell? ⟨b, 1, none⟩ = some u1 ∧ (((w.setCell ⟨b, 0, none⟩ u0).setCell ⟨b, 1, none⟩ u1).setCell ⟨b, 2, none⟩ u2).cell? ⟨b, 2, none⟩ = some u2 ∧ ((((w.setCell ⟨b, 0, none⟩ u0).setCell ⟨b, 1, none⟩ u1).setCell ⟨b, 2, none⟩ u2).setCell ⟨b, 3, none⟩ u3).cell? ⟨b, 3, none⟩ = some u3 :=
  ⟨(Box4.st0 K).1.1, (Box4.st1 (Box4.st0 K)).1.2.1, (Box4.st2 (Box4.st1 (Box4.st0 K))).1.2.2.1, (Box4.st3 (Box4.st2 (Box4.st1 (Box4.st0 K)))).1.2.2.2⟩
/-- What is read of text of eleven bytes. -/
def digB (b0 b1 b2 b3 b4 b5 b6 b7 b8 b9 b10 : UInt8) : Bool := isD b0 && isD b1 && isD b3 && isD b4 && isD b6 && isD b7 && isD b9 && isD b10
theorem digB_no {b0 b1 b2 b3 b4 b5 b6 b7 b8 b9 b10 : UInt8} {i : UInt8} (h : isD i = false) (hm : i ∈ [b0, b1, b3, b4, b6, b7, b9, b10]) : digB b0 b1 b2 b3 b4 b5 b6 b7 b8 b9 b10 = false := by
  unfold digB
  simp only [List.mem_cons, List.not_mem_nil, or_false] at hm
  rcases hm with rfl | rfl | rfl | rfl | rfl | rfl | rfl | rfl <;> simp [h]
def relR (w : World) (b0 b1 b2 b3 b4 b5 b6 b7 b8 b9 b10 : UInt8) (i : Value) (wr : World) : Prop := ((i = .int .i64 0 ∧ Hid (True) ∧ Box4 wr (w.heap.size + 1) (.int .i64 0) (.int .i64 0) (.int .i64 0) (.int .i64 0)) ∨ (i = .int .i64 1 ∧ Hid (isD b0 = true) ∧ Box4 wr (w.heap.size + 1) (.int .i64 (dv b0)) (.int .i64 0) (.int .i64 0) (.int .i64 0)) ∨ (i = .int .i64 2 ∧ Hid (isD b0 = true ∧ isD b1 = true) ∧ Box4 wr (w.heap.size + 1) (.int .i64 (10 * dv b0 + dv b1)) (.int .i64 0) (.int .i64 0) (.int .i64 0)) ∨ (i = .int .i64 3 ∧ Hid (isD b0 = true ∧ isD b1 = true) ∧ Box4 wr (w.heap.size + 1) (.int .i64 (10 * dv b0 + dv b1)) (.int .i64 0) (.int .i64 0) (.int .i64 0)) ∨ (i = .int .i64 4 ∧ Hid (isD b0 = true ∧ isD b1 = true ∧ isD b3 = true) ∧ Box4 wr (w.heap.size + 1) (.int .i64 (10 * dv b0 + dv b1)) (.int .i64 (dv b3)) (.int .i64 0) (.int .i64 0)) ∨ (i = .int .i64 5 ∧ Hid (isD b0 = true ∧ isD b1 = true ∧ isD b3 = true ∧ isD b4 = true) ∧ Box4 wr (w.heap.size + 1) (.int .i64 (10 * dv b0 + dv b1)) (.int .i64 (10 * dv b3 + dv b4)) (.int .i64 0) (.int .i64 0)) ∨ (i = .int .i64 6 ∧ Hid (isD b0 = true ∧ isD b1 = true ∧ isD b3 = true ∧ isD b4 = true) ∧ Box4 wr (w.heap.size + 1) (.int .i64 (10 * dv b0 + dv b1)) (.int .i64 (10 * dv b3 + dv b4)) (.int .i64 0) (.int .i64 0)) ∨ (i = .int .i64 7 ∧ Hid (isD b0 = true ∧ isD b1 = true ∧ isD b3 = true ∧ isD b4 = true ∧ isD b6 = true) ∧ Box4 wr (w.heap.size + 1) (.int .i64 (10 * dv b0 + dv b1)) (.int .i64 (10 * dv b3 + dv b4)) (.int .i64 (dv b6)) (.int .i64 0)) ∨ (i = .int .i64 8 ∧ Hid (isD b0 = true ∧ isD b1 = true ∧ isD b3 = true ∧ isD b4 = true ∧ isD b6 = true ∧ isD b7 = true) ∧ Box4 wr (w.heap.size + 1) (.int .i64 (10 * dv b0 + dv b1)) (.int .i64 (10 * dv b3 + dv b4)) (.int .i64 (10 * dv b6 + dv b7)) (.int .i64 0)) ∨ (i = .int .i64 9 ∧ Hid (isD b0 = true ∧ isD b1 = true ∧ isD b3 = true ∧ isD b4 = true ∧ isD b6 = true ∧ isD b7 = true) ∧ Box4 wr (w.heap.size + 1) (.int .i64 (10 * dv b0 + dv b1)) (.int .i64 (10 * dv b3 + dv b4)) (.int .i64 (10 * dv b6 + dv b7)) (.int .i64 0)) ∨ (i = .int .i64 10 ∧ Hid (isD b0 = true ∧ isD b1 = true ∧ isD b3 = true ∧ isD b4 = true ∧ isD b6 = true ∧ isD b7 = true ∧ isD b9 = true) ∧ Box4 wr (w.heap.size + 1) (.int .i64 (10 * dv b0 + dv b1)) (.int .i64 (10 * dv b3 + dv b4)) (.int .i64 (10 * dv b6 + dv b7)) (.int .i64 (dv b9))) ∨ (i = .int .i64 11 ∧ Hid (isD b0 = true ∧ isD b1 = true ∧ isD b3 = true ∧ isD b4 = true ∧ isD b6 = true ∧ isD b7 = true ∧ isD b9 = true ∧ isD b10 = true) ∧ Box4 wr (w.heap.size + 1) (.int .i64 (10 * dv b0 + dv b1)) (.int .i64 (10 * dv b3 + dv b4)) (.int .i64 (10 * dv b6 + dv b7)) (.int .i64 (10 * dv b9 + dv b10)))) ∧ Box4 wr w.heap.size (.int .i64 0) (.int .i64 0) (.int .i64 0) (.int .i64 0) ∧ Gr w wr
def numS (a b : UInt8) : Int := 10 * dv a + dv b
/-- The fault of a text of eleven bytes. -/
def rdE (r : Int) (b0 b1 b2 b3 b4 b5 b6 b7 b8 b9 b10 : UInt8) : Int := if digB b0 b1 b2 b3 b4 b5 b6 b7 b8 b9 b10 = false then 9 else if showS r (numS b0 b1) (numS b3 b4) (numS b6 b7) (numS b9 b10) = ⟨#[b0, b1, b2, b3, b4, b5, b6, b7, b8, b9, b10]⟩ then chkF r (numS b0 b1) (numS b3 b4) (numS b6 b7) (numS b9 b10) else 9
/-- What Read answers: the stamp, and the fault. -/
def outV (e h m s f : Int) : Value := .tuple #[.agg #[.int .i64 (if e = 0 then h else 0), .int .i64 (if e = 0 then m else 0), .int .i64 (if e = 0 then s else 0), .int .i64 (if e = 0 then f else 0)], .int .i64 e]
theorem outV_no {e h m s f : Int} (k : ¬ e = 0) : outV e h m s f = .tuple #[.agg #[.int .i64 0, .int .i64 0, .int .i64 0, .int .i64 0], .int .i64 e] := by unfold outV; simp only [if_neg k]
theorem outV_ok {h m s f : Int} : outV 0 h m s f = .tuple #[.agg #[.int .i64 h, .int .i64 m, .int .i64 s, .int .i64 f], .int .i64 0] := rfl
def rdV (r : Int) (b0 b1 b2 b3 b4 b5 b6 b7 b8 b9 b10 : UInt8) : Value := outV (rdE r b0 b1 b2 b3 b4 b5 b6 b7 b8 b9 b10) (numS b0 b1) (numS b3 b4) (numS b6 b7) (numS b9 b10)
theorem rdV_no {r : Int} {b0 b1 b2 b3 b4 b5 b6 b7 b8 b9 b10 : UInt8} (h : digB b0 b1 b2 b3 b4 b5 b6 b7 b8 b9 b10 = false) : rdV r b0 b1 b2 b3 b4 b5 b6 b7 b8 b9 b10 = .tuple #[.agg #[.int .i64 0, .int .i64 0, .int .i64 0, .int .i64 0], .int .i64 9] := by rw [rdV, rdE, if_pos h]; rfl
theorem num_in {a b : UInt8} (ha : isD a = true) (hb : isD b = true) : in99 (numS a b) := by have := isD_dv ha; have := isD_dv hb; unfold in99 numS; omega
set_option maxRecDepth 20000 in
set_option maxHeartbeats 8000000 in
theorem Read8_go (r : Int) (b0 b1 b2 b3 b4 b5 b6 b7 b8 b9 b10 : UInt8) (w : World) (h : rateB r = true) :
    Calls Tryd.prog 8 #[.int .i64 r, .string ⟨#[b0, b1, b2, b3, b4, b5, b6, b7, b8, b9, b10]⟩] w fun e w' => e = .returned (rdV r b0 b1 b2 b3 b4 b5 b6 b7 b8 b9 b10) ∧ Gr w w' := by
  have H0 := Lib.hid (cnt8_yes h)
  clear h
  have h1 : (cnt8 r == 0) = false := by have := H0.out; simp; omega
  generalize hc : cnt8 r = c at *
  have HC := Lib.hid hc; clear hc
  obtain ⟨t, HT⟩ : ∃ t, Hid (t = (⟨#[b0, b1, b2, b3, b4, b5, b6, b7, b8, b9, b10]⟩ : ByteArray)) := ⟨_, Lib.hid rfl⟩
  have hts : t.size = 11 := by rw [HT.out]; rfl
  have h2 : ((t.size : Int) != 11) = false := by rw [hts]; rfl
  have e0 : t[0]'(by omega) = b0 := by simp only [HT.out]; rfl
  have e1 : t[1]'(by omega) = b1 := by simp only [HT.out]; rfl
  have e2 : t[2]'(by omega) = b2 := by simp only [HT.out]; rfl
  have e3 : t[3]'(by omega) = b3 := by simp only [HT.out]; rfl
  have e4 : t[4]'(by omega) = b4 := by simp only [HT.out]; rfl
  have e5 : t[5]'(by omega) = b5 := by simp only [HT.out]; rfl
  have e6 : t[6]'(by omega) = b6 := by simp only [HT.out]; rfl
  have e7 : t[7]'(by omega) = b7 := by simp only [HT.out]; rfl
  have e8 : t[8]'(by omega) = b8 := by simp only [HT.out]; rfl
  have e9 : t[9]'(by omega) = b9 := by simp only [HT.out]; rfl
  have e10 : t[10]'(by omega) = b10 := by simp only [HT.out]; rfl
  have p0 := b_eq b0; have q0 : IntKind.i64.wrap (dv b0) = dv b0 := wrap_in (by have := dv_bd b0; omega); have n0 := dv_eq b0; have m0 := Lib.hid (dv_bd b0)
  have p1 := b_eq b1; have q1 : IntKind.i64.wrap (dv b1) = dv b1 := wrap_in (by have := dv_bd b1; omega); have n1 := dv_eq b1; have m1 := Lib.hid (dv_bd b1)
  have p3 := b_eq b3; have q3 : IntKind.i64.wrap (dv b3) = dv b3 := wrap_in (by have := dv_bd b3; omega); have n3 := dv_eq b3; have m3 := Lib.hid (dv_bd b3)
  have p4 := b_eq b4; have q4 : IntKind.i64.wrap (dv b4) = dv b4 := wrap_in (by have := dv_bd b4; omega); have n4 := dv_eq b4; have m4 := Lib.hid (dv_bd b4)
  have p6 := b_eq b6; have q6 : IntKind.i64.wrap (dv b6) = dv b6 := wrap_in (by have := dv_bd b6; omega); have n6 := dv_eq b6; have m6 := Lib.hid (dv_bd b6)
  have p7 := b_eq b7; have q7 : IntKind.i64.wrap (dv b7) = dv b7 := wrap_in (by have := dv_bd b7; omega); have n7 := dv_eq b7; have m7 := Lib.hid (dv_bd b7)
  have p9 := b_eq b9; have q9 : IntKind.i64.wrap (dv b9) = dv b9 := wrap_in (by have := dv_bd b9; omega); have n9 := dv_eq b9; have m9 := Lib.hid (dv_bd b9)
  have p10 := b_eq b10; have q10 : IntKind.i64.wrap (dv b10) = dv b10 := wrap_in (by have := dv_bd b10; omega); have n10 := dv_eq b10; have m10 := Lib.hid (dv_bd b10)
  rw [← HT.out]
  go_enter Tryd.func8, Tryd.ntmps8
  go_wp2_with (go_at_call 16; refine (counted8_any _ _).mono ?_; rintro e w1 ⟨rfl, rfl⟩; rw [HC.out])
  go_loopw [19] (fun i wr => relR w b0 b1 b2 b3 b4 b5 b6 b7 b8 b9 b10 i wr) (fun i _ => 11 - (intOf i).toNat)
  case atStart => exact ⟨Or.inl ⟨rfl, Lib.hid trivial, Box4.of (heap_at _ _ _ (by simp))⟩, Box4.at (by exact (by repeat (first | exact Gr.refl _ | assumption | refine Gr.alloc ?_ _ | refine Gr.drew ?_ | refine Gr.drewN ?_ _ | (refine Gr.put ?_ ?_ _; first | exact Nat.le_refl _ | (simp; done) | omega) | (apply Gr.after; assumption)))) (heap_last w _), (by repeat (first | exact Gr.refl _ | assumption | refine Gr.alloc ?_ _ | refine Gr.drew ?_ | refine Gr.drewN ?_ _ | (refine Gr.put ?_ ?_ _; first | exact Nat.le_refl _ | (simp; done) | omega) | (apply Gr.after; assumption)))⟩
  case round =>
    obtain ⟨hk, K0, hGr⟩ := hrel
    rcases hk with ⟨rfl, HOK, K⟩ | ⟨rfl, HOK, K⟩ | ⟨rfl, HOK, K⟩ | ⟨rfl, HOK, K⟩ | ⟨rfl, HOK, K⟩ | ⟨rfl, HOK, K⟩ | ⟨rfl, HOK, K⟩ | ⟨rfl, HOK, K⟩ | ⟨rfl, HOK, K⟩ | ⟨rfl, HOK, K⟩ | ⟨rfl, HOK, K⟩ | ⟨rfl, HOK, K⟩
    · have a1 : IntKind.i64.wrap (10 * 0) = 10 * 0 := wrap_in (by omega)
      have a2 : IntKind.i64.wrap (10 * 0 + dv b0) = dv b0 := by rw [wrap_in (by have := m0.out; omega)]; omega
      cases hd : isD b0
      · have HD : Hid (withinB (dv b0) 0 9 = false) := Lib.hid ((dv_within b0).trans hd)
        have HN := Lib.hid (digB_no (b0 := b0) (b1 := b1) (b2 := b2) (b3 := b3) (b4 := b4) (b5 := b5) (b6 := b6) (b7 := b7) (b8 := b8) (b9 := b9) (b10 := b10) hd (by simp))
        clear hd
        go_wp2_with (go_at_call 17; refine (within1_any _ _ _ _).mono ?_; rintro e w1 ⟨rfl, rfl⟩; rw [HD.out])
        obtain ⟨c0, c1, c2, c3⟩ := put4 K0 (.int .i64 0) (.int .i64 0) (.int .i64 0) (.int .i64 0)
        exact bodyPost_ret (v := .tuple #[.agg #[.int .i64 0, .int .i64 0, .int .i64 0, .int .i64 0], .int .i64 9]) (by simp [results, Tryd.results8, go_sem, c0, c1, c2, c3]) rfl ⟨by rw [rdV_no HN.out], (by repeat (first | exact Gr.refl _ | assumption | refine Gr.alloc ?_ _ | refine Gr.drew ?_ | refine Gr.drewN ?_ _ | (refine Gr.put ?_ ?_ _; first | exact Nat.le_refl _ | (simp; done) | omega) | (apply Gr.after; assumption)))⟩
      · have HD : Hid (withinB (dv b0) 0 9 = true) := Lib.hid ((dv_within b0).trans hd)
        have HOK := Lib.hid (show isD b0 = true from hd)
        clear hd
        have K2 := Box4.st0 K (u := .int .i64 (dv b0))
        have K02 := Box4.other K0 (c := w.heap.size + 1) (o := 0) (u := .int .i64 (dv b0)) (by omega)
        go_wp2_with (go_at_call 17; refine (within1_any _ _ _ _).mono ?_; rintro e w1 ⟨rfl, rfl⟩; rw [HD.out])
        go_roundw
        case rel => exact ⟨Or.inr (Or.inl ⟨rfl, HOK, K2⟩), K02, hGr.put (by omega) _⟩
        case measure => simp [intOf]
    · have a1 : IntKind.i64.wrap (10 * (dv b0)) = 10 * (dv b0) := wrap_in (by have := m0.out; omega)
      have a2 : IntKind.i64.wrap (10 * (dv b0) + dv b1) = (10 * dv b0 + dv b1) := by rw [wrap_in (by have := m1.out; have := m0.out; omega)]
      cases hd : isD b1
      · have HD : Hid (withinB (dv b1) 0 9 = false) := Lib.hid ((dv_within b1).trans hd)
        have HN := Lib.hid (digB_no (b0 := b0) (b1 := b1) (b2 := b2) (b3 := b3) (b4 := b4) (b5 := b5) (b6 := b6) (b7 := b7) (b8 := b8) (b9 := b9) (b10 := b10) hd (by simp))
        clear hd
        go_wp2_with (go_at_call 17; refine (within1_any _ _ _ _).mono ?_; rintro e w1 ⟨rfl, rfl⟩; rw [HD.out])
        obtain ⟨c0, c1, c2, c3⟩ := put4 K0 (.int .i64 0) (.int .i64 0) (.int .i64 0) (.int .i64 0)
        exact bodyPost_ret (v := .tuple #[.agg #[.int .i64 0, .int .i64 0, .int .i64 0, .int .i64 0], .int .i64 9]) (by simp [results, Tryd.results8, go_sem, c0, c1, c2, c3]) rfl ⟨by rw [rdV_no HN.out], (by repeat (first | exact Gr.refl _ | assumption | refine Gr.alloc ?_ _ | refine Gr.drew ?_ | refine Gr.drewN ?_ _ | (refine Gr.put ?_ ?_ _; first | exact Nat.le_refl _ | (simp; done) | omega) | (apply Gr.after; assumption)))⟩
      · have HD : Hid (withinB (dv b1) 0 9 = true) := Lib.hid ((dv_within b1).trans hd)
        have HOK := Lib.hid (show isD b0 = true ∧ isD b1 = true from ⟨HOK.out, hd⟩)
        clear hd
        have K2 := Box4.st0 K (u := .int .i64 ((10 * dv b0 + dv b1)))
        have K02 := Box4.other K0 (c := w.heap.size + 1) (o := 0) (u := .int .i64 ((10 * dv b0 + dv b1))) (by omega)
        go_wp2_with (go_at_call 17; refine (within1_any _ _ _ _).mono ?_; rintro e w1 ⟨rfl, rfl⟩; rw [HD.out])
        go_roundw
        case rel => exact ⟨Or.inr (Or.inr (Or.inl ⟨rfl, HOK, K2⟩)), K02, hGr.put (by omega) _⟩
        case measure => simp [intOf]
    · go_wp2
      go_roundw
      case rel => exact ⟨Or.inr (Or.inr (Or.inr (Or.inl ⟨rfl, HOK, K⟩))), K0, hGr⟩
      case measure => simp [intOf]
    · have a1 : IntKind.i64.wrap (10 * 0) = 10 * 0 := wrap_in (by omega)
      have a2 : IntKind.i64.wrap (10 * 0 + dv b3) = dv b3 := by rw [wrap_in (by have := m3.out; omega)]; omega
      cases hd : isD b3
      · have HD : Hid (withinB (dv b3) 0 9 = false) := Lib.hid ((dv_within b3).trans hd)
        have HN := Lib.hid (digB_no (b0 := b0) (b1 := b1) (b2 := b2) (b3 := b3) (b4 := b4) (b5 := b5) (b6 := b6) (b7 := b7) (b8 := b8) (b9 := b9) (b10 := b10) hd (by simp))
        clear hd
        go_wp2_with (go_at_call 17; refine (within1_any _ _ _ _).mono ?_; rintro e w1 ⟨rfl, rfl⟩; rw [HD.out])
        obtain ⟨c0, c1, c2, c3⟩ := put4 K0 (.int .i64 0) (.int .i64 0) (.int .i64 0) (.int .i64 0)
        exact bodyPost_ret (v := .tuple #[.agg #[.int .i64 0, .int .i64 0, .int .i64 0, .int .i64 0], .int .i64 9]) (by simp [results, Tryd.results8, go_sem, c0, c1, c2, c3]) rfl ⟨by rw [rdV_no HN.out], (by repeat (first | exact Gr.refl _ | assumption | refine Gr.alloc ?_ _ | refine Gr.drew ?_ | refine Gr.drewN ?_ _ | (refine Gr.put ?_ ?_ _; first | exact Nat.le_refl _ | (simp; done) | omega) | (apply Gr.after; assumption)))⟩
      · have HD : Hid (withinB (dv b3) 0 9 = true) := Lib.hid ((dv_within b3).trans hd)
        have HOK := Lib.hid (show isD b0 = true ∧ isD b1 = true ∧ isD b3 = true from ⟨HOK.out.1, HOK.out.2, hd⟩)
        clear hd
        have K2 := Box4.st1 K (u := .int .i64 (dv b3))
        have K02 := Box4.other K0 (c := w.heap.size + 1) (o := 1) (u := .int .i64 (dv b3)) (by omega)
        go_wp2_with (go_at_call 17; refine (within1_any _ _ _ _).mono ?_; rintro e w1 ⟨rfl, rfl⟩; rw [HD.out])
        go_roundw
        case rel => exact ⟨Or.inr (Or.inr (Or.inr (Or.inr (Or.inl ⟨rfl, HOK, K2⟩)))), K02, hGr.put (by omega) _⟩
        case measure => simp [intOf]
    · have a1 : IntKind.i64.wrap (10 * (dv b3)) = 10 * (dv b3) := wrap_in (by have := m3.out; omega)
      have a2 : IntKind.i64.wrap (10 * (dv b3) + dv b4) = (10 * dv b3 + dv b4) := by rw [wrap_in (by have := m4.out; have := m3.out; omega)]
      cases hd : isD b4
      · have HD : Hid (withinB (dv b4) 0 9 = false) := Lib.hid ((dv_within b4).trans hd)
        have HN := Lib.hid (digB_no (b0 := b0) (b1 := b1) (b2 := b2) (b3 := b3) (b4 := b4) (b5 := b5) (b6 := b6) (b7 := b7) (b8 := b8) (b9 := b9) (b10 := b10) hd (by simp))
        clear hd
        go_wp2_with (go_at_call 17; refine (within1_any _ _ _ _).mono ?_; rintro e w1 ⟨rfl, rfl⟩; rw [HD.out])
        obtain ⟨c0, c1, c2, c3⟩ := put4 K0 (.int .i64 0) (.int .i64 0) (.int .i64 0) (.int .i64 0)
        exact bodyPost_ret (v := .tuple #[.agg #[.int .i64 0, .int .i64 0, .int .i64 0, .int .i64 0], .int .i64 9]) (by simp [results, Tryd.results8, go_sem, c0, c1, c2, c3]) rfl ⟨by rw [rdV_no HN.out], (by repeat (first | exact Gr.refl _ | assumption | refine Gr.alloc ?_ _ | refine Gr.drew ?_ | refine Gr.drewN ?_ _ | (refine Gr.put ?_ ?_ _; first | exact Nat.le_refl _ | (simp; done) | omega) | (apply Gr.after; assumption)))⟩
      · have HD : Hid (withinB (dv b4) 0 9 = true) := Lib.hid ((dv_within b4).trans hd)
        have HOK := Lib.hid (show isD b0 = true ∧ isD b1 = true ∧ isD b3 = true ∧ isD b4 = true from ⟨HOK.out.1, HOK.out.2.1, HOK.out.2.2, hd⟩)
        clear hd
        have K2 := Box4.st1 K (u := .int .i64 ((10 * dv b3 + dv b4)))
        have K02 := Box4.other K0 (c := w.heap.size + 1) (o := 1) (u := .int .i64 ((10 * dv b3 + dv b4))) (by omega)
        go_wp2_with (go_at_call 17; refine (within1_any _ _ _ _).mono ?_; rintro e w1 ⟨rfl, rfl⟩; rw [HD.out])
        go_roundw
        case rel => exact ⟨Or.inr (Or.inr (Or.inr (Or.inr (Or.inr (Or.inl ⟨rfl, HOK, K2⟩))))), K02, hGr.put (by omega) _⟩
        case measure => simp [intOf]
    · go_wp2
      go_roundw
      case rel => exact ⟨Or.inr (Or.inr (Or.inr (Or.inr (Or.inr (Or.inr (Or.inl ⟨rfl, HOK, K⟩)))))), K0, hGr⟩
      case measure => simp [intOf]
    · have a1 : IntKind.i64.wrap (10 * 0) = 10 * 0 := wrap_in (by omega)
      have a2 : IntKind.i64.wrap (10 * 0 + dv b6) = dv b6 := by rw [wrap_in (by have := m6.out; omega)]; omega
      cases hd : isD b6
      · have HD : Hid (withinB (dv b6) 0 9 = false) := Lib.hid ((dv_within b6).trans hd)
        have HN := Lib.hid (digB_no (b0 := b0) (b1 := b1) (b2 := b2) (b3 := b3) (b4 := b4) (b5 := b5) (b6 := b6) (b7 := b7) (b8 := b8) (b9 := b9) (b10 := b10) hd (by simp))
        clear hd
        go_wp2_with (go_at_call 17; refine (within1_any _ _ _ _).mono ?_; rintro e w1 ⟨rfl, rfl⟩; rw [HD.out])
        obtain ⟨c0, c1, c2, c3⟩ := put4 K0 (.int .i64 0) (.int .i64 0) (.int .i64 0) (.int .i64 0)
        exact bodyPost_ret (v := .tuple #[.agg #[.int .i64 0, .int .i64 0, .int .i64 0, .int .i64 0], .int .i64 9]) (by simp [results, Tryd.results8, go_sem, c0, c1, c2, c3]) rfl ⟨by rw [rdV_no HN.out], (by repeat (first | exact Gr.refl _ | assumption | refine Gr.alloc ?_ _ | refine Gr.drew ?_ | refine Gr.drewN ?_ _ | (refine Gr.put ?_ ?_ _; first | exact Nat.le_refl _ | (simp; done) | omega) | (apply Gr.after; assumption)))⟩
      · have HD : Hid (withinB (dv b6) 0 9 = true) := Lib.hid ((dv_within b6).trans hd)
        have HOK := Lib.hid (show isD b0 = true ∧ isD b1 = true ∧ isD b3 = true ∧ isD b4 = true ∧ isD b6 = true from ⟨HOK.out.1, HOK.out.2.1, HOK.out.2.2.1, HOK.out.2.2.2, hd⟩)
        clear hd
        have K2 := Box4.st2 K (u := .int .i64 (dv b6))
        have K02 := Box4.other K0 (c := w.heap.size + 1) (o := 2) (u := .int .i64 (dv b6)) (by omega)
        go_wp2_with (go_at_call 17; refine (within1_any _ _ _ _).mono ?_; rintro e w1 ⟨rfl, rfl⟩; rw [HD.out])
        go_roundw
        case rel => exact ⟨Or.inr (Or.inr (Or.inr (Or.inr (Or.inr (Or.inr (Or.inr (Or.inl ⟨rfl, HOK, K2⟩))))))), K02, hGr.put (by omega) _⟩
        case measure => simp [intOf]
    · have a1 : IntKind.i64.wrap (10 * (dv b6)) = 10 * (dv b6) := wrap_in (by have := m6.out; omega)
      have a2 : IntKind.i64.wrap (10 * (dv b6) + dv b7) = (10 * dv b6 + dv b7) := by rw [wrap_in (by have := m7.out; have := m6.out; omega)]
      cases hd : isD b7
      · have HD : Hid (withinB (dv b7) 0 9 = false) := Lib.hid ((dv_within b7).trans hd)
        have HN := Lib.hid (digB_no (b0 := b0) (b1 := b1) (b2 := b2) (b3 := b3) (b4 := b4) (b5 := b5) (b6 := b6) (b7 := b7) (b8 := b8) (b9 := b9) (b10 := b10) hd (by simp))
        clear hd
        go_wp2_with (go_at_call 17; refine (within1_any _ _ _ _).mono ?_; rintro e w1 ⟨rfl, rfl⟩; rw [HD.out])
        obtain ⟨c0, c1, c2, c3⟩ := put4 K0 (.int .i64 0) (.int .i64 0) (.int .i64 0) (.int .i64 0)
        exact bodyPost_ret (v := .tuple #[.agg #[.int .i64 0, .int .i64 0, .int .i64 0, .int .i64 0], .int .i64 9]) (by simp [results, Tryd.results8, go_sem, c0, c1, c2, c3]) rfl ⟨by rw [rdV_no HN.out], (by repeat (first | exact Gr.refl _ | assumption | refine Gr.alloc ?_ _ | refine Gr.drew ?_ | refine Gr.drewN ?_ _ | (refine Gr.put ?_ ?_ _; first | exact Nat.le_refl _ | (simp; done) | omega) | (apply Gr.after; assumption)))⟩
      · have HD : Hid (withinB (dv b7) 0 9 = true) := Lib.hid ((dv_within b7).trans hd)
        have HOK := Lib.hid (show isD b0 = true ∧ isD b1 = true ∧ isD b3 = true ∧ isD b4 = true ∧ isD b6 = true ∧ isD b7 = true from ⟨HOK.out.1, HOK.out.2.1, HOK.out.2.2.1, HOK.out.2.2.2.1, HOK.out.2.2.2.2, hd⟩)
        clear hd
        have K2 := Box4.st2 K (u := .int .i64 ((10 * dv b6 + dv b7)))
        have K02 := Box4.other K0 (c := w.heap.size + 1) (o := 2) (u := .int .i64 ((10 * dv b6 + dv b7))) (by omega)
        go_wp2_with (go_at_call 17; refine (within1_any _ _ _ _).mono ?_; rintro e w1 ⟨rfl, rfl⟩; rw [HD.out])
        go_roundw
        case rel => exact ⟨Or.inr (Or.inr (Or.inr (Or.inr (Or.inr (Or.inr (Or.inr (Or.inr (Or.inl ⟨rfl, HOK, K2⟩)))))))), K02, hGr.put (by omega) _⟩
        case measure => simp [intOf]
    · go_wp2
      go_roundw
      case rel => exact ⟨Or.inr (Or.inr (Or.inr (Or.inr (Or.inr (Or.inr (Or.inr (Or.inr (Or.inr (Or.inl ⟨rfl, HOK, K⟩))))))))), K0, hGr⟩
      case measure => simp [intOf]
    · have a1 : IntKind.i64.wrap (10 * 0) = 10 * 0 := wrap_in (by omega)
      have a2 : IntKind.i64.wrap (10 * 0 + dv b9) = dv b9 := by rw [wrap_in (by have := m9.out; omega)]; omega
      cases hd : isD b9
      · have HD : Hid (withinB (dv b9) 0 9 = false) := Lib.hid ((dv_within b9).trans hd)
        have HN := Lib.hid (digB_no (b0 := b0) (b1 := b1) (b2 := b2) (b3 := b3) (b4 := b4) (b5 := b5) (b6 := b6) (b7 := b7) (b8 := b8) (b9 := b9) (b10 := b10) hd (by simp))
        clear hd
        go_wp2_with (go_at_call 17; refine (within1_any _ _ _ _).mono ?_; rintro e w1 ⟨rfl, rfl⟩; rw [HD.out])
        obtain ⟨c0, c1, c2, c3⟩ := put4 K0 (.int .i64 0) (.int .i64 0) (.int .i64 0) (.int .i64 0)
        exact bodyPost_ret (v := .tuple #[.agg #[.int .i64 0, .int .i64 0, .int .i64 0, .int .i64 0], .int .i64 9]) (by simp [results, Tryd.results8, go_sem, c0, c1, c2, c3]) rfl ⟨by rw [rdV_no HN.out], (by repeat (first | exact Gr.refl _ | assumption | refine Gr.alloc ?_ _ | refine Gr.drew ?_ | refine Gr.drewN ?_ _ | (refine Gr.put ?_ ?_ _; first | exact Nat.le_refl _ | (simp; done) | omega) | (apply Gr.after; assumption)))⟩
      · have HD : Hid (withinB (dv b9) 0 9 = true) := Lib.hid ((dv_within b9).trans hd)
        have HOK := Lib.hid (show isD b0 = true ∧ isD b1 = true ∧ isD b3 = true ∧ isD b4 = true ∧ isD b6 = true ∧ isD b7 = true ∧ isD b9 = true from ⟨HOK.out.1, HOK.out.2.1, HOK.out.2.2.1, HOK.out.2.2.2.1, HOK.out.2.2.2.2.1, HOK.out.2.2.2.2.2, hd⟩)
        clear hd
        have K2 := Box4.st3 K (u := .int .i64 (dv b9))
        have K02 := Box4.other K0 (c := w.heap.size + 1) (o := 3) (u := .int .i64 (dv b9)) (by omega)
        go_wp2_with (go_at_call 17; refine (within1_any _ _ _ _).mono ?_; rintro e w1 ⟨rfl, rfl⟩; rw [HD.out])
        go_roundw
        case rel => exact ⟨Or.inr (Or.inr (Or.inr (Or.inr (Or.inr (Or.inr (Or.inr (Or.inr (Or.inr (Or.inr (Or.inl ⟨rfl, HOK, K2⟩)))))))))), K02, hGr.put (by omega) _⟩
        case measure => simp [intOf]
    · have a1 : IntKind.i64.wrap (10 * (dv b9)) = 10 * (dv b9) := wrap_in (by have := m9.out; omega)
      have a2 : IntKind.i64.wrap (10 * (dv b9) + dv b10) = (10 * dv b9 + dv b10) := by rw [wrap_in (by have := m10.out; have := m9.out; omega)]
      cases hd : isD b10
      · have HD : Hid (withinB (dv b10) 0 9 = false) := Lib.hid ((dv_within b10).trans hd)
        have HN := Lib.hid (digB_no (b0 := b0) (b1 := b1) (b2 := b2) (b3 := b3) (b4 := b4) (b5 := b5) (b6 := b6) (b7 := b7) (b8 := b8) (b9 := b9) (b10 := b10) hd (by simp))
        clear hd
        go_wp2_with (go_at_call 17; refine (within1_any _ _ _ _).mono ?_; rintro e w1 ⟨rfl, rfl⟩; rw [HD.out])
        obtain ⟨c0, c1, c2, c3⟩ := put4 K0 (.int .i64 0) (.int .i64 0) (.int .i64 0) (.int .i64 0)
        exact bodyPost_ret (v := .tuple #[.agg #[.int .i64 0, .int .i64 0, .int .i64 0, .int .i64 0], .int .i64 9]) (by simp [results, Tryd.results8, go_sem, c0, c1, c2, c3]) rfl ⟨by rw [rdV_no HN.out], (by repeat (first | exact Gr.refl _ | assumption | refine Gr.alloc ?_ _ | refine Gr.drew ?_ | refine Gr.drewN ?_ _ | (refine Gr.put ?_ ?_ _; first | exact Nat.le_refl _ | (simp; done) | omega) | (apply Gr.after; assumption)))⟩
      · have HD : Hid (withinB (dv b10) 0 9 = true) := Lib.hid ((dv_within b10).trans hd)
        have HOK := Lib.hid (show isD b0 = true ∧ isD b1 = true ∧ isD b3 = true ∧ isD b4 = true ∧ isD b6 = true ∧ isD b7 = true ∧ isD b9 = true ∧ isD b10 = true from ⟨HOK.out.1, HOK.out.2.1, HOK.out.2.2.1, HOK.out.2.2.2.1, HOK.out.2.2.2.2.1, HOK.out.2.2.2.2.2.1, HOK.out.2.2.2.2.2.2, hd⟩)
        clear hd
        have K2 := Box4.st3 K (u := .int .i64 ((10 * dv b9 + dv b10)))
        have K02 := Box4.other K0 (c := w.heap.size + 1) (o := 3) (u := .int .i64 ((10 * dv b9 + dv b10))) (by omega)
        go_wp2_with (go_at_call 17; refine (within1_any _ _ _ _).mono ?_; rintro e w1 ⟨rfl, rfl⟩; rw [HD.out])
        go_roundw
        case rel => exact ⟨Or.inr (Or.inr (Or.inr (Or.inr (Or.inr (Or.inr (Or.inr (Or.inr (Or.inr (Or.inr (Or.inr ⟨rfl, HOK, K2⟩)))))))))), K02, hGr.put (by omega) _⟩
        case measure => simp [intOf]
    · obtain ⟨d0, d1, d3, d4, d6, d7, d9, d10⟩ := HOK.out
      have HG := Lib.hid (show digB b0 b1 b2 b3 b4 b5 b6 b7 b8 b9 b10 = true by unfold digB; simp only [d0, d1, d3, d4, d6, d7, d9, d10]; rfl)
      have H0I := Lib.hid (num_in d0 d1)
      have H1I := Lib.hid (num_in d3 d4)
      have H2I := Lib.hid (num_in d6 d7)
      have H3I := Lib.hid (num_in d9 d10)
      clear d0 d1 d3 d4 d6 d7 d9 d10 HOK
      have G0 : Hid (10 * dv b0 + dv b1 = numS b0 b1) := Lib.hid rfl
      have G1 : Hid (10 * dv b3 + dv b4 = numS b3 b4) := Lib.hid rfl
      have G2 : Hid (10 * dv b6 + dv b7 = numS b6 b7) := Lib.hid rfl
      have G3 : Hid (10 * dv b9 + dv b10 = numS b9 b10) := Lib.hid rfl
      rw [G0.out, G1.out, G2.out, G3.out] at K
      clear e0 e1 e2 e3 e4 e5 e6 e7 e8 e9 e10 n0 n1 n3 n4 n6 n7 n9 n10 p0 p1 p3 p4 p6 p7 p9 p10 q0 q1 q3 q4 q6 q7 q9 q10
      have HE : Hid (rdE r b0 b1 b2 b3 b4 b5 b6 b7 b8 b9 b10 = if showS r (numS b0 b1) (numS b3 b4) (numS b6 b7) (numS b9 b10) = t then chkF r (numS b0 b1) (numS b3 b4) (numS b6 b7) (numS b9 b10) else 9) := Lib.hid (by rw [rdE, if_neg (by rw [HG.out]; decide), HT.out])
      have HV : Hid (rdV r b0 b1 b2 b3 b4 b5 b6 b7 b8 b9 b10 = outV (rdE r b0 b1 b2 b3 b4 b5 b6 b7 b8 b9 b10) (numS b0 b1) (numS b3 b4) (numS b6 b7) (numS b9 b10)) := Lib.hid rfl
      generalize numS b0 b1 = N0 at *
      generalize numS b3 b4 = N1 at *
      generalize numS b6 b7 = N2 at *
      generalize numS b9 b10 = N3 at *
      by_cases hs : showS r N0 N1 N2 N3 = t
      · have HS := Lib.hid hs
        rw [if_pos hs] at HE; clear hs
        by_cases hz : chkF r N0 N1 N2 N3 = 0
        · have HZ := Lib.hid hz
          rw [hz] at HE; clear hz
          go_wp2_with (first | (go_at_call 12; refine (show8_any r N0 N1 N2 N3 H0I.out H1I.out H2I.out H3I.out _).mono ?_; rintro e w3 ⟨rfl, hb⟩; have K9 := Box4.at hb (heap_last _ _); have hg3 : Gr wr w3 := ((Gr.refl wr).alloc _).trans hb; have K03 := Box4.mono K0 hg3; clear hb K0 K; rw [HS.out]) | (go_at_call 11; refine (Check8_any _ _ _ _ _ _).mono ?_; rintro e w4 ⟨rfl, hb4⟩; have K94 := Box4.mono K9 hb4; have K04 := Box4.mono K03 hb4; clear K03 K9; rw [HZ.out]))
          obtain ⟨c0, c1, c2, c3⟩ := put4 K04 (.int .i64 N0) (.int .i64 N1) (.int .i64 N2) (.int .i64 N3)
          exact bodyPost_ret (v := .tuple #[.agg #[.int .i64 N0, .int .i64 N1, .int .i64 N2, .int .i64 N3], .int .i64 0]) (by simp [results, Tryd.results8, go_sem, c0, c1, c2, c3]) rfl ⟨by rw [HV.out, HE.out]; rfl, (by repeat (first | exact Gr.refl _ | assumption | refine Gr.alloc ?_ _ | refine Gr.drew ?_ | refine Gr.drewN ?_ _ | (refine Gr.put ?_ ?_ _; first | exact Nat.le_refl _ | (simp; done) | omega) | (apply Gr.after; assumption)))⟩
        · generalize hF : chkF r N0 N1 N2 N3 = F at *
          have HZ := Lib.hid hF; have HF := Lib.hid hz; have hz1 : (F == 0) = false := by simpa using hz
          have hz2 : (F != 0) = true := by simpa using hz
          clear hF hz
          go_wp2_with (first | (go_at_call 12; refine (show8_any r N0 N1 N2 N3 H0I.out H1I.out H2I.out H3I.out _).mono ?_; rintro e w3 ⟨rfl, hb⟩; have K9 := Box4.at hb (heap_last _ _); have hg3 : Gr wr w3 := ((Gr.refl wr).alloc _).trans hb; have K03 := Box4.mono K0 hg3; clear hb K0 K; rw [HS.out]) | (go_at_call 11; refine (Check8_any _ _ _ _ _ _).mono ?_; rintro e w4 ⟨rfl, hb4⟩; have K94 := Box4.mono K9 hb4; have K04 := Box4.mono K03 hb4; clear K03 K9; rw [HZ.out]))
          obtain ⟨c0, c1, c2, c3⟩ := put4 K04 (.int .i64 0) (.int .i64 0) (.int .i64 0) (.int .i64 0)
          exact bodyPost_ret (v := .tuple #[.agg #[.int .i64 0, .int .i64 0, .int .i64 0, .int .i64 0], .int .i64 F]) (by simp [results, Tryd.results8, go_sem, c0, c1, c2, c3]) rfl ⟨by rw [HV.out, HE.out, outV_no HF.out], (by repeat (first | exact Gr.refl _ | assumption | refine Gr.alloc ?_ _ | refine Gr.drew ?_ | refine Gr.drewN ?_ _ | (refine Gr.put ?_ ?_ _; first | exact Nat.le_refl _ | (simp; done) | omega) | (apply Gr.after; assumption)))⟩
      · have HE2 := Lib.hid (HE.out.trans (if_neg hs)); clear HE
        have hsn : ((showS r N0 N1 N2 N3).toList == t.toList) = false := bytes_ne hs
        generalize hT : showS r N0 N1 N2 N3 = T at *
        have HS := Lib.hid hT; have HZ := HS; clear hs hT
        go_wp2_with (first | (go_at_call 12; refine (show8_any r N0 N1 N2 N3 H0I.out H1I.out H2I.out H3I.out _).mono ?_; rintro e w3 ⟨rfl, hb⟩; have K9 := Box4.at hb (heap_last _ _); have hg3 : Gr wr w3 := ((Gr.refl wr).alloc _).trans hb; have K03 := Box4.mono K0 hg3; clear hb K0 K; rw [HS.out]) | (go_at_call 11; refine (Check8_any _ _ _ _ _ _).mono ?_; rintro e w4 ⟨rfl, hb4⟩; have K94 := Box4.mono K9 hb4; have K04 := Box4.mono K03 hb4; clear K03 K9; rw [HZ.out]))
        obtain ⟨c0, c1, c2, c3⟩ := put4 K03 (.int .i64 0) (.int .i64 0) (.int .i64 0) (.int .i64 0)
        exact bodyPost_ret (v := .tuple #[.agg #[.int .i64 0, .int .i64 0, .int .i64 0, .int .i64 0], .int .i64 9]) (by simp [results, Tryd.results8, go_sem, c0, c1, c2, c3]) rfl ⟨by rw [HV.out, HE2.out]; rfl, (by repeat (first | exact Gr.refl _ | assumption | refine Gr.alloc ?_ _ | refine Gr.drew ?_ | refine Gr.drewN ?_ _ | (refine Gr.put ?_ ?_ _; first | exact Nat.le_refl _ | (simp; done) | omega) | (apply Gr.after; assumption)))⟩
end Go.Proofs.YtchbbdplopchlaaDoor
