/- stamp.Read. (gentxh.py) -/
import Derived.Test.YtchbbdplopchlaaDoorTxH
namespace Go.Proofs.YtchbbdplopchlaaDoor
open Go.RowKit Go.Sort
set_option linter.unusedVariables false
set_option linter.unusedSimpArgs false
theorem at0 (a b : UInt8) : (⟨#[a, b]⟩ : ByteArray)[0]'(by show 0 < 2; decide) = a := rfl
theorem at1 (a b : UInt8) : (⟨#[a, b]⟩ : ByteArray)[1]'(by show 1 < 2; decide) = b := rfl
theorem u8_dig {b : UInt8} (h : isD b = true) : IntKind.u8.wrap ((b.toNat : Int) - 48) = dv b ∧ IntKind.i64.wrap (dv b) = dv b ∧ IntKind.i64.wrap (10 * dv b) = 10 * dv b := by
  have h1 := of_decide_eq_true h; have h2 := isD_dv h
  refine ⟨?_, wrap_in (by omega), wrap_in (by omega)⟩
  unfold dv at *; exact IntWalk.u8_in _ (by omega)
theorem dig_mod {b : UInt8} (h : isD b = true) : ((b.toNat : Int) - 48) % 256 = dv b := by have h1 := of_decide_eq_true h; unfold dv; omega
theorem num_eq {a b : UInt8} (ha : isD a = true) (hb : isD b = true) : IntKind.i64.wrap (10 * dv a + dv b) = numS a b := by have := isD_dv ha; have := isD_dv hb; exact wrap_in (by omega)
set_option maxRecDepth 20000 in
set_option maxHeartbeats 8000000 in
theorem Read_go (r : Int) (b0 b1 b2 b3 b4 b5 b6 b7 b8 b9 b10 : UInt8) (w : World) (h : rateB r = true) (hs : sepB r b0 b1 b2 b3 b4 b5 b6 b7 b8 b9 b10 = true) :
    Calls Tryd.prog 7 #[.int .i64 r, .string ⟨#[b0, b1, b2, b3, b4, b5, b6, b7, b8, b9, b10]⟩] w fun e w' => e = .returned (rpV r b0 b1 b2 b3 b4 b5 b6 b7 b8 b9 b10) ∧ Gr w w' := by
  obtain ⟨t, HT⟩ : ∃ t, Hid (t = (⟨#[b0, b1, b2, b3, b4, b5, b6, b7, b8, b9, b10]⟩ : ByteArray)) := ⟨_, Lib.hid rfl⟩
  have hts : t.size = 11 := by rw [HT.out]; rfl
  have h2 : ((t.size : Int) != 11) = false := by rw [hts]; rfl
  have hm : modeI r = 0 := by simp [modeI, h]
  have hI2 : 2 < t.size := by omega
  have hI5 : 5 < t.size := by omega
  have hI8 : 8 ≤ t.size := by omega
  have hI9 : 9 ≤ t.size := by omega
  have e2 : t[2] = b2 := by simp only [HT.out]; rfl
  have e5 : t[5] = b5 := by simp only [HT.out]; rfl
  have x8 : t.extract 8 9 = ⟨#[b8]⟩ := by rw [HT.out]; rfl
  have x0 : t.extract 0 2 = ⟨#[b0, b1]⟩ := by rw [HT.out]; rfl
  have x3 : t.extract 3 5 = ⟨#[b3, b4]⟩ := by rw [HT.out]; rfl
  have x6 : t.extract 6 8 = ⟨#[b6, b7]⟩ := by rw [HT.out]; rfl
  have x9 : t.extract 9 11 = ⟨#[b9, b10]⟩ := by rw [HT.out]; rfl
  have HE0 : Hid (rdP r b0 b1 b2 b3 b4 b5 b6 b7 b8 b9 b10 = if digB b0 b1 b2 b3 b4 b5 b6 b7 b8 b9 b10 = false then 9 else chkF r (numS b0 b1) (numS b3 b4) (numS b6 b7) (numS b9 b10)) := Lib.hid (by rw [rdP, if_neg (by rw [hs]; decide)])
  have HV : Hid (rpV r b0 b1 b2 b3 b4 b5 b6 b7 b8 b9 b10 = outV (rdP r b0 b1 b2 b3 b4 b5 b6 b7 b8 b9 b10) (numS b0 b1) (numS b3 b4) (numS b6 b7) (numS b9 b10)) := Lib.hid rfl
  obtain ⟨k2, k5, k8⟩ := of_decide_eq_true hs
  have g2 : ((b2.toNat : Int) != 58) = false := by rw [k2]; rfl
  have g5 : ((b5.toNat : Int) != 58) = false := by rw [k5]; rfl
  have g8 : ([b8] == [mkC r]) = true := by rw [k8]; simp
  rw [← HT.out]
  clear hs k2 k5 k8 h
  go_enter Tryd.func7, Tryd.ntmps7
  go_wp2_with (go_at_call 13; refine (mode_any _ _).mono ?_; rintro e w' ⟨rfl, rfl⟩)
  go_quiet (first | (go_at_call 14; exact quiet_left (mark_any _ _)))
  go_wp2
  go_loopw [39] (fun i wr => relP w b0 b1 b2 b3 b4 b5 b6 b7 b8 b9 b10 i wr) (fun i _ => 4 - (intOf i).toNat)
  case atStart => exact ⟨Or.inl ⟨rfl, Lib.hid trivial, Box4.of (heap_at _ _ _ (by simp))⟩, Box4.at (by exact (by repeat (first | exact Gr.refl _ | assumption | refine Gr.alloc ?_ _ | refine Gr.drew ?_ | refine Gr.drewN ?_ _ | (refine Gr.put ?_ ?_ _; first | exact Nat.le_refl _ | (simp; done) | omega) | (apply Gr.after; assumption)))) (heap_last w _), (by repeat (first | exact Gr.refl _ | assumption | refine Gr.alloc ?_ _ | refine Gr.drew ?_ | refine Gr.drewN ?_ _ | (refine Gr.put ?_ ?_ _; first | exact Nat.le_refl _ | (simp; done) | omega) | (apply Gr.after; assumption)))⟩
  case round =>
    clear g2 g5 g8 e2 e5 x8
    obtain ⟨hk, K0, hGr⟩ := hrel
    rcases hk with ⟨rfl, HOK, K⟩ | ⟨rfl, HOK, K⟩ | ⟨rfl, HOK, K⟩ | ⟨rfl, HOK, K⟩ | ⟨rfl, HOK, K⟩
    · cases hd : (isD b0 && isD b1)
      · have HD := Lib.hid hd
        have HN : Hid (digB b0 b1 b2 b3 b4 b5 b6 b7 b8 b9 b10 = false) := Lib.hid (by rcases (Bool.and_eq_false_iff.1 hd) with h | h <;> exact digB_no (b0 := b0) (b1 := b1) (b2 := b2) (b3 := b3) (b4 := b4) (b5 := b5) (b6 := b6) (b7 := b7) (b8 := b8) (b9 := b9) (b10 := b10) h (by simp))
        clear hd
        go_wp2_with (go_at_call 15; refine (Digits2_any _ _ _).mono ?_; rintro e w3 ⟨rfl, hb⟩; rw [HD.out]; have K0 := Box4.mono K0 hb)
        obtain ⟨c0, c1, c2, c3⟩ := put4 K0 (.int .i64 0) (.int .i64 0) (.int .i64 0) (.int .i64 0)
        exact bodyPost_ret (v := .tuple #[.agg #[.int .i64 0, .int .i64 0, .int .i64 0, .int .i64 0], .int .i64 9]) (by simp [results, Tryd.results7, go_sem, c0, c1, c2, c3]) rfl ⟨by rw [rpV_dig HN.out], (by repeat (first | exact Gr.refl _ | assumption | refine Gr.alloc ?_ _ | refine Gr.drew ?_ | refine Gr.drewN ?_ _ | (refine Gr.put ?_ ?_ _; first | exact Nat.le_refl _ | (simp; done) | omega) | (apply Gr.after; assumption)))⟩
      · have HD := Lib.hid hd
        obtain ⟨da, dc⟩ := (Bool.and_eq_true _ _).mp hd
        obtain ⟨u1, u2, u3⟩ := u8_dig da; obtain ⟨v1, v2, _⟩ := u8_dig dc
        have nn := num_eq da dc
        have y0 := at0 b0 b1; have y1 := at1 b0 b1
        have z0 := dig_mod da; have z1 := dig_mod dc
        have ns : 10 * dv b0 + dv b1 = numS b0 b1 := rfl
        have HOK2 : Hid ((isD b0 = true ∧ isD b1 = true)) := Lib.hid ⟨da, dc⟩
        clear hd da dc
        go_wp2_with (go_at_call 15; refine (Digits2_any _ _ _).mono ?_; rintro e w3 ⟨rfl, hb⟩; rw [HD.out]; have K0 := Box4.mono K0 hb; have K := Box4.mono K hb; have hG3 := hGr.trans hb; clear hb)
        have K2 := Box4.st0 K (u := .int .i64 (numS b0 b1))
        have K02 := Box4.other K0 (c := w.heap.size + 1) (o := 0) (u := .int .i64 (numS b0 b1)) (by omega)
        go_region
        all_goals
          go_wp2
          go_roundw
          case rel => exact ⟨Or.inr (Or.inl ⟨rfl, HOK2, Box4.mono K2 (by repeat (first | exact Gr.refl _ | assumption | refine Gr.alloc ?_ _ | refine Gr.drew ?_ | refine Gr.drewN ?_ _ | (refine Gr.put ?_ ?_ _; first | exact Nat.le_refl _ | (simp; done) | omega) | (apply Gr.after; assumption)))⟩), Box4.mono K02 (by repeat (first | exact Gr.refl _ | assumption | refine Gr.alloc ?_ _ | refine Gr.drew ?_ | refine Gr.drewN ?_ _ | (refine Gr.put ?_ ?_ _; first | exact Nat.le_refl _ | (simp; done) | omega) | (apply Gr.after; assumption))), by first | exact (hG3.put (by omega) _) | exact ((hG3.put (by omega) _).drewN _) | exact (hG3.put (by omega) _).drew⟩
          case measure => simp [intOf]
    · cases hd : (isD b3 && isD b4)
      · have HD := Lib.hid hd
        have HN : Hid (digB b0 b1 b2 b3 b4 b5 b6 b7 b8 b9 b10 = false) := Lib.hid (by rcases (Bool.and_eq_false_iff.1 hd) with h | h <;> exact digB_no (b0 := b0) (b1 := b1) (b2 := b2) (b3 := b3) (b4 := b4) (b5 := b5) (b6 := b6) (b7 := b7) (b8 := b8) (b9 := b9) (b10 := b10) h (by simp))
        clear hd
        go_wp2_with (go_at_call 15; refine (Digits2_any _ _ _).mono ?_; rintro e w3 ⟨rfl, hb⟩; rw [HD.out]; have K0 := Box4.mono K0 hb)
        obtain ⟨c0, c1, c2, c3⟩ := put4 K0 (.int .i64 0) (.int .i64 0) (.int .i64 0) (.int .i64 0)
        exact bodyPost_ret (v := .tuple #[.agg #[.int .i64 0, .int .i64 0, .int .i64 0, .int .i64 0], .int .i64 9]) (by simp [results, Tryd.results7, go_sem, c0, c1, c2, c3]) rfl ⟨by rw [rpV_dig HN.out], (by repeat (first | exact Gr.refl _ | assumption | refine Gr.alloc ?_ _ | refine Gr.drew ?_ | refine Gr.drewN ?_ _ | (refine Gr.put ?_ ?_ _; first | exact Nat.le_refl _ | (simp; done) | omega) | (apply Gr.after; assumption)))⟩
      · have HD := Lib.hid hd
        obtain ⟨da, dc⟩ := (Bool.and_eq_true _ _).mp hd
        obtain ⟨u1, u2, u3⟩ := u8_dig da; obtain ⟨v1, v2, _⟩ := u8_dig dc
        have nn := num_eq da dc
        have y0 := at0 b3 b4; have y1 := at1 b3 b4
        have z0 := dig_mod da; have z1 := dig_mod dc
        have ns : 10 * dv b3 + dv b4 = numS b3 b4 := rfl
        have HOK2 : Hid ((isD b0 = true ∧ isD b1 = true) ∧ (isD b3 = true ∧ isD b4 = true)) := Lib.hid ⟨HOK.out, ⟨da, dc⟩⟩
        clear hd da dc
        go_wp2_with (go_at_call 15; refine (Digits2_any _ _ _).mono ?_; rintro e w3 ⟨rfl, hb⟩; rw [HD.out]; have K0 := Box4.mono K0 hb; have K := Box4.mono K hb; have hG3 := hGr.trans hb; clear hb)
        have K2 := Box4.st1 K (u := .int .i64 (numS b3 b4))
        have K02 := Box4.other K0 (c := w.heap.size + 1) (o := 1) (u := .int .i64 (numS b3 b4)) (by omega)
        go_region
        all_goals
          go_wp2
          go_roundw
          case rel => exact ⟨Or.inr (Or.inr (Or.inl ⟨rfl, HOK2, Box4.mono K2 (by repeat (first | exact Gr.refl _ | assumption | refine Gr.alloc ?_ _ | refine Gr.drew ?_ | refine Gr.drewN ?_ _ | (refine Gr.put ?_ ?_ _; first | exact Nat.le_refl _ | (simp; done) | omega) | (apply Gr.after; assumption)))⟩)), Box4.mono K02 (by repeat (first | exact Gr.refl _ | assumption | refine Gr.alloc ?_ _ | refine Gr.drew ?_ | refine Gr.drewN ?_ _ | (refine Gr.put ?_ ?_ _; first | exact Nat.le_refl _ | (simp; done) | omega) | (apply Gr.after; assumption))), by first | exact (hG3.put (by omega) _) | exact ((hG3.put (by omega) _).drewN _) | exact (hG3.put (by omega) _).drew⟩
          case measure => simp [intOf]
    · cases hd : (isD b6 && isD b7)
      · have HD := Lib.hid hd
        have HN : Hid (digB b0 b1 b2 b3 b4 b5 b6 b7 b8 b9 b10 = false) := Lib.hid (by rcases (Bool.and_eq_false_iff.1 hd) with h | h <;> exact digB_no (b0 := b0) (b1 := b1) (b2 := b2) (b3 := b3) (b4 := b4) (b5 := b5) (b6 := b6) (b7 := b7) (b8 := b8) (b9 := b9) (b10 := b10) h (by simp))
        clear hd
        go_wp2_with (go_at_call 15; refine (Digits2_any _ _ _).mono ?_; rintro e w3 ⟨rfl, hb⟩; rw [HD.out]; have K0 := Box4.mono K0 hb)
        obtain ⟨c0, c1, c2, c3⟩ := put4 K0 (.int .i64 0) (.int .i64 0) (.int .i64 0) (.int .i64 0)
        exact bodyPost_ret (v := .tuple #[.agg #[.int .i64 0, .int .i64 0, .int .i64 0, .int .i64 0], .int .i64 9]) (by simp [results, Tryd.results7, go_sem, c0, c1, c2, c3]) rfl ⟨by rw [rpV_dig HN.out], (by repeat (first | exact Gr.refl _ | assumption | refine Gr.alloc ?_ _ | refine Gr.drew ?_ | refine Gr.drewN ?_ _ | (refine Gr.put ?_ ?_ _; first | exact Nat.le_refl _ | (simp; done) | omega) | (apply Gr.after; assumption)))⟩
      · have HD := Lib.hid hd
        obtain ⟨da, dc⟩ := (Bool.and_eq_true _ _).mp hd
        obtain ⟨u1, u2, u3⟩ := u8_dig da; obtain ⟨v1, v2, _⟩ := u8_dig dc
        have nn := num_eq da dc
        have y0 := at0 b6 b7; have y1 := at1 b6 b7
        have z0 := dig_mod da; have z1 := dig_mod dc
        have ns : 10 * dv b6 + dv b7 = numS b6 b7 := rfl
        have HOK2 : Hid ((isD b0 = true ∧ isD b1 = true) ∧ (isD b3 = true ∧ isD b4 = true) ∧ (isD b6 = true ∧ isD b7 = true)) := Lib.hid ⟨HOK.out.1, HOK.out.2, ⟨da, dc⟩⟩
        clear hd da dc
        go_wp2_with (go_at_call 15; refine (Digits2_any _ _ _).mono ?_; rintro e w3 ⟨rfl, hb⟩; rw [HD.out]; have K0 := Box4.mono K0 hb; have K := Box4.mono K hb; have hG3 := hGr.trans hb; clear hb)
        have K2 := Box4.st2 K (u := .int .i64 (numS b6 b7))
        have K02 := Box4.other K0 (c := w.heap.size + 1) (o := 2) (u := .int .i64 (numS b6 b7)) (by omega)
        go_region
        all_goals
          go_wp2
          go_roundw
          case rel => exact ⟨Or.inr (Or.inr (Or.inr (Or.inl ⟨rfl, HOK2, Box4.mono K2 (by repeat (first | exact Gr.refl _ | assumption | refine Gr.alloc ?_ _ | refine Gr.drew ?_ | refine Gr.drewN ?_ _ | (refine Gr.put ?_ ?_ _; first | exact Nat.le_refl _ | (simp; done) | omega) | (apply Gr.after; assumption)))⟩))), Box4.mono K02 (by repeat (first | exact Gr.refl _ | assumption | refine Gr.alloc ?_ _ | refine Gr.drew ?_ | refine Gr.drewN ?_ _ | (refine Gr.put ?_ ?_ _; first | exact Nat.le_refl _ | (simp; done) | omega) | (apply Gr.after; assumption))), by first | exact (hG3.put (by omega) _) | exact ((hG3.put (by omega) _).drewN _) | exact (hG3.put (by omega) _).drew⟩
          case measure => simp [intOf]
    · cases hd : (isD b9 && isD b10)
      · have HD := Lib.hid hd
        have HN : Hid (digB b0 b1 b2 b3 b4 b5 b6 b7 b8 b9 b10 = false) := Lib.hid (by rcases (Bool.and_eq_false_iff.1 hd) with h | h <;> exact digB_no (b0 := b0) (b1 := b1) (b2 := b2) (b3 := b3) (b4 := b4) (b5 := b5) (b6 := b6) (b7 := b7) (b8 := b8) (b9 := b9) (b10 := b10) h (by simp))
        clear hd
        go_wp2_with (go_at_call 15; refine (Digits2_any _ _ _).mono ?_; rintro e w3 ⟨rfl, hb⟩; rw [HD.out]; have K0 := Box4.mono K0 hb)
        obtain ⟨c0, c1, c2, c3⟩ := put4 K0 (.int .i64 0) (.int .i64 0) (.int .i64 0) (.int .i64 0)
        exact bodyPost_ret (v := .tuple #[.agg #[.int .i64 0, .int .i64 0, .int .i64 0, .int .i64 0], .int .i64 9]) (by simp [results, Tryd.results7, go_sem, c0, c1, c2, c3]) rfl ⟨by rw [rpV_dig HN.out], (by repeat (first | exact Gr.refl _ | assumption | refine Gr.alloc ?_ _ | refine Gr.drew ?_ | refine Gr.drewN ?_ _ | (refine Gr.put ?_ ?_ _; first | exact Nat.le_refl _ | (simp; done) | omega) | (apply Gr.after; assumption)))⟩
      · have HD := Lib.hid hd
        obtain ⟨da, dc⟩ := (Bool.and_eq_true _ _).mp hd
        obtain ⟨u1, u2, u3⟩ := u8_dig da; obtain ⟨v1, v2, _⟩ := u8_dig dc
        have nn := num_eq da dc
        have y0 := at0 b9 b10; have y1 := at1 b9 b10
        have z0 := dig_mod da; have z1 := dig_mod dc
        have ns : 10 * dv b9 + dv b10 = numS b9 b10 := rfl
        have HOK2 : Hid ((isD b0 = true ∧ isD b1 = true) ∧ (isD b3 = true ∧ isD b4 = true) ∧ (isD b6 = true ∧ isD b7 = true) ∧ (isD b9 = true ∧ isD b10 = true)) := Lib.hid ⟨HOK.out.1, HOK.out.2.1, HOK.out.2.2, ⟨da, dc⟩⟩
        clear hd da dc
        go_wp2_with (go_at_call 15; refine (Digits2_any _ _ _).mono ?_; rintro e w3 ⟨rfl, hb⟩; rw [HD.out]; have K0 := Box4.mono K0 hb; have K := Box4.mono K hb; have hG3 := hGr.trans hb; clear hb)
        have K2 := Box4.st3 K (u := .int .i64 (numS b9 b10))
        have K02 := Box4.other K0 (c := w.heap.size + 1) (o := 3) (u := .int .i64 (numS b9 b10)) (by omega)
        go_region
        all_goals
          go_wp2
          go_roundw
          case rel => exact ⟨Or.inr (Or.inr (Or.inr (Or.inr ⟨rfl, HOK2, Box4.mono K2 (by repeat (first | exact Gr.refl _ | assumption | refine Gr.alloc ?_ _ | refine Gr.drew ?_ | refine Gr.drewN ?_ _ | (refine Gr.put ?_ ?_ _; first | exact Nat.le_refl _ | (simp; done) | omega) | (apply Gr.after; assumption)))⟩))), Box4.mono K02 (by repeat (first | exact Gr.refl _ | assumption | refine Gr.alloc ?_ _ | refine Gr.drew ?_ | refine Gr.drewN ?_ _ | (refine Gr.put ?_ ?_ _; first | exact Nat.le_refl _ | (simp; done) | omega) | (apply Gr.after; assumption))), by first | exact (hG3.put (by omega) _) | exact ((hG3.put (by omega) _).drewN _) | exact (hG3.put (by omega) _).drew⟩
          case measure => simp [intOf]
    · obtain ⟨⟨d0, d1⟩, ⟨d3, d4⟩, ⟨d6, d7⟩, ⟨d9, d10⟩⟩ := HOK.out
      have HG : digB b0 b1 b2 b3 b4 b5 b6 b7 b8 b9 b10 = true := by unfold digB; simp only [d0, d1, d3, d4, d6, d7, d9, d10]; rfl
      have HE := Lib.hid (HE0.out.trans (if_neg (by rw [HG]; decide))); clear HE0 HG
      clear d0 d1 d3 d4 d6 d7 d9 d10 HOK
      generalize numS b0 b1 = N0 at *
      generalize numS b3 b4 = N1 at *
      generalize numS b6 b7 = N2 at *
      generalize numS b9 b10 = N3 at *
      by_cases hz : chkF r N0 N1 N2 N3 = 0
      · have HZ := Lib.hid hz
        rw [hz] at HE; clear hz
        go_wp2_with (go_at_call 9; refine (Check_any _ _ _ _ _ _).mono ?_; rintro e w4 ⟨rfl, hb4⟩; have K9 := Box4.at hb4 (heap_last _ _); have hg4 : Gr wr w4 := ((Gr.refl wr).alloc _).trans hb4; have K04 := Box4.mono K0 hg4; clear K K0 hb4; rw [HZ.out])
        obtain ⟨c0, c1, c2, c3⟩ := put4 K04 (.int .i64 N0) (.int .i64 N1) (.int .i64 N2) (.int .i64 N3)
        exact bodyPost_ret (v := .tuple #[.agg #[.int .i64 N0, .int .i64 N1, .int .i64 N2, .int .i64 N3], .int .i64 0]) (by simp [results, Tryd.results7, go_sem, c0, c1, c2, c3]) rfl ⟨by rw [HV.out, HE.out]; rfl, (by repeat (first | exact Gr.refl _ | assumption | refine Gr.alloc ?_ _ | refine Gr.drew ?_ | refine Gr.drewN ?_ _ | (refine Gr.put ?_ ?_ _; first | exact Nat.le_refl _ | (simp; done) | omega) | (apply Gr.after; assumption)))⟩
      · generalize hF : chkF r N0 N1 N2 N3 = F at *
        have HZ := Lib.hid hF; have HF := Lib.hid hz; have hz1 : (F == 0) = false := by simpa using hz
        have hz2 : (F != 0) = true := by simpa using hz
        clear hF hz
        go_wp2_with (go_at_call 9; refine (Check_any _ _ _ _ _ _).mono ?_; rintro e w4 ⟨rfl, hb4⟩; have K9 := Box4.at hb4 (heap_last _ _); have hg4 : Gr wr w4 := ((Gr.refl wr).alloc _).trans hb4; have K04 := Box4.mono K0 hg4; clear K K0 hb4; rw [HZ.out])
        obtain ⟨c0, c1, c2, c3⟩ := put4 K04 (.int .i64 0) (.int .i64 0) (.int .i64 0) (.int .i64 0)
        exact bodyPost_ret (v := .tuple #[.agg #[.int .i64 0, .int .i64 0, .int .i64 0, .int .i64 0], .int .i64 F]) (by simp [results, Tryd.results7, go_sem, c0, c1, c2, c3]) rfl ⟨by rw [HV.out, HE.out, outV_no HF.out], (by repeat (first | exact Gr.refl _ | assumption | refine Gr.alloc ?_ _ | refine Gr.drew ?_ | refine Gr.drewN ?_ _ | (refine Gr.put ?_ ?_ _; first | exact Nat.le_refl _ | (simp; done) | omega) | (apply Gr.after; assumption)))⟩
end Go.Proofs.YtchbbdplopchlaaDoor
