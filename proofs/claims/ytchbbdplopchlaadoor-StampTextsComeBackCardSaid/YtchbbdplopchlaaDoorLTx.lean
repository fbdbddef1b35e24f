/- The laws of stamps' texts: walks. -/
import Derived.Test.YtchbbdplopchlaaDoorTxJ
namespace Go.Proofs.YtchbbdplopchlaaDoor
open Go.RowKit Go.Sort
set_option linter.unusedVariables false
set_option linter.unusedSimpArgs false
set_option maxHeartbeats 4000000 in
theorem stampTextsMatchSpec_walk (r h m s f : Int) (t : ByteArray) (ht : t.size ≤ maxLen) (w : World) (hP : TabP w) :
    Calls Tryd.prog 3 #[.int .i64 r, .agg #[.int .i64 h, .int .i64 m, .int .i64 s, .int .i64 f], .string t] w fun e w' => e = .returned (.bool true) ∧ Gr w w' := by
  have HT := Lib.hid hP; clear hP ht
  generalize hA : showT r h m s f = A
  generalize hB : chkF r h m s f = B
  have HA := Lib.hid hA; have HB := Lib.hid hB
  have hV : rV r t = .tuple #[.agg #[.int .i64 (rN r t 0), .int .i64 (rN r t 1), .int .i64 (rN r t 2), .int .i64 (rN r t 3)], .int .i64 (rE r t)] := rfl
  generalize rN r t 0 = N0 at hV
  generalize rN r t 1 = N1 at hV
  generalize rN r t 2 = N2 at hV
  generalize rN r t 3 = N3 at hV
  generalize rE r t = E at hV
  have HV := Lib.hid hV
  clear hA hB hV
  go_enter Tryd.func3, Tryd.ntmps3
  go_wp2_with (first | (go_at_call 5; refine (Show_any _ _ _ _ _ _ (HT.out.mono ((Gr.refl w).alloc _))).mono ?_; rintro e w1 ⟨rfl, hb1⟩; have K4 := Box4.at hb1 (heap_last w _); have hg1 : Gr w w1 := ((Gr.refl w).alloc _).trans hb1; rw [HA.out, HB.out]) | (go_at_call 6; refine (Show8_any _ _ _ _ _ _).mono ?_; rintro e w2 ⟨rfl, hb2⟩; have hg2 : Gr w w2 := hg1.trans hb2; rw [HA.out, HB.out]) | (go_at_call 7; refine (Read_any _ _ _).mono ?_; rintro e w3 ⟨rfl, hb3⟩; have hg3 : Gr w w3 := hg2.trans hb3; rw [HV.out]) | (go_at_call 8; refine (Read8_any _ _ _).mono ?_; rintro e w4 ⟨rfl, hb4⟩; have K11 := Box4.at hb4 (heap_last w3 _); have hg4 : Gr w w4 := (hg3.alloc _).trans hb4; rw [HV.out]))
  go_ret
  exact ⟨rfl, hg4.alloc _⟩
set_option maxHeartbeats 4000000 in
theorem stampTextsComeBack_walk (r h m s f : Int) (t : ByteArray) (ht : t.size ≤ maxLen) (w : World) (hP : TabP w) :
    Calls Tryd.prog 4 #[.int .i64 r, .agg #[.int .i64 h, .int .i64 m, .int .i64 s, .int .i64 f], .string t] w fun e w' => e = .returned (.bool true) ∧ Gr w w' := by
  have HT := Lib.hid hP; clear hP ht
  have hV : rV r t = .tuple #[.agg #[.int .i64 (rN r t 0), .int .i64 (rN r t 1), .int .i64 (rN r t 2), .int .i64 (rN r t 3)], .int .i64 (rE r t)] := rfl
  have hSR : rE r t = 0 → chkF r (rN r t 0) (rN r t 1) (rN r t 2) (rN r t 3) = 0 ∧ showT r (rN r t 0) (rN r t 1) (rN r t 2) (rN r t 3) = t := fun e => by
    obtain ⟨h1, h2⟩ := show_read e
    exact ⟨h1, by rw [showT, if_pos h1, h2]⟩
  generalize rN r t 0 = N0 at hV hSR
  generalize rN r t 1 = N1 at hV hSR
  generalize rN r t 2 = N2 at hV hSR
  generalize rN r t 3 = N3 at hV hSR
  generalize rE r t = E at hV hSR
  have HV := Lib.hid hV
  have hRS : chkF r h m s f = 0 → rV r (showT r h m s f) = .tuple #[.agg #[.int .i64 h, .int .i64 m, .int .i64 s, .int .i64 f], .int .i64 0] := fun e => by
    obtain ⟨h1, h2, h3, h4, h5⟩ := read_show e
    rw [showT, if_pos e, rV, h1, h2, h3, h4, h5]
  generalize hA : showT r h m s f = A at hRS
  generalize hB : chkF r h m s f = B at hRS
  have HA := Lib.hid hA; have HB := Lib.hid hB
  clear hV hA hB
  by_cases hE : E = 0
  · subst hE
    obtain ⟨e1, e2⟩ := hSR rfl
    have HC2 := Lib.hid e1; have HS2 := Lib.hid e2; clear e1 e2 hSR
    by_cases hZ : B = 0
    · subst hZ
      have HVA := Lib.hid (hRS rfl); clear hRS
      go_enter Tryd.func4, Tryd.ntmps4
      go_wp2_with (first | (go_at_call 5; (with_reducible refine (Show_any r h m s f _ (HT.out.mono ((Gr.refl w).alloc _))).mono ?_); rintro e w1 ⟨rfl, hb1⟩; have K4 := Box4.at hb1 (heap_last w _); have hg1 : Gr w w1 := ((Gr.refl w).alloc _).trans hb1; clear hb1; rw [HA.out, HB.out]) | (go_at_call 7; (with_reducible refine (Read_any r A _).mono ?_); rintro e w3 ⟨rfl, hb3⟩; rw [HVA.out]; have hg3 : Gr w w3 := hg1.trans hb3; have K4 := Box4.mono K4 hb3; clear hb3) | (go_at_call 7; (with_reducible refine (Read_any r t _).mono ?_); rintro e w5 ⟨rfl, hb5⟩; rw [HV.out]; have hg5 : Gr w w5 := (hg3.alloc _).trans hb5; clear hb5) | (go_at_call 5; (with_reducible refine (Show_any r N0 N1 N2 N3 _ (HT.out.mono (hg5.alloc _))).mono ?_); rintro e w6 ⟨rfl, hb6⟩; rw [HS2.out, HC2.out]; have hg6 : Gr w w6 := (hg5.alloc _).trans hb6; clear hb6))
      go_ret
      exact ⟨rfl, hg6⟩
    · have z1 : (B == 0) = false := by simpa using hZ
      clear hRS hZ
      go_enter Tryd.func4, Tryd.ntmps4
      go_wp2_with (first | (go_at_call 5; (with_reducible refine (Show_any r h m s f _ (HT.out.mono ((Gr.refl w).alloc _))).mono ?_); rintro e w1 ⟨rfl, hb1⟩; have K4 := Box4.at hb1 (heap_last w _); have hg1 : Gr w w1 := ((Gr.refl w).alloc _).trans hb1; clear hb1; rw [HA.out, HB.out]) | (go_at_call 7; (with_reducible refine (Read_any r t _).mono ?_); rintro e w5 ⟨rfl, hb5⟩; rw [HV.out]; have hg5 : Gr w w5 := hg1.trans hb5; clear hb5) | (go_at_call 5; (with_reducible refine (Show_any r N0 N1 N2 N3 _ (HT.out.mono (hg5.alloc _))).mono ?_); rintro e w6 ⟨rfl, hb6⟩; rw [HS2.out, HC2.out]; have hg6 : Gr w w6 := (hg5.alloc _).trans hb6; clear hb6))
      go_ret
      exact ⟨rfl, hg6⟩
  · have z2 : (E != 0) = true := by simpa using hE
    clear hSR hE
    by_cases hZ : B = 0
    · subst hZ
      have HVA := Lib.hid (hRS rfl); clear hRS
      go_enter Tryd.func4, Tryd.ntmps4
      go_wp2_with (first | (go_at_call 5; (with_reducible refine (Show_any r h m s f _ (HT.out.mono ((Gr.refl w).alloc _))).mono ?_); rintro e w1 ⟨rfl, hb1⟩; have K4 := Box4.at hb1 (heap_last w _); have hg1 : Gr w w1 := ((Gr.refl w).alloc _).trans hb1; clear hb1; rw [HA.out, HB.out]) | (go_at_call 7; (with_reducible refine (Read_any r A _).mono ?_); rintro e w3 ⟨rfl, hb3⟩; rw [HVA.out]; have hg3 : Gr w w3 := hg1.trans hb3; have K4 := Box4.mono K4 hb3; clear hb3) | (go_at_call 7; (with_reducible refine (Read_any r t _).mono ?_); rintro e w5 ⟨rfl, hb5⟩; rw [HV.out]; have hg5 : Gr w w5 := (hg3.alloc _).trans hb5; clear hb5))
      go_ret
      exact ⟨rfl, hg5.alloc _⟩
    · have z1 : (B == 0) = false := by simpa using hZ
      clear hRS hZ
      go_enter Tryd.func4, Tryd.ntmps4
      go_wp2_with (first | (go_at_call 5; (with_reducible refine (Show_any r h m s f _ (HT.out.mono ((Gr.refl w).alloc _))).mono ?_); rintro e w1 ⟨rfl, hb1⟩; have K4 := Box4.at hb1 (heap_last w _); have hg1 : Gr w w1 := ((Gr.refl w).alloc _).trans hb1; clear hb1; rw [HA.out, HB.out]) | (go_at_call 7; (with_reducible refine (Read_any r t _).mono ?_); rintro e w5 ⟨rfl, hb5⟩; rw [HV.out]; have hg5 : Gr w w5 := hg1.trans hb5; clear hb5))
      go_ret
      exact ⟨rfl, hg5.alloc _⟩
end Go.Proofs.YtchbbdplopchlaaDoor
