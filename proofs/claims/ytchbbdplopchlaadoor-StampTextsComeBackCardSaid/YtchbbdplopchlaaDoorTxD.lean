/- Show and its reference. -/
import Derived.Test.YtchbbdplopchlaaDoorTxC
namespace Go.Proofs.YtchbbdplopchlaaDoor
open Go.RowKit Go.Sort
set_option linter.unusedVariables false
set_option linter.unusedSimpArgs false

/-- The text that Show gives. -/
def showT (r h m s f : Int) : ByteArray := if chkF r h m s f = 0 then showS r h m s f else ⟨#[]⟩
theorem okS_99 {r h m s f : Int} (k : okS r h m s f) : in99 h ∧ in99 m ∧ in99 s ∧ in99 f := by
  obtain ⟨hr, h1, h2, h3, h4, h5⟩ := k
  have := (cnt8_yes hr).2
  unfold in99
  omega
theorem Show_any (r h m s f : Int) (w : World) (ht : TabP w) :
    Calls Tryd.prog 5 #[.int .i64 r, .agg #[.int .i64 h, .int .i64 m, .int .i64 s, .int .i64 f]] w fun e w' => e = .returned (.tuple #[.string (showT r h m s f), .int .i64 (chkF r h m s f)]) ∧ Gr w w' := by
  have HT := Lib.hid ht; clear ht
  by_cases hz : chkF r h m s f = 0
  · obtain ⟨g1, g2, g3, g4⟩ := okS_99 (okS_of hz)
    have HS : Hid (showT r h m s f = showS r h m s f) := Lib.hid (if_pos hz)
    have H1 := Lib.hid g1; have H2 := Lib.hid g2; have H3 := Lib.hid g3; have H4 := Lib.hid g4; clear g1 g2 g3 g4
    have HZ := Lib.hid hz
    rw [hz]; clear hz
    go_enter Tryd.func5, Tryd.ntmps5
    go_wp2_with (first
      | (go_at_call 9; refine (Check_any _ _ _ _ _ _).mono ?_; rintro e w1 ⟨rfl, hb⟩; rw [HZ.out]; have K := Box4.at hb (heap_last w _); have hg : Gr w w1 := ((Gr.refl w).alloc _).trans hb; clear hb)
      | (go_at_call 10; refine (show_any _ _ _ _ _ H1.out H2.out H3.out H4.out _ (HT.out.mono hg)).mono ?_; rintro e w3 ⟨rfl, hb3⟩))
    go_ret2
    exact ⟨by rw [HS.out]; rfl, hg.trans hb3⟩
  · have HS : Hid (showT r h m s f = ⟨#[]⟩) := Lib.hid (if_neg hz)
    generalize hE : chkF r h m s f = E at *
    have HE := Lib.hid hE; clear hE
    go_enter Tryd.func5, Tryd.ntmps5
    go_wp2_with (go_at_call 9; refine (Check_any _ _ _ _ _ _).mono ?_; rintro e w1 ⟨rfl, hb⟩; rw [HE.out])
    go_ret2
    exact ⟨by rw [HS.out]; rfl, (by repeat (first | exact Gr.refl _ | assumption | refine Gr.alloc ?_ _ | refine Gr.drew ?_ | refine Gr.drewN ?_ _ | (refine Gr.put ?_ ?_ _; first | exact Nat.le_refl _ | (simp; done) | omega) | (apply Gr.after; assumption)))⟩
theorem Show8_any (r h m s f : Int) (w : World) :
    Calls Tryd.prog 6 #[.int .i64 r, .agg #[.int .i64 h, .int .i64 m, .int .i64 s, .int .i64 f]] w fun e w' => e = .returned (.tuple #[.string (showT r h m s f), .int .i64 (chkF r h m s f)]) ∧ Gr w w' := by
  by_cases hz : chkF r h m s f = 0
  · obtain ⟨g1, g2, g3, g4⟩ := okS_99 (okS_of hz)
    have HS : Hid (showT r h m s f = showS r h m s f) := Lib.hid (if_pos hz)
    have H1 := Lib.hid g1; have H2 := Lib.hid g2; have H3 := Lib.hid g3; have H4 := Lib.hid g4; clear g1 g2 g3 g4
    have HZ := Lib.hid hz
    rw [hz]; clear hz
    go_enter Tryd.func6, Tryd.ntmps6
    go_wp2_with (first
      | (go_at_call 11; refine (Check8_any _ _ _ _ _ _).mono ?_; rintro e w1 ⟨rfl, hb⟩; rw [HZ.out]; have K := Box4.at hb (heap_last w _); have hg : Gr w w1 := ((Gr.refl w).alloc _).trans hb; clear hb)
      | (go_at_call 12; refine (show8_any _ _ _ _ _ H1.out H2.out H3.out H4.out _).mono ?_; rintro e w3 ⟨rfl, hb3⟩))
    go_ret2
    exact ⟨by rw [HS.out]; rfl, hg.trans hb3⟩
  · have HS : Hid (showT r h m s f = ⟨#[]⟩) := Lib.hid (if_neg hz)
    generalize hE : chkF r h m s f = E at *
    have HE := Lib.hid hE; clear hE
    go_enter Tryd.func6, Tryd.ntmps6
    go_wp2_with (go_at_call 11; refine (Check8_any _ _ _ _ _ _).mono ?_; rintro e w1 ⟨rfl, hb⟩; rw [HE.out])
    go_ret2
    exact ⟨by rw [HS.out]; rfl, (by repeat (first | exact Gr.refl _ | assumption | refine Gr.alloc ?_ _ | refine Gr.drew ?_ | refine Gr.drewN ?_ _ | (refine Gr.put ?_ ?_ _; first | exact Nat.le_refl _ | (simp; done) | omega) | (apply Gr.after; assumption)))⟩
end Go.Proofs.YtchbbdplopchlaaDoor
