/- The reference of show. -/
import Derived.Test.YtchbbdplopchlaaDoorTxB
namespace Go.Proofs.YtchbbdplopchlaaDoor
open Go.RowKit Go.Sort
set_option linter.unusedVariables false
set_option linter.unusedSimpArgs false

theorem two8_gr (n : Int) (h0 : 0 ≤ n) (h1 : n ≤ 99) (w : World) :
    Calls Tryd.prog 22 #[.int .i64 n] w fun e w' => e = .returned (.string (twoS n)) ∧ Gr w w' := by
  refine (two8_any n h0 h1 w).mono ?_
  rintro e w' ⟨rfl, rfl⟩
  exact ⟨rfl, Gr.refl _⟩
theorem last8_gr (r : Int) (w : World) :
    Calls Tryd.prog 23 #[.int .i64 r] w fun e w' => e = .returned (.string ⟨#[mkC r]⟩) ∧ Gr w w' := by
  refine (last8_any r w).mono ?_
  rintro e w' ⟨rfl, rfl⟩
  exact ⟨rfl, Gr.refl _⟩
set_option maxHeartbeats 4000000 in
theorem show8_any (r h m s f : Int) (hh : in99 h) (hm : in99 m) (hs : in99 s) (hf : in99 f) (w : World) :
    Calls Tryd.prog 12 #[.int .i64 r, .agg #[.int .i64 h, .int .i64 m, .int .i64 s, .int .i64 f]] w fun e w' => e = .returned (.string (showS r h m s f)) ∧ Gr w w' := by
  have HH := Lib.hid hh; have HM := Lib.hid hm; have HS := Lib.hid hs; have HF := Lib.hid hf; clear hh hm hs hf
  have z : ∀ n, (twoS n).size = 2 := fun _ => rfl
  go_enter Tryd.func12, Tryd.ntmps12
  go_wp2
  generalize hw2 : World.alloc w _ = w2
  have hg2 : Gr w w2 := by rw [← hw2]; exact (Gr.refl w).alloc _
  have K : Box4 w2 w.heap.size (.int .i64 h) (.int .i64 m) (.int .i64 s) (.int .i64 f) := by rw [← hw2]; exact Box4.of (heap_last _ _)
  clear hw2
  obtain ⟨⟨k0, k1, k2, k3⟩, _, _⟩ := K
  have q0 := cell_regrown k0
  have q1 := cell_regrown k1
  have q2 := cell_regrown k2
  have q3 := cell_regrown k3
  have c0 : ∀ d os, Calls Tryd.prog 22 #[.int .i64 h] (grow (redrawn w2 d) os) fun e w'' => e = .returned (.string (twoS h)) ∧ ∃ p : Regrown, w'' = grow (redrawn w2 p.d) p.os := fun d os => Calls.regrown_of (two8_gr h HH.out.1 HH.out.2 _)
  have c1 : ∀ d os, Calls Tryd.prog 22 #[.int .i64 m] (grow (redrawn w2 d) os) fun e w'' => e = .returned (.string (twoS m)) ∧ ∃ p : Regrown, w'' = grow (redrawn w2 p.d) p.os := fun d os => Calls.regrown_of (two8_gr m HM.out.1 HM.out.2 _)
  have c2 : ∀ d os, Calls Tryd.prog 22 #[.int .i64 s] (grow (redrawn w2 d) os) fun e w'' => e = .returned (.string (twoS s)) ∧ ∃ p : Regrown, w'' = grow (redrawn w2 p.d) p.os := fun d os => Calls.regrown_of (two8_gr s HS.out.1 HS.out.2 _)
  have c3 : ∀ d os, Calls Tryd.prog 22 #[.int .i64 f] (grow (redrawn w2 d) os) fun e w'' => e = .returned (.string (twoS f)) ∧ ∃ p : Regrown, w'' = grow (redrawn w2 p.d) p.os := fun d os => Calls.regrown_of (two8_gr f HF.out.1 HF.out.2 _)
  have c4 : ∀ d os, Calls Tryd.prog 23 #[.int .i64 r] (grow (redrawn w2 d) os) fun e w'' => e = .returned (.string ⟨#[mkC r]⟩) ∧ ∃ p : Regrown, w'' = grow (redrawn w2 p.d) p.os := fun d os => Calls.regrown_of (last8_gr r _)
  refine wp_region_quiet_below (by kernel_rfl) (by kernel_rfl) ?_
  repeat (quiet_step (with_reducible (first | exact c0 _ _ | exact c1 _ _ | exact c2 _ _ | exact c3 _ _ | exact c4 _ _)))
  refine wpQuiet_nil ?_
  intro _ hw'
  obtain ⟨⟨dq, osq⟩, hw''⟩ := hw'
  subst hw''
  go_wp2
  go_ret
  exact ⟨rfl, hg2.trans (regrown_gr w2 dq osq)⟩

end Go.Proofs.YtchbbdplopchlaaDoor
