/- The walk of StampAddsMatchSpec. -/
import Derived.Test.YtgjclbkcnilkbaaStH
namespace Go.Proofs.Ytgjclbkcnilkbaa
open Go.RowKit
set_option linter.unusedVariables false
set_option linter.unusedSimpArgs false

set_option maxHeartbeats 1000000 in
theorem stampAddsMatchSpec_walk (r h m s f h' m' s' f' n : Int) (w : World) :
    Calls Try.prog 7 #[.int .i64 r, .agg #[.int .i64 h, .int .i64 m, .int .i64 s, .int .i64 f], .agg #[.int .i64 h', .int .i64 m', .int .i64 s', .int .i64 f'], .int .i64 n] w fun e w' => e = .returned (.bool true) ∧ Gr w w' := by
  go_enter Try.func7, Try.ntmps7
  go_wp2_with (first
    | ((go_at_call 26; refine (Add_any _ _ _ _ _ _ _).mono ?_; rintro e w1 ⟨rfl, hb⟩); have K := Box4.at (b := w.heap.size) hb (by repeat (first | exact heap_last _ _ | (refine heap_at _ _ _ ?_; (simp; done)) | (refine heap_old _ _ _ _ (by simp; try omega) ?_))); have K2 := Box4.at (b := w.heap.size + 1) hb (by repeat (first | exact heap_last _ _ | (refine heap_at _ _ _ ?_; (simp; done)) | (refine heap_old _ _ _ _ (by simp; try omega) ?_))))
    | ((go_at_call 27; refine (Add8_any _ _ _ _ _ _ _).mono ?_; rintro e w1 ⟨rfl, hb⟩); have K3 := Box4.at hb (heap_last _ _); have K := (K.mono ((Gr.refl _).alloc _)).mono hb; have K2 := (K2.mono ((Gr.refl _).alloc _)).mono hb)
    | ((go_at_call 28; refine (Between_any _ _ _ _ _ _ _ _ _ _).mono ?_; rintro e w1 ⟨rfl, hb⟩); have K4 := Box4.at hb (heap_last _ _); have K := (K.mono ((Gr.refl _).alloc _)).mono hb; have K2 := (K2.mono ((Gr.refl _).alloc _)).mono hb; have K3 := (K3.mono ((Gr.refl _).alloc _)).mono hb)
    | ((go_at_call 29; refine (Between8_any _ _ _ _ _ _ _ _ _ _).mono ?_; rintro e w1 ⟨rfl, hb⟩); have K := K.mono hb; have K2 := K2.mono hb; have K3 := K3.mono hb; have K4 := K4.mono hb))
  go_ret
  exact ⟨rfl, (by repeat (first | exact Gr.refl _ | assumption | refine Gr.alloc ?_ _ | refine Gr.drew ?_ | refine Gr.drewN ?_ _ | refine Gr.set ?_ (by first | exact Nat.le_refl _ | (simp; done) | omega) _ | refine Gr.trans ?_ (by assumption)))⟩
end Go.Proofs.Ytgjclbkcnilkbaa
