/- The walk of StampAddsGoAround. -/
import Derived.Test.YtgjclbkcnilkbaaStH
import Derived.Test.YtgjclbkcnilkbaaLCome
namespace Go.Proofs.Ytgjclbkcnilkbaa
open Go.RowKit
set_option linter.unusedVariables false
set_option linter.unusedSimpArgs false

/-! ### the plain law -/
theorem lex_mono {r h m s f h' m' s' f' : Int} (k : okS r h m s f) (k' : okS r h' m' s' f') (hl : laterB h' m' s' f' h m s f = true) : numI r h m s f < numI r h' m' s' f' := by
  obtain ⟨hr, h1, h2, h3, h4, h5⟩ := k
  obtain ⟨_, h1', h2', h3', h4', h5'⟩ := k'
  have hl := of_decide_eq_true hl
  rcases rate_cases hr with rfl | rfl | rfl | rfl
  · rw [numI_plain (by omega) (by omega), numI_plain (by omega) (by omega)]; simp [cnt] at h4 h4'; omega
  · rw [numI_plain (by omega) (by omega), numI_plain (by omega) (by omega)]; simp [cnt] at h4 h4'; omega
  · rw [numI_plain (by omega) (by omega), numI_plain (by omega) (by omega)]; simp [cnt] at h4 h4'; omega
  · rw [numI_drop (by omega), numI_drop (by omega)]; simp [cnt] at h4 h4'; omega
theorem lex_total (h m s f h' m' s' f' : Int) : laterB h' m' s' f' h m s f = true ∨ laterB h m s f h' m' s' f' = true ∨ (h = h' ∧ m = m' ∧ s = s' ∧ f = f') := by
  simp only [laterB, decide_eq_true_eq]; omega
/-- A right stamp is that of its number. -/
theorem st_of_num {r h m s f : Int} (k : okS r h m s f) : stH r (undrop r (numI r h m s f)) = h ∧ stM r (undrop r (numI r h m s f)) = m ∧ stS r (undrop r (numI r h m s f)) = s ∧ stF r (undrop r (numI r h m s f)) = f := by
  have hb := numI_bd k
  obtain ⟨k', e⟩ := back_of k.1 hb.1 hb.2
  rcases lex_total (stH r (undrop r (numI r h m s f))) (stM r (undrop r (numI r h m s f))) (stS r (undrop r (numI r h m s f))) (stF r (undrop r (numI r h m s f))) h m s f with hl | hl | hl
  · have := lex_mono k' k hl; omega
  · have := lex_mono k k' hl; omega
  · exact hl
theorem tmod_as {d : Int} (hd : 0 < d) (a : Int) : ∃ q, a.tmod d = a + d * q ∧ -d < a.tmod d ∧ a.tmod d < d := by
  refine ⟨-(a.tdiv d), ?_, Int.lt_tmod_of_pos a hd, Int.tmod_lt_of_pos a hd⟩
  have := Int.tmod_add_mul_tdiv a d
  rw [Int.mul_neg]; omega
theorem go_facts {r h m s f n : Int} (k : okS r h m s f) (hn : -dayI r ≤ n ∧ n ≤ dayI r) :
    let x := (numI r h m s f + n) % dayI r
    okS r (stH r (undrop r x)) (stM r (undrop r x)) (stS r (undrop r x)) (stF r (undrop r x)) ∧ numI r (stH r (undrop r x)) (stM r (undrop r x)) (stS r (undrop r x)) (stF r (undrop r x)) = x ∧
    (x - numI r h m s f) % dayI r = n % dayI r ∧ (x + -n) % dayI r = numI r h m s f := by
  intro x
  have hd := dayI_le k.1
  have hb := mod_bd k.1 (numI r h m s f + n)
  have hnb := numI_bd k
  obtain ⟨k', e⟩ := back_of k.1 hb.1 hb.2
  have hx := Int.emod_add_mul_ediv (numI r h m s f + n) (dayI r)
  refine ⟨k', e, ?_, ?_⟩
  · have : x - numI r h m s f = n + dayI r * (-((numI r h m s f + n) / dayI r)) := by rw [Int.mul_neg]; omega
    rw [this, Int.add_mul_emod_self_left]
  · have : x + -n = numI r h m s f + dayI r * (-((numI r h m s f + n) / dayI r)) := by rw [Int.mul_neg]; omega
    rw [this, Int.add_mul_emod_self_left]
    exact Int.emod_eq_of_lt hnb.1 hnb.2
theorem go_twice {d N n a b : Int} (hd : 0 < d) : ∀ y, (∃ q, y = n + b + d * q) → ((N + n) % d + b) % d = (N + y) % d := by
  rintro y ⟨q, rfl⟩
  have hx := Int.emod_add_mul_ediv (N + n) d
  have : (N + n) % d + b = (N + (n + b + d * q)) + d * (-((N + n) / d) - q) := by rw [Int.mul_sub, Int.mul_neg]; omega
  rw [this, Int.add_mul_emod_self_left]

/-- All that the law's walk needs, in its own words. X: the number of the stamp a; (a, b, c, d): its parts. -/
theorem go_all {r h m s f n k : Int} (hF : addF r h m s f n = 0) : ∃ a b c d : Int,
    (stH r (undrop r (addX r h m s f n)) = a ∧ stM r (undrop r (addX r h m s f n)) = b ∧ stS r (undrop r (addX r h m s f n)) = c ∧ stF r (undrop r (addX r h m s f n)) = d) ∧ modeI r = 0 ∧
    btwF r h m s f a b c d = 0 ∧ btwX r h m s f a b c d = n % dayI r ∧
    addF r a b c d (-n) = 0 ∧ (stH r (undrop r (addX r a b c d (-n))) = h ∧ stM r (undrop r (addX r a b c d (-n))) = m ∧ stS r (undrop r (addX r a b c d (-n))) = s ∧ stF r (undrop r (addX r a b c d (-n))) = f) ∧
    (2073600 ≤ dayI r ∧ dayI r ≤ 2592000) ∧ (-dayI r ≤ n ∧ n ≤ dayI r) ∧
    (-dayI r < n.tmod (dayI r) ∧ n.tmod (dayI r) < dayI r) ∧ (n.tmod (dayI r) + dayI r) % dayI r = n % dayI r ∧
    (-dayI r < k.tmod (dayI r) ∧ k.tmod (dayI r) < dayI r) ∧
    (addF r a b c d k = 0 → addF r h m s f ((n + k.tmod (dayI r)).tmod (dayI r)) = 0 ∧ addX r h m s f ((n + k.tmod (dayI r)).tmod (dayI r)) = addX r a b c d k) := by
  have hc : chkF r h m s f = 0 := by
    by_cases h0 : chkF r h m s f = 0
    · exact h0
    · rw [addF, if_neg h0] at hF; exact hF
  have hn : -dayI r ≤ n ∧ n ≤ dayI r := by
    cases hw : withinB n (-dayI r) (dayI r)
    · simp [addF, hc, hw] at hF
    · exact withinB_true hw
  have ok := okS_of hc
  have hd := dayI_le ok.1
  have hdp : 0 < dayI r := by omega
  obtain ⟨g1, g2, g3, g4⟩ := go_facts ok hn
  have hc2 := chkF_of g1
  obtain ⟨q, t1, t2, t3⟩ := tmod_as hdp n
  obtain ⟨q', u1, u2, u3⟩ := tmod_as hdp k
  refine ⟨_, _, _, _, ⟨rfl, rfl, rfl, rfl⟩, by simp [modeI, ok.1], ?_, ?_, ?_, ?_, hd, hn, ⟨t2, t3⟩, ?_, ⟨u2, u3⟩, ?_⟩
  · rw [btwF, if_pos hc]; exact hc2
  · rw [btwX, addX, g2]; exact g3
  · rw [addF, addX, if_pos hc2, if_pos (show withinB _ _ _ = true from decide_eq_true ⟨by omega, by omega⟩)]
  · have : addX r (stH r (undrop r (addX r h m s f n))) (stM r (undrop r (addX r h m s f n))) (stS r (undrop r (addX r h m s f n))) (stF r (undrop r (addX r h m s f n))) (-n) = numI r h m s f := by
      rw [addX, addX, g2]; exact g4
    rw [this]
    exact st_of_num ok
  · have : n.tmod (dayI r) + dayI r = n + dayI r * (q + 1) := by rw [Int.mul_add]; omega
    rw [this, Int.add_mul_emod_self_left]
  · intro hk
    have hkb : -dayI r ≤ k ∧ k ≤ dayI r := by
      cases hw : withinB k (-dayI r) (dayI r)
      · rw [addF, addX, if_pos hc2, hw] at hk; simp at hk
      · exact withinB_true hw
    obtain ⟨q2, v1, v2, v3⟩ := tmod_as hdp (n + k.tmod (dayI r))
    refine ⟨by rw [addF, if_pos hc, if_pos (show withinB _ _ _ = true from decide_eq_true ⟨by omega, by omega⟩)], ?_⟩
    rw [addX, addX, addX, g2]
    refine (go_twice (a := 0) hdp _ ⟨q' + q2, ?_⟩).symm
    rw [v1, u1, Int.mul_add]; omega

set_option maxHeartbeats 2000000 in
theorem stampAddsGoAround_walk (r h m s f n k : Int) (w : World) :
    Calls Try.prog 8 #[.int .i64 r, .agg #[.int .i64 h, .int .i64 m, .int .i64 s, .int .i64 f], .int .i64 n, .int .i64 k] w fun e w' => e = .returned (.bool true) ∧ Gr w w' := by
  have z0 := resI0
  by_cases hF : addF r h m s f n = 0
  · obtain ⟨a, b, c, d, ⟨p0, p1, p2, p3⟩, hm, e1, e2, e3, ⟨x0, x1, x2, x3⟩, hd, hn, ht, e4, hk, e5⟩ := go_all (k := k) hF
    have hne : ¬ dayI r = 0 := by omega
    by_cases hk0 : addF r a b c d k = 0
    · obtain ⟨e6, e7⟩ := e5 hk0
      clear e5
      have q1 : IntKind.i64.wrap (n + k.tmod (dayI r)) = n + k.tmod (dayI r) := wrap_in (by omega)
      go_enter Try.func8, Try.ntmps8
      go_wp2_with (first
        | (go_at_call 26; with_reducible refine (Add_any r h m s f n _).mono ?_; rintro e w1 ⟨rfl, hb⟩; have K := Box4.at (b := w.heap.size) hb (by repeat (first | exact heap_last _ _ | (refine heap_at _ _ _ ?_; (simp; done)) | (refine heap_old _ _ _ _ (by simp; try omega) ?_))))
        | (go_at_call 16; refine (Day_any _ _).mono ?_; rintro e w2 ⟨rfl, rfl⟩)
        | ((go_at_call 28; refine (Between_any _ _ _ _ _ _ _ _ _ _).mono ?_; rintro e w1 ⟨rfl, hb⟩); have K2 := Box4.at hb (heap_last _ _); have K := (K.mono ((Gr.refl _).alloc _)).mono hb)
        | (go_at_call 26; with_reducible refine (Add_any r a b c d (-n) _).mono ?_; rintro e w1 ⟨rfl, hb⟩; have K := K.mono hb; have K2 := K2.mono hb)
        | (go_at_call 26; with_reducible refine (Add_any r a b c d k _).mono ?_; rintro e w1 ⟨rfl, hb⟩; have K := (K.mono ((Gr.refl _).alloc _)).mono hb))
      generalize hW : w1.alloc (.cells #[.int .i64 (stH r (undrop r (addX r a b c d k))), .int .i64 (stM r (undrop r (addX r a b c d k))), .int .i64 (stS r (undrop r (addX r a b c d k))), .int .i64 (stF r (undrop r (addX r a b c d k)))] 29) = W
      have K : Box44 W w.heap.size w1.heap.size (.int .i64 h) (.int .i64 m) (.int .i64 s) (.int .i64 f) (.int .i64 (stH r (undrop r (addX r a b c d k)))) (.int .i64 (stM r (undrop r (addX r a b c d k)))) (.int .i64 (stS r (undrop r (addX r a b c d k)))) (.int .i64 (stF r (undrop r (addX r a b c d k)))) := by
        subst hW; exact ⟨K.mono ((Gr.refl _).alloc _), Box4.of (by repeat (first | exact heap_last _ _ | (refine heap_at _ _ _ ?_; (simp; done)) | (refine heap_old _ _ _ _ (by simp; try omega) ?_)))⟩
      have hG : Gr w1 W := by subst hW; exact (by repeat (first | exact Gr.refl _ | assumption | refine Gr.alloc ?_ _ | refine Gr.drew ?_ | refine Gr.drewN ?_ _ | refine Gr.set ?_ (by first | exact Nat.le_refl _ | (simp; done) | omega) _ | refine Gr.trans ?_ (by assumption)))
      have hle : w.heap.size < W.heap.size := K.1.2.2
      clear hW
      go_region_held3 (fun w' => Box44 w' w.heap.size w1.heap.size (.int .i64 h) (.int .i64 m) (.int .i64 s) (.int .i64 f) (.int .i64 (stH r (undrop r (addX r a b c d k)))) (.int .i64 (stM r (undrop r (addX r a b c d k)))) (.int .i64 (stS r (undrop r (addX r a b c d k)))) (.int .i64 (stF r (undrop r (addX r a b c d k))))) ((refine Box44.mono K ?_; (repeat (first | exact Gr.refl _ | assumption | refine Gr.alloc ?_ _ | refine Gr.drew ?_ | refine Gr.drewN ?_ _ | refine Gr.set ?_ (by first | exact Nat.le_refl _ | (simp; done) | omega) _ | refine Gr.trans ?_ (by assumption))); done)) (first | (go_at_call 26; refine (Add_any _ _ _ _ _ _ _).mono ?_; rintro e w2 ⟨rfl, hb⟩; try have K9 := Box4.at (b := W.heap.size) hb (heap_last W _)))
      all_goals go_wp2
      all_goals go_ret
      all_goals exact ⟨rfl, (by repeat (first | exact Gr.refl _ | assumption | refine Gr.alloc ?_ _ | refine Gr.drew ?_ | refine Gr.drewN ?_ _ | refine Gr.set ?_ (by first | exact Nat.le_refl _ | (simp; done) | omega) _ | refine Gr.trans ?_ (by assumption)))⟩
    · have hk1 : (addF r a b c d k != 0) = true := by simpa using hk0
      clear hk0 e5
      have q1 : IntKind.i64.wrap (n + k.tmod (dayI r)) = n + k.tmod (dayI r) := wrap_in (by omega)
      go_enter Try.func8, Try.ntmps8
      go_wp2_with (first
        | (go_at_call 26; with_reducible refine (Add_any r h m s f n _).mono ?_; rintro e w1 ⟨rfl, hb⟩; have K := Box4.at (b := w.heap.size) hb (by repeat (first | exact heap_last _ _ | (refine heap_at _ _ _ ?_; (simp; done)) | (refine heap_old _ _ _ _ (by simp; try omega) ?_))))
        | (go_at_call 16; refine (Day_any _ _).mono ?_; rintro e w2 ⟨rfl, rfl⟩)
        | ((go_at_call 28; refine (Between_any _ _ _ _ _ _ _ _ _ _).mono ?_; rintro e w1 ⟨rfl, hb⟩); have K2 := Box4.at hb (heap_last _ _); have K := (K.mono ((Gr.refl _).alloc _)).mono hb)
        | (go_at_call 26; with_reducible refine (Add_any r a b c d (-n) _).mono ?_; rintro e w1 ⟨rfl, hb⟩; have K := K.mono hb; have K2 := K2.mono hb)
        | (go_at_call 26; with_reducible refine (Add_any r a b c d k _).mono ?_; rintro e w1 ⟨rfl, hb⟩; have K := (K.mono ((Gr.refl _).alloc _)).mono hb))
      generalize hW : w1.alloc (.cells #[.int .i64 (resI (addF r a b c d k) (stH r (undrop r (addX r a b c d k)))), .int .i64 (resI (addF r a b c d k) (stM r (undrop r (addX r a b c d k)))), .int .i64 (resI (addF r a b c d k) (stS r (undrop r (addX r a b c d k)))), .int .i64 (resI (addF r a b c d k) (stF r (undrop r (addX r a b c d k))))] 29) = W
      have K : Box44 W w.heap.size w1.heap.size (.int .i64 h) (.int .i64 m) (.int .i64 s) (.int .i64 f) (.int .i64 (resI (addF r a b c d k) (stH r (undrop r (addX r a b c d k))))) (.int .i64 (resI (addF r a b c d k) (stM r (undrop r (addX r a b c d k))))) (.int .i64 (resI (addF r a b c d k) (stS r (undrop r (addX r a b c d k))))) (.int .i64 (resI (addF r a b c d k) (stF r (undrop r (addX r a b c d k))))) := by
        subst hW; exact ⟨K.mono ((Gr.refl _).alloc _), Box4.of (by repeat (first | exact heap_last _ _ | (refine heap_at _ _ _ ?_; (simp; done)) | (refine heap_old _ _ _ _ (by simp; try omega) ?_)))⟩
      have hG : Gr w1 W := by subst hW; exact (by repeat (first | exact Gr.refl _ | assumption | refine Gr.alloc ?_ _ | refine Gr.drew ?_ | refine Gr.drewN ?_ _ | refine Gr.set ?_ (by first | exact Nat.le_refl _ | (simp; done) | omega) _ | refine Gr.trans ?_ (by assumption)))
      have hle : w.heap.size < W.heap.size := K.1.2.2
      clear hW
      go_region_held3 (fun w' => Box44 w' w.heap.size w1.heap.size (.int .i64 h) (.int .i64 m) (.int .i64 s) (.int .i64 f) (.int .i64 (resI (addF r a b c d k) (stH r (undrop r (addX r a b c d k))))) (.int .i64 (resI (addF r a b c d k) (stM r (undrop r (addX r a b c d k))))) (.int .i64 (resI (addF r a b c d k) (stS r (undrop r (addX r a b c d k))))) (.int .i64 (resI (addF r a b c d k) (stF r (undrop r (addX r a b c d k)))))) ((refine Box44.mono K ?_; (repeat (first | exact Gr.refl _ | assumption | refine Gr.alloc ?_ _ | refine Gr.drew ?_ | refine Gr.drewN ?_ _ | refine Gr.set ?_ (by first | exact Nat.le_refl _ | (simp; done) | omega) _ | refine Gr.trans ?_ (by assumption))); done)) (first | (go_at_call 26; refine (Add_any _ _ _ _ _ _ _).mono ?_; rintro e w2 ⟨rfl, hb⟩; try have K9 := Box4.at (b := W.heap.size) hb (heap_last W _)))
      all_goals go_wp2
      all_goals go_ret
      all_goals exact ⟨rfl, (by repeat (first | exact Gr.refl _ | assumption | refine Gr.alloc ?_ _ | refine Gr.drew ?_ | refine Gr.drewN ?_ _ | refine Gr.set ?_ (by first | exact Nat.le_refl _ | (simp; done) | omega) _ | refine Gr.trans ?_ (by assumption)))⟩
  · have hb' : (addF r h m s f n != 0) = true := by simpa using hF
    clear hF
    go_enter Try.func8, Try.ntmps8
    go_wp2_with (go_at_call 26; refine (Add_any _ _ _ _ _ _ _).mono ?_; rintro e w1 ⟨rfl, hb⟩)
    go_ret
    exact ⟨rfl, (by repeat (first | exact Gr.refl _ | assumption | refine Gr.alloc ?_ _ | refine Gr.drew ?_ | refine Gr.drewN ?_ _ | refine Gr.set ?_ (by first | exact Nat.le_refl _ | (simp; done) | omega) _ | refine Gr.trans ?_ (by assumption)))⟩
end Go.Proofs.Ytgjclbkcnilkbaa
