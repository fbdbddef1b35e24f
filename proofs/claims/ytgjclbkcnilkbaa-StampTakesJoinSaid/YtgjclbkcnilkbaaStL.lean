/- The contracts of the reference's Hear, and of Where and Take of both. -/
import Derived.Test.YtgjclbkcnilkbaaStK
namespace Go.Proofs.Ytgjclbkcnilkbaa
open Go.RowKit
set_option linter.unusedVariables false
set_option linter.unusedSimpArgs false

theorem results_tmp4 {fn : Func} {t u v x : Tmp} (h : fn.results = #[.tmp t, .tmp u, .tmp v, .tmp x]) (tmps : Array Value) (P : Program) (w : World) :
    (results fn tmps).run P w = .ok (.tuple #[tmps.getD t undef, tmps.getD u undef, tmps.getD v undef, tmps.getD x undef]) w := by simp [results, h]
/-- What a follower's numbers are. -/
def okFol (R F J last stamp time : Int) : Prop := rateB R = true ∧ (0 ≤ F ∧ F ≤ 1000) ∧ (1 ≤ J ∧ J ≤ 1000) ∧ (0 ≤ last ∧ last ≤ 36000000) ∧ (0 ≤ stamp ∧ stamp < dayI R) ∧ (0 ≤ time ∧ time ≤ last)

set_option maxHeartbeats 1000000 in
theorem Hear8_no (b : Nat) (R F J last stamp time at1 t h m s f : Int) (heard : Bool) (w : World) (hF : hearF last t R h m s f ≠ 0) (K : Box8 w b (.int .i64 R) (.int .i64 F) (.int .i64 J) (.bool heard) (.int .i64 stamp) (.int .i64 time) (.int .i64 last) (.int .i64 at1)) :
    Calls Try.prog 34 #[.pointer (some ⟨b, 0, none⟩), .agg #[.int .i64 h, .int .i64 m, .int .i64 s, .int .i64 f], .int .i64 t] w fun e w' => e = .returned (.int .i64 (hearF last t R h m s f)) ∧ Gr w w' := by
  have hlt := K.2.2
  by_cases h0 : whenF last t = 0
  · rw [hearF, if_pos h0] at hF ⊢
    have hb' : (chkF R h m s f != 0) = true := by simpa using hF
    clear hF
    have hG : Gr w (w.alloc (.cells #[.int .i64 h, .int .i64 m, .int .i64 s, .int .i64 f] 29)) := (by repeat (first | exact Gr.refl _ | assumption | refine Gr.alloc ?_ _ | refine Gr.drew ?_ | refine Gr.drewN ?_ _ | (refine Gr.put ?_ ?_ _; first | exact Nat.le_refl _ | (simp; done) | omega) | (apply Gr.after; assumption)))
    have K := K.mono hG
    go_enter Try.func34, Try.ntmps34
    go_wp2_with (go_at_call 62; refine (begins8_any _ _ _ _ _ _ _ _ _ _ _ K).mono ?_; rintro e w' ⟨rfl, rfl⟩)
    obtain ⟨W, hW⟩ : ∃ W, W = w.alloc (.cells #[.int .i64 h, .int .i64 m, .int .i64 s, .int .i64 f] 29) := ⟨_, rfl⟩
    have KS : RS W b w.heap.size (.int .i64 R) (.int .i64 h) (.int .i64 m) (.int .i64 s) (.int .i64 f) := by subst hW; exact ⟨K.1.1, by simp [go_sem], by simp [go_sem], by simp [go_sem], by simp [go_sem]⟩
    rw [← hW] at hG ⊢
    clear hW K
    go_region_held3 (fun w' => RS w' b w.heap.size (.int .i64 R) (.int .i64 h) (.int .i64 m) (.int .i64 s) (.int .i64 f)) ((refine RS.mono KS ?_; (repeat (first | exact Gr.refl _ | assumption | refine Gr.alloc ?_ _ | refine Gr.drew ?_ | refine Gr.drewN ?_ _ | (refine Gr.put ?_ ?_ _; first | exact Nat.le_refl _ | (simp; done) | omega) | (apply Gr.after; assumption))); done)) (first | (go_at_call 21; refine (Check8_any _ _ _ _ _ _).mono ?_; rintro e w1 ⟨rfl, hb⟩))
    go_wp2
    go_ret
    exact ⟨rfl, (by repeat (first | exact Gr.refl _ | assumption | refine Gr.alloc ?_ _ | refine Gr.drew ?_ | refine Gr.drewN ?_ _ | (refine Gr.put ?_ ?_ _; first | exact Nat.le_refl _ | (simp; done) | omega) | (apply Gr.after; assumption)))⟩
  · rw [hearF, if_neg h0]
    have hb' : (whenF last t != 0) = true := by simpa using h0
    clear h0 hF
    have K := K.mono ((Gr.refl w).alloc (.cells #[.int .i64 h, .int .i64 m, .int .i64 s, .int .i64 f] 29))
    go_enter Try.func34, Try.ntmps34
    go_wp2_with (go_at_call 62; refine (begins8_any _ _ _ _ _ _ _ _ _ _ _ K).mono ?_; rintro e w' ⟨rfl, rfl⟩)
    go_ret
    exact ⟨rfl, (by repeat (first | exact Gr.refl _ | assumption | refine Gr.alloc ?_ _ | refine Gr.drew ?_ | refine Gr.drewN ?_ _ | (refine Gr.put ?_ ?_ _; first | exact Nat.le_refl _ | (simp; done) | omega) | (apply Gr.after; assumption)))⟩
set_option maxHeartbeats 1000000 in
theorem Hear8_ok (b : Nat) (R F J last stamp time at1 t h m s f : Int) (heard : Bool) (w : World) (hF : hearF last t R h m s f = 0) (K : Box8 w b (.int .i64 R) (.int .i64 F) (.int .i64 J) (.bool heard) (.int .i64 stamp) (.int .i64 time) (.int .i64 last) (.int .i64 at1)) :
    Calls Try.prog 34 #[.pointer (some ⟨b, 0, none⟩), .agg #[.int .i64 h, .int .i64 m, .int .i64 s, .int .i64 f], .int .i64 t] w fun e w' => e = .returned (.int .i64 0) ∧ Mo b w w' ∧ Box8 w' b (.int .i64 R) (.int .i64 F) (.int .i64 J) (.bool true) (.int .i64 (numI R h m s f)) (.int .i64 t) (.int .i64 t) (.int .i64 at1) := by
  have hlt := K.2.2
  have h0 : whenF last t = 0 := by
    by_cases h0 : whenF last t = 0
    · exact h0
    · rw [hearF, if_neg h0] at hF; exact hF
  rw [hearF, if_pos h0] at hF
  have ok := Lib.hid (okS_of hF)
  have hne : w.heap.size ≠ b := by omega
  have hG : Gr w (w.alloc (.cells #[.int .i64 h, .int .i64 m, .int .i64 s, .int .i64 f] 29)) := (by repeat (first | exact Gr.refl _ | assumption | refine Gr.alloc ?_ _ | refine Gr.drew ?_ | refine Gr.drewN ?_ _ | (refine Gr.put ?_ ?_ _; first | exact Nat.le_refl _ | (simp; done) | omega) | (apply Gr.after; assumption)))
  have K := K.mono hG
  go_enter Try.func34, Try.ntmps34
  go_wp2_with (go_at_call 62; refine (begins8_any _ _ _ _ _ _ _ _ _ _ _ K).mono ?_; rintro e w' ⟨rfl, rfl⟩)
  obtain ⟨W, hW⟩ : ∃ W, W = w.alloc (.cells #[.int .i64 h, .int .i64 m, .int .i64 s, .int .i64 f] 29) := ⟨_, rfl⟩
  have KS : RS W b w.heap.size (.int .i64 R) (.int .i64 h) (.int .i64 m) (.int .i64 s) (.int .i64 f) := by subst hW; exact ⟨K.1.1, by simp [go_sem], by simp [go_sem], by simp [go_sem], by simp [go_sem]⟩
  rw [← hW] at hG K ⊢
  clear hW
  go_region_held3 (fun w' => RS w' b w.heap.size (.int .i64 R) (.int .i64 h) (.int .i64 m) (.int .i64 s) (.int .i64 f)) ((refine RS.mono KS ?_; (repeat (first | exact Gr.refl _ | assumption | refine Gr.alloc ?_ _ | refine Gr.drew ?_ | refine Gr.drewN ?_ _ | (refine Gr.put ?_ ?_ _; first | exact Nat.le_refl _ | (simp; done) | omega) | (apply Gr.after; assumption))); done)) (first | ((go_at_call 21; refine (Check8_any _ _ _ _ _ _).mono ?_; rintro e w1 ⟨rfl, hb⟩); have K := (K.mono ((Gr.refl _).drew)).mono hb))
  rename_i hh
  clear KS
  have KS := hh
  clear hh
  have hG3 : Gr w w1 := (by repeat (first | exact Gr.refl _ | assumption | refine Gr.alloc ?_ _ | refine Gr.drew ?_ | refine Gr.drewN ?_ _ | (refine Gr.put ?_ ?_ _; first | exact Nat.le_refl _ | (simp; done) | omega) | (apply Gr.after; assumption)))
  clear hb hG
  go_wp2
  go_region_held3 (fun w' => RS w' b w.heap.size (.int .i64 R) (.int .i64 h) (.int .i64 m) (.int .i64 s) (.int .i64 f)) ((first | (refine RS.mono KS ?_; (repeat (first | exact Gr.refl _ | assumption | refine Gr.alloc ?_ _ | refine Gr.drew ?_ | refine Gr.drewN ?_ _ | (refine Gr.put ?_ ?_ _; first | exact Nat.le_refl _ | (simp; done) | omega) | (apply Gr.after; assumption))); done) | (refine RS.set ?_ hne ?_; assumption; decide))) (first | (go_at_call 56; refine (number8_any _ _ _ _ _ ok _).mono ?_; rintro e w3 ⟨rfl, hb⟩; have K := (K.mono ((Gr.refl _).drew)).mono hb))
  go_wp2
  go_ret
  exact ⟨rfl, Mo.set (Mo.set (Mo.set (Mo.set (Mo.of (by repeat (first | exact Gr.refl _ | assumption | refine Gr.alloc ?_ _ | refine Gr.drew ?_ | refine Gr.drewN ?_ _ | (refine Gr.put ?_ ?_ _; first | exact Nat.le_refl _ | (simp; done) | omega) | (apply Gr.after; assumption)))) _) _) _) _, K.set3.set4.set5.set6⟩

/-! ### Where -/
theorem Where9_no (b : Nat) (R F J last stamp time at0 t : Int) (heard kept : Bool) (w : World) (hF : whenF last t ≠ 0) (K : Box9 w b (.int .i64 R) (.int .i64 F) (.int .i64 J) (.int .i64 last) (.bool heard) (.int .i64 stamp) (.int .i64 time) (.bool kept) (.int .i64 at0)) :
    Calls Try.prog 35 #[.pointer (some ⟨b, 0, none⟩), .int .i64 t] w fun e w' => e = .returned (.tuple #[.int .i64 0, .int .i64 0, .int .i64 (whenF last t)]) ∧ Gr w w' := by
  have hb' : (whenF last t != 0) = true := by simpa using hF
  clear hF
  go_enter Try.func35, Try.ntmps35
  go_wp2_with (go_at_call 61; refine (when9_any _ _ _ _ _ _ _ _ _ _ _ _ K).mono ?_; rintro e w1 ⟨rfl, hb⟩)
  go_ret3
  exact ⟨rfl, (by repeat (first | exact Gr.refl _ | assumption | refine Gr.alloc ?_ _ | refine Gr.drew ?_ | refine Gr.drewN ?_ _ | (refine Gr.put ?_ ?_ _; first | exact Nat.le_refl _ | (simp; done) | omega) | (apply Gr.after; assumption)))⟩
theorem Where9_ok (b : Nat) (R F J last stamp time at0 t : Int) (heard kept : Bool) (w : World) (hF : whenF last t = 0) (ok : okFol R F J last stamp time) (K : Box9 w b (.int .i64 R) (.int .i64 F) (.int .i64 J) (.int .i64 last) (.bool heard) (.int .i64 stamp) (.int .i64 time) (.bool kept) (.int .i64 at0)) :
    Calls Try.prog 35 #[.pointer (some ⟨b, 0, none⟩), .int .i64 t] w fun e w' => e = .returned (.tuple #[.int .i64 (wP heard R F stamp time t), .int .i64 (wS heard R F stamp time t), .int .i64 0]) ∧ Mo b w w' ∧ Box9 w' b (.int .i64 R) (.int .i64 F) (.int .i64 J) (.int .i64 t) (.bool heard) (.int .i64 stamp) (.int .i64 time) (.bool kept) (.int .i64 at0) := by
  obtain ⟨hr, h1, h2, h3, h4, h5⟩ := ok
  have hw := whenF_zero hF
  have Hr := Lib.hid hr
  clear hr
  go_enter Try.func35, Try.ntmps35
  go_wp2_with (first | (go_at_call 61; refine (when9_any _ _ _ _ _ _ _ _ _ _ _ _ K).mono ?_; rintro e w1 ⟨rfl, hb⟩; have K := K.mono hb) | (go_at_call 63; refine (where9_any _ _ _ _ _ _ _ _ _ _ _ _ Hr.out h1 h4 ⟨by omega, by omega⟩ K.set3).mono ?_; rintro e w2 ⟨rfl, hb2⟩; have K := K.set3.mono hb2))
  go_ret3
  exact ⟨rfl, Mo.trans (Mo.trans (Mo.of hb) (Mo.set (Mo.of (Gr.refl _)) _)) (Mo.of hb2), K⟩
theorem Where8_no (b : Nat) (R F J last stamp time at1 t : Int) (heard : Bool) (w : World) (hF : whenF last t ≠ 0) (K : Box8 w b (.int .i64 R) (.int .i64 F) (.int .i64 J) (.bool heard) (.int .i64 stamp) (.int .i64 time) (.int .i64 last) (.int .i64 at1)) :
    Calls Try.prog 36 #[.pointer (some ⟨b, 0, none⟩), .int .i64 t] w fun e w' => e = .returned (.tuple #[.int .i64 0, .int .i64 0, .int .i64 (whenF last t)]) ∧ Gr w w' := by
  have hb' : (whenF last t != 0) = true := by simpa using hF
  clear hF
  go_enter Try.func36, Try.ntmps36
  go_wp2_with (go_at_call 62; refine (begins8_any _ _ _ _ _ _ _ _ _ _ _ K).mono ?_; rintro e w' ⟨rfl, rfl⟩)
  go_ret3
  exact ⟨rfl, (by repeat (first | exact Gr.refl _ | assumption | refine Gr.alloc ?_ _ | refine Gr.drew ?_ | refine Gr.drewN ?_ _ | (refine Gr.put ?_ ?_ _; first | exact Nat.le_refl _ | (simp; done) | omega) | (apply Gr.after; assumption)))⟩
theorem Where8_ok (b : Nat) (R F J last stamp time at1 t : Int) (heard : Bool) (w : World) (hF : whenF last t = 0) (ok : okFol R F J last stamp time) (K : Box8 w b (.int .i64 R) (.int .i64 F) (.int .i64 J) (.bool heard) (.int .i64 stamp) (.int .i64 time) (.int .i64 last) (.int .i64 at1)) :
    Calls Try.prog 36 #[.pointer (some ⟨b, 0, none⟩), .int .i64 t] w fun e w' => e = .returned (.tuple #[.int .i64 (wP heard R F stamp time t), .int .i64 (wS heard R F stamp time t), .int .i64 0]) ∧ Mo b w w' ∧ Box8 w' b (.int .i64 R) (.int .i64 F) (.int .i64 J) (.bool heard) (.int .i64 stamp) (.int .i64 time) (.int .i64 t) (.int .i64 at1) := by
  obtain ⟨hr, h1, h2, h3, h4, h5⟩ := ok
  have hw := whenF_zero hF
  have Hr := Lib.hid hr
  clear hr
  go_enter Try.func36, Try.ntmps36
  go_wp2_with (first | (go_at_call 62; refine (begins8_any _ _ _ _ _ _ _ _ _ _ _ K).mono ?_; rintro e w' ⟨rfl, rfl⟩) | (go_at_call 64; refine (where8_any _ _ _ _ _ _ _ _ _ _ _ Hr.out h1 h4 ⟨by omega, by omega⟩ K.set6).mono ?_; rintro e w2 ⟨rfl, hb2⟩; have K := K.set6.mono hb2))
  go_ret3
  exact ⟨rfl, Mo.trans (Mo.set (Mo.of (by repeat (first | exact Gr.refl _ | assumption | refine Gr.alloc ?_ _ | refine Gr.drew ?_ | refine Gr.drewN ?_ _ | (refine Gr.put ?_ ?_ _; first | exact Nat.le_refl _ | (simp; done) | omega) | (apply Gr.after; assumption)))) _) (Mo.of (by repeat (first | exact Gr.refl _ | assumption | refine Gr.alloc ?_ _ | refine Gr.drew ?_ | refine Gr.drewN ?_ _ | (refine Gr.put ?_ ?_ _; first | exact Nat.le_refl _ | (simp; done) | omega) | (apply Gr.after; assumption)))), K⟩

/-! ### Take -/
def takeF (last t : Int) (heard : Bool) : Int := if whenF last t = 0 then (if heard = true then 0 else 10) else whenF last t
theorem take_first (last t : Int) (heard : Bool) : firstL [whenF last t, whenI (!heard) 10] = takeF last t heard := by
  rw [firstL2, takeF]; cases heard <;> simp [whenI]
def tkG (R a p : Int) : Int := (p - a) % dayI R
def tkFrom (kept : Bool) (J g a p : Int) : Int := if kept = true ∧ g ≤ J then a else p
def tkTo (kept : Bool) (J g a p : Int) : Int := if kept = true ∧ g ≤ J then a + g else p
def tkJ (kept : Bool) (J g : Int) : Bool := kept && decide (J < g)
theorem wP_bd {R F stamp time t : Int} (hr : rateB R = true) (heard : Bool) : 0 ≤ wP heard R F stamp time t ∧ wP heard R F stamp time t < dayI R := by
  have hd := dayI_le hr
  unfold wP
  split
  · exact mod_bd hr _
  · omega
theorem Take9_no (b : Nat) (R F J last stamp time at0 t : Int) (heard kept : Bool) (w : World) (hF : takeF last t heard ≠ 0) (K : Box9 w b (.int .i64 R) (.int .i64 F) (.int .i64 J) (.int .i64 last) (.bool heard) (.int .i64 stamp) (.int .i64 time) (.bool kept) (.int .i64 at0)) :
    Calls Try.prog 37 #[.pointer (some ⟨b, 0, none⟩), .int .i64 t] w fun e w' => e = .returned (.tuple #[.int .i64 0, .int .i64 0, .bool false, .int .i64 (takeF last t heard)]) ∧ Gr w w' := by
  have Hfi := Lib.hid (take_first last t heard)
  have hb' : (takeF last t heard != 0) = true := by simpa using hF
  have KS := K
  clear hF
  go_enter Try.func37, Try.ntmps37
  go_wp2
  go_region_held3 (fun w' => Box9 w' b (.int .i64 R) (.int .i64 F) (.int .i64 J) (.int .i64 last) (.bool heard) (.int .i64 stamp) (.int .i64 time) (.bool kept) (.int .i64 at0)) ((refine Box9.mono KS ?_; (repeat (first | exact Gr.refl _ | assumption | refine Gr.alloc ?_ _ | refine Gr.drew ?_ | refine Gr.drewN ?_ _ | (refine Gr.put ?_ ?_ _; first | exact Nat.le_refl _ | (simp; done) | omega) | (apply Gr.after; assumption))); done)) (first | (go_at_call 61; refine (when9_any _ _ _ _ _ _ _ _ _ _ _ _ (by first | exact K | exact K.mono ((Gr.refl _).drew))).mono ?_; rintro e w1 ⟨rfl, hb⟩; first | have K := K.mono hb | have K := (K.mono ((Gr.refl _).drew)).mono hb) | (go_at_call 41; refine (when_any _ _ _).mono ?_; rintro e w' ⟨rfl, rfl⟩) | ((go_at_call 39; with_reducible refine (first2_any _ _ _ _ _ ?_).mono ?_; (focus (simp; done)); rintro e w' ⟨rfl, rfl⟩); rw [Hfi.out]) | ((go_at_call 39; with_reducible refine (first2d_any _ _ _ _ _ ?_).mono ?_; (focus (simp; done)); rintro e w' ⟨rfl, rfl⟩); rw [Hfi.out]))
  all_goals go_wp2
  all_goals refine bodyPost_ret (results_tmp4 rfl _ _ _) rfl ?_
  all_goals exact ⟨rfl, (by repeat (first | exact Gr.refl _ | assumption | refine Gr.alloc ?_ _ | refine Gr.drew ?_ | refine Gr.drewN ?_ _ | (refine Gr.put ?_ ?_ _; first | exact Nat.le_refl _ | (simp; done) | omega) | (apply Gr.after; assumption)))⟩
set_option maxHeartbeats 2000000 in
theorem Take9_ok (b : Nat) (R F J last stamp time at0 t : Int) (heard kept : Bool) (w : World) (hF : takeF last t heard = 0) (ok : okFol R F J last stamp time) (ha : 0 ≤ at0 ∧ at0 < dayI R) (K : Box9 w b (.int .i64 R) (.int .i64 F) (.int .i64 J) (.int .i64 last) (.bool heard) (.int .i64 stamp) (.int .i64 time) (.bool kept) (.int .i64 at0)) :
    Calls Try.prog 37 #[.pointer (some ⟨b, 0, none⟩), .int .i64 t] w fun e w' => e = .returned (.tuple #[.int .i64 (tkFrom kept J (tkG R at0 (wP true R F stamp time t)) at0 (wP true R F stamp time t)), .int .i64 (tkTo kept J (tkG R at0 (wP true R F stamp time t)) at0 (wP true R F stamp time t)), .bool (tkJ kept J (tkG R at0 (wP true R F stamp time t))), .int .i64 0]) ∧ Mo b w w' ∧ Box9 w' b (.int .i64 R) (.int .i64 F) (.int .i64 J) (.int .i64 t) (.bool true) (.int .i64 stamp) (.int .i64 time) (.bool true) (.int .i64 (wP true R F stamp time t)) := by
  have Hfi := Lib.hid (take_first last t heard)
  have hw0 : whenF last t = 0 := by
    by_cases h0 : whenF last t = 0
    · exact h0
    · rw [takeF, if_neg h0] at hF; exact hF
  have hh : heard = true := by
    cases heard
    · simp [takeF, hw0] at hF
    · rfl
  subst hh
  rw [hF] at Hfi
  have Hfi : Hid (firstL [whenF last t, whenI false 10] = 0) := Lib.hid (show firstL [whenF last t, whenI false 10] = 0 from Hfi.out)
  obtain ⟨hr, h1, h2, h3, h4, h5⟩ := ok
  have hw := whenF_zero hw0
  have hd := dayI_le hr
  have hp := wP_bd (R := R) (F := F) (stamp := stamp) (time := time) (t := t) hr true
  have hgb := mod_bd hr (wP true R F stamp time t - at0)
  have Hr := Lib.hid hr
  have q1 : IntKind.i64.wrap (wP true R F stamp time t - at0) = wP true R F stamp time t - at0 := wrap_in (by omega)
  have q2 : IntKind.i64.wrap (at0 + (wP true R F stamp time t - at0) % dayI R) = at0 + (wP true R F stamp time t - at0) % dayI R := wrap_in (by omega)
  clear hF hw0 hr
  have KS := K
  cases kept
  · go_enter Try.func37, Try.ntmps37
    go_wp2
    go_region_held3 (fun w' => Box9 w' b (.int .i64 R) (.int .i64 F) (.int .i64 J) (.int .i64 last) (.bool true) (.int .i64 stamp) (.int .i64 time) (.bool false) (.int .i64 at0)) ((refine Box9.mono KS ?_; (repeat (first | exact Gr.refl _ | assumption | refine Gr.alloc ?_ _ | refine Gr.drew ?_ | refine Gr.drewN ?_ _ | (refine Gr.put ?_ ?_ _; first | exact Nat.le_refl _ | (simp; done) | omega) | (apply Gr.after; assumption))); done)) (first | (go_at_call 61; refine (when9_any _ _ _ _ _ _ _ _ _ _ _ _ (by first | exact K | exact K.mono ((Gr.refl _).drew))).mono ?_; rintro e w1 ⟨rfl, hb⟩; first | have K := K.mono hb | have K := (K.mono ((Gr.refl _).drew)).mono hb) | (go_at_call 41; refine (when_any _ _ _).mono ?_; rintro e w' ⟨rfl, rfl⟩) | ((go_at_call 39; with_reducible refine (first2_any _ _ _ _ _ ?_).mono ?_; (focus (simp; done)); rintro e w' ⟨rfl, rfl⟩); rw [Hfi.out]) | ((go_at_call 39; with_reducible refine (first2d_any _ _ _ _ _ ?_).mono ?_; (focus (simp; done)); rintro e w' ⟨rfl, rfl⟩); rw [Hfi.out]))
    rename_i hx
    clear KS
    have K := hx
    clear hx
    go_wp2_with (go_at_call 63; refine (where9_any _ _ _ _ _ _ _ _ _ _ _ _ Hr.out h1 h4 ⟨by omega, by omega⟩ K).mono ?_; rintro e w2 ⟨rfl, hb2⟩; have K := K.mono hb2)
    refine bodyPost_ret (results_tmp4 rfl _ _ _) rfl ?_
    exact ⟨rfl, Mo.set (Mo.set (Mo.set (Mo.of (by repeat (first | exact Gr.refl _ | assumption | refine Gr.alloc ?_ _ | refine Gr.drew ?_ | refine Gr.drewN ?_ _ | (refine Gr.put ?_ ?_ _; first | exact Nat.le_refl _ | (simp; done) | omega) | (apply Gr.after; assumption)))) _) _) _, K.set3.set7.set8⟩
  · by_cases hg : tkG R at0 (wP true R F stamp time t) ≤ J
    · have hfr : tkFrom true J (tkG R at0 (wP true R F stamp time t)) at0 (wP true R F stamp time t) = at0 := if_pos ⟨rfl, hg⟩
      have hto : tkTo true J (tkG R at0 (wP true R F stamp time t)) at0 (wP true R F stamp time t) = at0 + tkG R at0 (wP true R F stamp time t) := if_pos ⟨rfl, hg⟩
      have hj : tkJ true J (tkG R at0 (wP true R F stamp time t)) = false := by simp [tkJ]; omega
      rw [hfr, hto, hj]
      unfold tkG at hg ⊢
      clear hfr hto hj
      go_enter Try.func37, Try.ntmps37
      go_wp2
      go_region_held3 (fun w' => Box9 w' b (.int .i64 R) (.int .i64 F) (.int .i64 J) (.int .i64 last) (.bool true) (.int .i64 stamp) (.int .i64 time) (.bool true) (.int .i64 at0)) ((refine Box9.mono KS ?_; (repeat (first | exact Gr.refl _ | assumption | refine Gr.alloc ?_ _ | refine Gr.drew ?_ | refine Gr.drewN ?_ _ | (refine Gr.put ?_ ?_ _; first | exact Nat.le_refl _ | (simp; done) | omega) | (apply Gr.after; assumption))); done)) (first | (go_at_call 61; refine (when9_any _ _ _ _ _ _ _ _ _ _ _ _ (by first | exact K | exact K.mono ((Gr.refl _).drew))).mono ?_; rintro e w1 ⟨rfl, hb⟩; first | have K := K.mono hb | have K := (K.mono ((Gr.refl _).drew)).mono hb) | (go_at_call 41; refine (when_any _ _ _).mono ?_; rintro e w' ⟨rfl, rfl⟩) | ((go_at_call 39; with_reducible refine (first2_any _ _ _ _ _ ?_).mono ?_; (focus (simp; done)); rintro e w' ⟨rfl, rfl⟩); rw [Hfi.out]) | ((go_at_call 39; with_reducible refine (first2d_any _ _ _ _ _ ?_).mono ?_; (focus (simp; done)); rintro e w' ⟨rfl, rfl⟩); rw [Hfi.out]))
      rename_i hx
      clear KS
      have K := hx
      clear hx
      go_wp2_with (go_at_call 63; refine (where9_any _ _ _ _ _ _ _ _ _ _ _ _ Hr.out h1 h4 ⟨by omega, by omega⟩ K).mono ?_; rintro e w2 ⟨rfl, hb2⟩; have K := K.mono hb2)
      have KS := K
      go_region_held3 (fun w' => Box9 w' b (.int .i64 R) (.int .i64 F) (.int .i64 J) (.int .i64 last) (.bool true) (.int .i64 stamp) (.int .i64 time) (.bool true) (.int .i64 at0)) ((refine Box9.mono KS ?_; (repeat (first | exact Gr.refl _ | assumption | refine Gr.alloc ?_ _ | refine Gr.drew ?_ | refine Gr.drewN ?_ _ | (refine Gr.put ?_ ?_ _; first | exact Nat.le_refl _ | (simp; done) | omega) | (apply Gr.after; assumption))); done)) (first | (go_at_call 58; refine (around_any _ _ Hr.out (by omega) (by omega) _).mono ?_; rintro e w' ⟨rfl, rfl⟩))
      clear KS
      go_wp2
      go_quiet (fail)
      go_wp2
      refine bodyPost_ret (results_tmp4 rfl _ _ _) rfl ?_
      exact ⟨rfl, Mo.set (Mo.set (Mo.set (Mo.of (by repeat (first | exact Gr.refl _ | assumption | refine Gr.alloc ?_ _ | refine Gr.drew ?_ | refine Gr.drewN ?_ _ | (refine Gr.put ?_ ?_ _; first | exact Nat.le_refl _ | (simp; done) | omega) | (apply Gr.after; assumption)))) _) _) _, (K.mono (by repeat (first | exact Gr.refl _ | assumption | refine Gr.alloc ?_ _ | refine Gr.drew ?_ | refine Gr.drewN ?_ _ | (refine Gr.put ?_ ?_ _; first | exact Nat.le_refl _ | (simp; done) | omega) | (apply Gr.after; assumption)))).set3.set7.set8⟩
    · have hfr : tkFrom true J (tkG R at0 (wP true R F stamp time t)) at0 (wP true R F stamp time t) = wP true R F stamp time t := if_neg (fun h => hg h.2)
      have hto : tkTo true J (tkG R at0 (wP true R F stamp time t)) at0 (wP true R F stamp time t) = wP true R F stamp time t := if_neg (fun h => hg h.2)
      have hj : tkJ true J (tkG R at0 (wP true R F stamp time t)) = true := by simp [tkJ]; omega
      rw [hfr, hto, hj]
      unfold tkG at hg
      clear hfr hto hj
      go_enter Try.func37, Try.ntmps37
      go_wp2
      go_region_held3 (fun w' => Box9 w' b (.int .i64 R) (.int .i64 F) (.int .i64 J) (.int .i64 last) (.bool true) (.int .i64 stamp) (.int .i64 time) (.bool true) (.int .i64 at0)) ((refine Box9.mono KS ?_; (repeat (first | exact Gr.refl _ | assumption | refine Gr.alloc ?_ _ | refine Gr.drew ?_ | refine Gr.drewN ?_ _ | (refine Gr.put ?_ ?_ _; first | exact Nat.le_refl _ | (simp; done) | omega) | (apply Gr.after; assumption))); done)) (first | (go_at_call 61; refine (when9_any _ _ _ _ _ _ _ _ _ _ _ _ (by first | exact K | exact K.mono ((Gr.refl _).drew))).mono ?_; rintro e w1 ⟨rfl, hb⟩; first | have K := K.mono hb | have K := (K.mono ((Gr.refl _).drew)).mono hb) | (go_at_call 41; refine (when_any _ _ _).mono ?_; rintro e w' ⟨rfl, rfl⟩) | ((go_at_call 39; with_reducible refine (first2_any _ _ _ _ _ ?_).mono ?_; (focus (simp; done)); rintro e w' ⟨rfl, rfl⟩); rw [Hfi.out]) | ((go_at_call 39; with_reducible refine (first2d_any _ _ _ _ _ ?_).mono ?_; (focus (simp; done)); rintro e w' ⟨rfl, rfl⟩); rw [Hfi.out]))
      rename_i hx
      clear KS
      have K := hx
      clear hx
      go_wp2_with (go_at_call 63; refine (where9_any _ _ _ _ _ _ _ _ _ _ _ _ Hr.out h1 h4 ⟨by omega, by omega⟩ K).mono ?_; rintro e w2 ⟨rfl, hb2⟩; have K := K.mono hb2)
      have KS := K
      go_region_held3 (fun w' => Box9 w' b (.int .i64 R) (.int .i64 F) (.int .i64 J) (.int .i64 last) (.bool true) (.int .i64 stamp) (.int .i64 time) (.bool true) (.int .i64 at0)) ((refine Box9.mono KS ?_; (repeat (first | exact Gr.refl _ | assumption | refine Gr.alloc ?_ _ | refine Gr.drew ?_ | refine Gr.drewN ?_ _ | (refine Gr.put ?_ ?_ _; first | exact Nat.le_refl _ | (simp; done) | omega) | (apply Gr.after; assumption))); done)) (first | (go_at_call 58; refine (around_any _ _ Hr.out (by omega) (by omega) _).mono ?_; rintro e w' ⟨rfl, rfl⟩))
      clear KS
      go_wp2
      refine bodyPost_ret (results_tmp4 rfl _ _ _) rfl ?_
      exact ⟨rfl, Mo.trans (Mo.set (Mo.set (Mo.set (Mo.of (by repeat (first | exact Gr.refl _ | assumption | refine Gr.alloc ?_ _ | refine Gr.drew ?_ | refine Gr.drewN ?_ _ | (refine Gr.put ?_ ?_ _; first | exact Nat.le_refl _ | (simp; done) | omega) | (apply Gr.after; assumption)))) _) _) _) (Mo.of ((Gr.refl _).drew)), K.set3.set7.set8.mono ((Gr.refl _).drew)⟩
end Go.Proofs.Ytgjclbkcnilkbaa
