/- Package level: levels, mix, Spread where all is right; and the reference's Spread. -/
import Derived.Test.YtjhdogdaldlkhaaFrD
import Derived.Test.YtjhdogdaldlkhaaPkA
import Derived.StillTailTactics
namespace Go.Proofs.Ytjhdogdaldlkhaa
open Go.RowKit
set_option linter.unusedVariables false
set_option linter.unusedSimpArgs false

abbrev Cell2 (w : World) (b o p : Nat) (x y : Value) : Prop := w.cell? ⟨b, o, none⟩ = some x ∧ w.cell? ⟨b, p, none⟩ = some y
theorem Cell2.mono {w w' : World} {b o p : Nat} {x y : Value} (h : Cell2 w b o p x y) (g : Gr w w') : Cell2 w' b o p x y := ⟨g.cell h.1, g.cell h.2⟩
theorem isLevelL_any (n : Int) (w : World) :
    Calls Try.prog 121 #[.int .i64 n] w fun e w' => e = .returned (.bool (withinB n 0 65535)) ∧ w = w' := by
  go_enter Try.func121, Try.ntmps121
  go_wp2_with (go_at_call 46; refine (within_any _ _ _ _).mono ?_; rintro e w' ⟨rfl, rfl⟩)
  go_ret
  exact ⟨rfl, rfl⟩
theorem levels_ok (l : List Int) (v : Value) (w : World) (hl : (sliceC intC).is w [v] l) (hv : ∀ x ∈ l, withinB x 0 65535 = true) :
    Calls Try.prog 82 #[v] w fun e w' => e = .returned (.int .i64 0) ∧ w = w' := by
  obtain ⟨a, n, cap, rfl, HN, hn, hcap⟩ := sliceC_open hl
  have HL := Lib.hid hl; have HV := Lib.hid hv; clear hl hv
  go_enter Try.func82, Try.ntmps82
  go_wp2
  go_loop [7] (fun i => ∃ k : Nat, k ≤ n ∧ i = .int .i64 k) (fun i => n - (intOf i).toNat)
  case atStart => exact ⟨0, Nat.zero_le _, rfl⟩
  case round =>
    obtain ⟨k, hk, rfl⟩ := hrel
    by_cases hlt : k < n
    · have hkl : k < l.length := by have := HN.out; omega
      obtain ⟨b, off, rfl, c0, -⟩ := sliceC_int HL.out hkl
      have hx := HV.out l[k] (List.getElem_mem hkl)
      generalize l[k] = x at *
      go_wp2_with (go_at_call 121; refine (isLevelL_any _ _).mono ?_; rintro e w' ⟨rfl, rfl⟩)
      go_round
      case rel => exact ⟨k + 1, by omega, by go_num⟩
      case measure => simp [intOf]; omega
    · go_wp2
      go_ret
      exact ⟨rfl, rfl⟩
theorem mix_any (a b p v : Int) (w : World) (ha : 0 ≤ a ∧ a ≤ 65535) (hb : 0 ≤ b ∧ b ≤ 65535) (hp : 0 ≤ p ∧ p ≤ v) (hv : 0 < v ∧ v ≤ 36000000) :
    Calls Try.prog 83 #[.int .i64 a, .int .i64 b, .int .i64 p, .int .i64 v] w fun e w' => e = .returned (.int .i64 (roundI (a * v + (b - a) * p) v)) ∧ w = w' := by
  have h1 : 0 ≤ a * v := Int.mul_nonneg (by omega) (by omega)
  have h2 : a * v ≤ 65535 * 36000000 := Int.mul_le_mul (by omega) (by omega) (by omega) (by omega)
  have h3 : -(65535 * 36000000) ≤ (b - a) * p := by
    have : -65535 * p ≤ (b - a) * p := Int.mul_le_mul_of_nonneg_right (by omega) (by omega)
    omega
  have h4 : (b - a) * p ≤ 65535 * 36000000 := by
    have : (b - a) * p ≤ 65535 * p := Int.mul_le_mul_of_nonneg_right (by omega) (by omega)
    omega
  go_enter Try.func83, Try.ntmps83
  go_wp2_with (go_at_call 122; refine (round_any _ _ (by omega) (by omega) (by omega) (by omega) _).mono ?_; rintro e w' ⟨rfl, rfl⟩)
  go_ret
  exact ⟨rfl, rfl⟩
/-- The i-th of n levels along corners. -/
def sprAt (l : List Int) (n i : Nat) : Int :=
  if n = 1 then l.getD 0 0 else roundI (l.getD (i * (l.length - 1) / (n - 1)) 0 * ((n - 1 : Nat) : Int) + (l.getD (i * (l.length - 1) / (n - 1) + 1) 0 - l.getD (i * (l.length - 1) / (n - 1)) 0) * ((i * (l.length - 1) % (n - 1) : Nat) : Int)) ((n - 1 : Nat) : Int)
theorem roundI_bd (n d B : Int) (hd : 0 < d) (h1 : 0 ≤ n) (h2 : n ≤ B * d) : 0 ≤ roundI n d ∧ roundI n d ≤ B := by
  unfold roundI
  constructor
  · exact Int.ediv_nonneg (by omega) (by omega)
  · have : (2 * n + d) / (2 * d) < B + 1 := Int.ediv_lt_of_lt_mul (by omega) (by rw [show (B + 1) * (2 * d) = 2 * (B * d) + 2 * d by grind]; omega)
    omega
theorem mixI_bd (a b p v : Int) (ha : 0 ≤ a ∧ a ≤ 65535) (hb : 0 ≤ b ∧ b ≤ 65535) (hp : 0 ≤ p ∧ p ≤ v) (hv : 0 < v) : 0 ≤ roundI (a * v + (b - a) * p) v ∧ roundI (a * v + (b - a) * p) v ≤ 65535 := by
  have h1 : 0 ≤ a * (v - p) := Int.mul_nonneg (by omega) (by omega)
  have h2 : 0 ≤ b * p := Int.mul_nonneg (by omega) (by omega)
  have h3 : a * (v - p) ≤ 65535 * (v - p) := Int.mul_le_mul_of_nonneg_right (by omega) (by omega)
  have h4 : b * p ≤ 65535 * p := Int.mul_le_mul_of_nonneg_right (by omega) (by omega)
  have e : a * v + (b - a) * p = a * (v - p) + b * p := by grind
  rw [e]
  exact roundI_bd _ v 65535 hv (by omega) (by omega)
theorem roundI_whole (x m : Int) (hm : 0 < m) : roundI (x * m) m = x := by
  unfold roundI
  rw [show 2 * (x * m) + m = m + x * (2 * m) by grind, Int.add_mul_ediv_right _ _ (by omega), Int.ediv_eq_zero_of_lt (by omega) (by omega)]
  omega
def sprL (l : List Int) (n : Nat) : List Int := (List.range n).map (sprAt l n)
theorem sprL_take (l : List Int) (n k : Nat) (hk : k < n) : (sprL l n).take (k + 1) = (sprL l n).take k ++ [sprAt l n k] := by
  have h : k < (sprL l n).length := by simp [sprL]; exact hk
  rw [List.take_succ_eq_append_getElem h]; simp [sprL]
theorem sprL_len (l : List Int) (n : Nat) : (sprL l n).length = n := by simp [sprL]
/-- The call returns this slice of ints, in memory of its own, and no error. -/
def RetL0 (l : List Int) (w : World) (e : Ending) (w' : World) : Prop := ∃ v, e = .returned (.tuple #[v, .int .i64 0]) ∧ (sliceC intC).is w' [v] l ∧ Gr w w'
set_option maxHeartbeats 2000000 in
set_option maxRecDepth 100000 in
theorem Spread_ok (l : List Int) (n : Nat) (v : Value) (w : World) (hl : (sliceC intC).is w [v] l) (hv : ∀ x ∈ l, withinB x 0 65535 = true) (h0 : 0 < l.length) (h20 : l.length ≤ 2000) (hn : n ≤ 2000) :
    Calls Try.prog 47 #[v, .int .i64 n] w (RetL0 (sprL l n) w) := by
  obtain ⟨a, m, cap, rfl, HM, hm, hcap⟩ := sliceC_open hl
  have HL := Lib.hid hl; have HV := Lib.hid hv; clear hl hv
  have hm0 : 0 < m := by rw [HM.out]; exact h0
  have hm1 : m ≤ 2000 := by rw [HM.out]; exact h20
  clear h0 h20
  have hwn : withinB (n : Int) 0 2000 = true := by simp [withinB]; omega
  have hz : ((m : Int) == 0) = false := by simp; omega
  have hf : Hid (firstL [whenI false 2, 0, whenI false 8, whenI false 1] = 0) := Lib.hid (by decide)
  have hz2 : decide ((2000 : Int) < (m : Int)) = false := decide_eq_false (by omega)
  go_enter Try.func47, Try.ntmps47
  go_wp2_with (first
    | (go_at_call 46; refine (within_any _ _ _ _).mono ?_; rintro e w' ⟨rfl, rfl⟩)
    | (go_at_call 45; refine (when_any _ _ _).mono ?_; rintro e w' ⟨rfl, rfl⟩)
    | (go_at_call 82; (with_reducible refine (levels_ok l _ _ HL.out HV.out).mono ?_); rintro e w' ⟨rfl, rfl⟩)
    | (go_at_call 44; (with_reducible refine (firstA4 _ _ _ _ _ _ _ ?_).mono ?_); (focus (simp; done)); rintro e w' ⟨rfl, rfl⟩; rw [hf.out]))
  have g0 : Gr w (w.alloc (.cells #[.int .i64 (whenI false 2), .int .i64 0, .int .i64 (whenI false 8), .int .i64 (whenI false 1)] 27)) := (by repeat (first | exact Gr.refl _ | assumption | refine Gr.alloc ?_ _ | refine Gr.drew ?_ | refine Gr.drewN ?_ _ | (refine Gr.put ?_ ?_ _; first | exact Nat.le_refl _ | (simp; done) | omega) | (apply Gr.after; assumption)))
  generalize hW : w.alloc (.cells #[.int .i64 (whenI false 2), .int .i64 0, .int .i64 (whenI false 8), .int .i64 (whenI false 1)] 27) = W at *
  clear hW
  have hown : Own W W.heap.size 3 intC (.slice none 0 0) [] := Own.nil _ _ _ _
  go_loopw [7, 32] (fun v i wr => ∃ k : Nat, k ≤ n ∧ i = .int .i64 k ∧ Own wr W.heap.size 3 intC v ((sprL l n).take k) ∧ Gr W wr) (fun _ i _ => n - (intOf i).toNat)
  case atStart => exact ⟨0, Nat.zero_le _, rfl, hown, Gr.refl _⟩
  case round =>
    clear hown
    obtain ⟨k, hk, rfl, hown, hG⟩ := hrel
    obtain ⟨va, vn, vc, rfl, Hvn, h7, h8⟩ := hown.shape
    have hsz := hG.size
    by_cases hlt : k < n
    · have hll : ((sprL l n).take k).length ≤ 2000 := by rw [List.length_take, sprL_len]; omega
      have HT := Lib.hid (sprL_take l n k hlt)
      by_cases hn1 : n = 1
      · subst hn1
        obtain rfl : k = 0 := by omega
        obtain ⟨b, off, rfl, c0, ci⟩ := sliceC_int HL.out (k := 0) (by have := HM.out; omega)
        have HX : Hid (sprAt l 1 0 = l[0]'(by have := HM.out; omega)) := Lib.hid (by rw [sprAt, if_pos rfl, getD_of_lt])
        generalize l[0]'(by have := HM.out; omega) = x at *
        replace c0 := (g0.trans hG).cell c0
        rw [Nat.add_zero] at c0
        go_wp2_with (at_builtin; refine app_int _ rfl _ _ 31 rfl Try.underlying31 W.heap.size _ _ rfl (hown.alloc _) _ rfl _ _ (heap_last _ _) ci (by omega) (by simp; omega) ?_; intro v' w' hown' hgrow)
        go_ret2
        have e : sprL l 1 = (sprL l 1).take 0 ++ [x] := by rw [← HX.out, ← HT.out, List.take_of_length_le (by rw [sprL_len]; omega)]
        rw [← e] at hown'
        exact ⟨_, rfl, hown'.is, g0.trans (Own.gr (hown.alloc _) (hG.alloc _) (Nat.le_refl _) hgrow)⟩
      · have hn1' : ((n : Int) == 1) = false := by simp; omega
        have hm2000 : (k : Int) * ((m : Int) - 1) = ((k * (m - 1) : Nat) : Int) := by rw [Int.natCast_mul, Int.natCast_sub (by omega)]; rfl
        have hkm : k * (m - 1) ≤ (n - 1) * (m - 1) := Nat.mul_le_mul_right _ (by omega)
        have hkm2 : k * (m - 1) ≤ 2000 * 2000 := Nat.mul_le_mul (by omega) (by omega)
        have hK : k * (m - 1) / (n - 1) ≤ m - 1 := Nat.div_le_of_le_mul hkm
        have hR : k * (m - 1) % (n - 1) < n - 1 := Nat.mod_lt _ (by omega)
        have hDM := Nat.div_add_mod (k * (m - 1)) (n - 1)
        have HK2 : Hid (0 < k * (m - 1) % (n - 1) → k * (m - 1) / (n - 1) + 1 < m) := Lib.hid (fun h => by
          rcases Nat.lt_or_ge (k * (m - 1) / (n - 1)) (m - 1) with h1 | h1
          · omega
          · have : k * (m - 1) / (n - 1) = m - 1 := by omega
            rw [this] at hDM
            omega)
        have HAT : Hid (sprAt l n k = roundI (l.getD (k * (m - 1) / (n - 1)) 0 * ((n - 1 : Nat) : Int) + (l.getD (k * (m - 1) / (n - 1) + 1) 0 - l.getD (k * (m - 1) / (n - 1)) 0) * ((k * (m - 1) % (n - 1) : Nat) : Int)) ((n - 1 : Nat) : Int)) := Lib.hid (by rw [sprAt, if_neg hn1, HM.out])
        have htd : ((k * (m - 1) : Nat) : Int).tdiv ((n : Int) - 1) = ((k * (m - 1) / (n - 1) : Nat) : Int) := by
          rw [show ((n : Int) - 1) = ((n - 1 : Nat) : Int) by omega, Int.tdiv_eq_ediv_of_nonneg (by omega), Int.natCast_ediv]
        have htm : ((k * (m - 1) : Nat) : Int).tmod ((n : Int) - 1) = ((k * (m - 1) % (n - 1) : Nat) : Int) := by
          rw [show ((n : Int) - 1) = ((n - 1 : Nat) : Int) by omega, Int.tmod_eq_emod_of_nonneg (by omega), Int.natCast_emod]
        generalize k * (m - 1) / (n - 1) = K at *
        generalize k * (m - 1) % (n - 1) = R at *
        generalize k * (m - 1) = X at *
        clear hDM hkm
        have hw1 : IntKind.i64.wrap ((n : Int) - 1) = (n : Int) - 1 := wrap_in (by omega)
        have hw2 : IntKind.i64.wrap (K : Int) = (K : Int) := wrap_in (by omega)
        have hw3 : IntKind.i64.wrap (R : Int) = (R : Int) := wrap_in (by omega)
        have hne : ((n : Int) - 1 == 0) = false := by simp; omega
        go_wp2
        go_quiet (fail)
        by_cases hr0 : R = 0
        · subst hr0
          obtain ⟨b, off, rfl, c0, ci⟩ := sliceC_int HL.out (k := K) (by have := HM.out; omega)
          rw [getD_of_lt] at c0 ci
          replace c0 := (g0.trans hG).cell c0
          have HX : Hid (sprAt l n k = l.getD K 0) := Lib.hid (by rw [HAT.out]; simp only [Int.natCast_zero, Int.mul_zero, Int.add_zero]; exact roundI_whole _ _ (by omega))
          clear HAT
          generalize l.getD K 0 = x at *
          rw [HX.out] at HT
          go_wp2_with (at_builtin; refine app_int _ rfl _ _ 31 rfl Try.underlying31 W.heap.size _ _ rfl ((hown.mono (by repeat (first | exact Gr.refl _ | assumption | refine Gr.alloc ?_ _ | refine Gr.drew ?_ | refine Gr.drewN ?_ _ | (refine Gr.put ?_ ?_ _; first | exact Nat.le_refl _ | (simp; done) | omega) | (apply Gr.after; assumption))))) _ rfl _ _ (heap_last _ _) ci (by omega) (by simp; omega) ?_; intro v' w' hown' hgrow)
          go_roundw
          case rel => exact ⟨k + 1, by omega, by go_num, by rw [HT.out]; exact hown', Own.gr (hown.mono (by repeat (first | exact Gr.refl _ | assumption | refine Gr.alloc ?_ _ | refine Gr.drew ?_ | refine Gr.drewN ?_ _ | (refine Gr.put ?_ ?_ _; first | exact Nat.le_refl _ | (simp; done) | omega) | (apply Gr.after; assumption)))) (hG.trans (by repeat (first | exact Gr.refl _ | assumption | refine Gr.alloc ?_ _ | refine Gr.drew ?_ | refine Gr.drewN ?_ _ | (refine Gr.put ?_ ?_ _; first | exact Nat.le_refl _ | (simp; done) | omega) | (apply Gr.after; assumption)))) (Nat.le_refl _) hgrow⟩
          case measure => simp [intOf]; omega
        · have hr1 : ((R : Int) == 0) = false := by simp; omega
          have hKm := HK2.out (by omega)
          obtain ⟨b, off, rfl, c0, -⟩ := sliceC_int HL.out (k := K) (by have := HM.out; omega)
          obtain ⟨b', off', e', c1, -⟩ := sliceC_int HL.out (k := K + 1) (by have := HM.out; omega)
          injection e' with e'
          injection e' with e1 e2 e3
          subst e1; subst e2
          have v0 := HV.out _ (List.getElem_mem (show K < l.length by have := HM.out; omega))
          have v1 := HV.out _ (List.getElem_mem (show K + 1 < l.length by have := HM.out; omega))
          rw [getD_of_lt] at c0 c1 v0 v1
          have KC : Cell2 W b (off + K) (off + (K + 1)) (.int .i64 (l.getD K 0)) (.int .i64 (l.getD (K + 1) 0)) := ⟨g0.cell c0, g0.cell c1⟩
          clear c0 c1
          have v0' : 0 ≤ l.getD K 0 ∧ l.getD K 0 ≤ 65535 := by simpa [withinB] using v0
          have v1' : 0 ≤ l.getD (K + 1) 0 ∧ l.getD (K + 1) 0 ≤ 65535 := by simpa [withinB] using v1
          clear v0 v1
          generalize l.getD K 0 = x at *
          generalize l.getD (K + 1) 0 = y at *
          have hw4 : IntKind.i64.wrap ((K : Int) + 1) = (K : Int) + 1 := wrap_in (by omega)
          have hk0 : (0 : Int) ≤ (K : Int) + 1 := by omega
          have hk1 : ((K : Int) + 1).toNat = K + 1 := by omega
          have hk2 : (K : Int) + 1 < (m : Int) := by omega
          have hk3 : (K : Int) < (m : Int) := by omega
          go_wp2
          have hG3 : Gr W (wr.drewN nq) := hG.drewN _
          replace hown := hown.mono ((Gr.refl wr).drewN nq)
          generalize wr.drewN nq = W3 at *
          have hsz3 := hG3.size
          have hrx : inI (roundI (x * ((n : Int) - 1) + (y - x) * (R : Int)) ((n : Int) - 1)) := by
            have := mixI_bd x y R ((n : Int) - 1) v0' v1' (by omega) (by omega)
            unfold inI; omega
          go_region_held3 (fun w' => Cell2 w' b (off + K) (off + (K + 1)) (.int .i64 x) (.int .i64 y)) ((refine Cell2.mono KC ?_; (repeat (first | exact Gr.refl _ | assumption | refine Gr.alloc ?_ _ | refine Gr.drew ?_ | refine Gr.drewN ?_ _ | (refine Gr.put ?_ ?_ _; first | exact Nat.le_refl _ | (simp; done) | omega) | (apply Gr.after; assumption))); done)) (first
            | (go_at_call 83; (with_reducible refine (mix_any x y R ((n : Int) - 1) _ v0' v1' (by omega) (by omega)).mono ?_); rintro e w' ⟨rfl, rfl⟩)
            | (refine sapp_int _ rfl _ _ 31 rfl Try.underlying31 W.heap.size _ _ rfl (hown.mono (by repeat (first | exact Gr.refl _ | assumption | refine Gr.alloc ?_ _ | refine Gr.drew ?_ | refine Gr.drewN ?_ _ | (refine Gr.put ?_ ?_ _; first | exact Nat.le_refl _ | (simp; done) | omega) | (apply Gr.after; assumption)))) _ rfl _ _ (by exact heap_last _ _) hrx (by omega) (by simp; omega) ?_; intro v' w' hown' hgrow; have gA : Gr W w' := Own.gr (hown.mono (w' := _) (by repeat (first | exact Gr.refl _ | assumption | refine Gr.alloc ?_ _ | refine Gr.drew ?_ | refine Gr.drewN ?_ _ | (refine Gr.put ?_ ?_ _; first | exact Nat.le_refl _ | (simp; done) | omega) | (apply Gr.after; assumption)))) (by exact (by repeat (first | exact Gr.refl _ | assumption | refine Gr.alloc ?_ _ | refine Gr.drew ?_ | refine Gr.drewN ?_ _ | (refine Gr.put ?_ ?_ _; first | exact Nat.le_refl _ | (simp; done) | omega) | (apply Gr.after; assumption)))) (Nat.le_refl _) hgrow))
          all_goals
            have HX : Hid (sprAt l n k = roundI (x * ((n : Int) - 1) + (y - x) * (R : Int)) ((n : Int) - 1)) := Lib.hid (by rw [HAT.out, show ((n - 1 : Nat) : Int) = (n : Int) - 1 by omega])
            rw [HX.out] at HT
            go_wp2
            go_roundw
            case rel => exact ⟨k + 1, by omega, by go_num, by rw [HT.out]; exact hown', gA⟩
            case measure => simp [intOf]; omega
    · go_wp2
      go_ret2
      have e : (sprL l n).take k = sprL l n := List.take_of_length_le (by rw [sprL_len]; omega)
      rw [e] at hown
      exact ⟨_, rfl, hown.is, g0.trans hG⟩
end Go.Proofs.Ytjhdogdaldlkhaa
