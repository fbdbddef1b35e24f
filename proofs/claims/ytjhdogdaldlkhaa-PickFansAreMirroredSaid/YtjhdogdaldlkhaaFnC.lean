/- Fans: the levels, and their reference. -/
import Derived.Test.YtjhdogdaldlkhaaFnB
namespace Go.Proofs.Ytjhdogdaldlkhaa
open Go.RowKit
set_option linter.unusedVariables false
set_option linter.unusedSimpArgs false

theorem segs_le {n B N : Nat} (hB : 0 < B) (hn : n ≤ N) : (n + B - 1) / B ≤ N := by
  have : (n + B - 1) / B < N + 1 := by
    rw [Nat.div_lt_iff_lt_mul hB, Nat.add_mul, Nat.one_mul]
    have : N * 1 ≤ N * B := Nat.mul_le_mul_left _ hB
    omega
  omega
theorem seg_pos {n B : Nat} (hn : 0 < n) (hB : 0 < B) : 0 < (n + B - 1) / B := Nat.div_pos (by omega) hB
theorem segs_pos {n B G : Nat} (hn : 0 < n) (hB : 0 < B) (hG : 0 < G) : 0 < ((n + B - 1) / B + G - 1) / G := seg_pos (seg_pos hn hB) hG
/-- The level of the i-th of n units. -/
def fanAt (c : List Int) (B G n i : Nat) : Int :=
  (sprL c (((n + B - 1) / B + G - 1) / G)).getD (if i / B / (((n + B - 1) / B + G - 1) / G) % 2 = 1 then ((n + B - 1) / B + G - 1) / G - 1 - i / B % (((n + B - 1) / B + G - 1) / G) else i / B % (((n + B - 1) / B + G - 1) / G)) 0
def fanL (c : List Int) (B G n : Nat) : List Int := (List.range n).map (fanAt c B G n)
theorem fanL_len (c : List Int) (B G n : Nat) : (fanL c B G n).length = n := by simp [fanL]
theorem fanL_take (c : List Int) (B G n k : Nat) (hk : k < n) : (fanL c B G n).take (k + 1) = (fanL c B G n).take k ++ [fanAt c B G n k] := by
  have h : k < (fanL c B G n).length := by rw [fanL_len]; exact hk
  rw [List.take_succ_eq_append_getElem h]; simp [fanL]
/-- The call returns this slice of ints. -/
def RetL (l : List Int) (w : World) (e : Ending) (w' : World) : Prop := ∃ v, e = .returned v ∧ (sliceC intC).is w' [v] l ∧ Gr w w'
set_option maxHeartbeats 2000000 in
set_option maxRecDepth 100000 in
theorem levels4_ok (c : List Int) (B G n : Nat) (v : Value) (w : World) (hl : (sliceC intC).is w [v] c) (hv : ∀ x ∈ c, withinB x 0 65535 = true) (hc0 : 0 < c.length) (hc20 : c.length ≤ 20) (hB0 : 0 < B) (hB1 : B ≤ 9999) (hG0 : 0 < G) (hG1 : G ≤ 50) (hn : n ≤ 400) :
    Calls Try.prog 49 #[.agg #[v, .int .i64 B, .int .i64 G], .int .i64 n] w (RetL (fanL c B G n) w) := by
  obtain ⟨a, cn, cap, rfl, HCN, hcn, hcap⟩ := sliceC_open hl
  have HL := Lib.hid hl; have HV := Lib.hid hv; clear hl hv
  obtain ⟨m, HMM⟩ : ∃ m, Hid (m = (n + B - 1) / B) := ⟨_, Lib.hid rfl⟩
  obtain ⟨s, HS⟩ : ∃ s, Hid (s = (m + G - 1) / G) := ⟨_, Lib.hid rfl⟩
  have hm1 : ((n : Int) + (B : Int) - 1) / (B : Int) = (m : Int) := by rw [HMM.out, Int.natCast_ediv, Int.natCast_sub (by omega)]; rfl
  have hs1 : ((m : Int) + (G : Int) - 1) / (G : Int) = (s : Int) := by rw [HS.out, Int.natCast_ediv, Int.natCast_sub (by omega)]; rfl
  have hm400 : m ≤ 400 := by rw [HMM.out]; exact segs_le hB0 hn
  have hs400 : s ≤ 400 := by rw [HS.out]; exact segs_le hG0 hm400
  have g0 : Gr w (w.alloc (.cells #[.slice a cn cap, .int .i64 B, .int .i64 G] 33)) := (by repeat (first | exact Gr.refl _ | assumption | refine Gr.alloc ?_ _ | refine Gr.drew ?_ | refine Gr.drewN ?_ _ | (refine Gr.put ?_ ?_ _; first | exact Nat.le_refl _ | (simp; done) | omega) | (apply Gr.after; assumption)))
  have K : Box3 (w.alloc (.cells #[.slice a cn cap, .int .i64 B, .int .i64 G] 33)) w.heap.size (.slice a cn cap) (.int .i64 B) (.int .i64 G) := Box3.of (by repeat (first | exact heap_last _ _ | (refine heap_at _ _ _ ?_; (simp; done)) | (refine heap_old _ _ _ _ (by simp; try omega) ?_)))
  have HW := Lib.hid ((sliceC intC).mono HL.out g0)
  go_enter Try.func49, Try.ntmps49
  go_wp2_with (first
    | (go_at_call 84; (with_reducible refine (Spread1_ok c s _ _ HW.out HV.out hc0 (by omega) (by omega)).mono ?_); rintro e w1 ⟨v1, rfl, h1, hb1⟩; obtain ⟨sa, sn, scap, rfl, HSN, hsn, hscap⟩ := sliceC_open h1; have H1 := Lib.hid h1; clear h1; replace K := K.mono hb1))
  have hown : Own w1 w1.heap.size 3 intC (.slice none 0 0) [] := Own.nil _ _ _ _
  have hsn' : sn = s := by rw [HSN.out, sprL_len]
  subst hsn'
  go_loopw [9, 37] (fun v i wr => ∃ k : Nat, k ≤ n ∧ i = .int .i64 k ∧ Own wr w1.heap.size 3 intC v ((fanL c B G n).take k) ∧ Gr w1 wr) (fun _ i _ => n - (intOf i).toNat)
  case atStart => exact ⟨0, Nat.zero_le _, rfl, hown, Gr.refl _⟩
  case round =>
    clear hown
    obtain ⟨k, hk, rfl, hown, hG⟩ := hrel
    obtain ⟨va, vn, vc, rfl, Hvn, h7, h8⟩ := hown.shape
    have hsz := hG.size
    replace K := K.mono hG
    by_cases hlt : k < n
    · have hll : ((fanL c B G n).take k).length ≤ 400 := by rw [List.length_take, fanL_len]; omega
      have HT := Lib.hid (fanL_take c B G n k hlt)
      have hs0 : 0 < sn := by rw [HS.out, HMM.out]; exact segs_pos (by omega) hB0 hG0
      have HAT : Hid (fanAt c B G n k = (sprL c sn).getD (if k / B / sn % 2 = 1 then sn - 1 - k / B % sn else k / B % sn) 0) := Lib.hid (by rw [fanAt, ← HMM.out, ← HS.out])
      have hQ : k / B % sn < sn := Nat.mod_lt _ hs0
      have hj : (k : Int) / (B : Int) = ((k / B : Nat) : Int) := (Int.natCast_ediv k B).symm
      have hj2 : ((k / B : Nat) : Int) % (sn : Int) = ((k / B % sn : Nat) : Int) := (Int.natCast_emod _ _).symm
      have hj3 : ((k / B : Nat) : Int) / (sn : Int) = ((k / B / sn : Nat) : Int) := (Int.natCast_ediv _ _).symm
      have hj2t : ((k / B : Nat) : Int).tmod (sn : Int) = ((k / B % sn : Nat) : Int) := by rw [Int.tmod_eq_emod_of_nonneg (Int.natCast_nonneg _)]; exact hj2
      have hJ : k / B ≤ k := Nat.div_le_self _ _
      have hJ2 : k / B / sn ≤ k / B := Nat.div_le_self _ _
      generalize k / B % sn = Q at *
      generalize k / B / sn = P at *
      generalize k / B = J at *
      by_cases hp : P % 2 = 1
      · have hpa : ((P : Int) % 2 == 1) = true := by simp; omega
        have hpb : ((P : Int).tmod 2 == 1) = true := by rw [Int.tmod_eq_emod_of_nonneg (Int.natCast_nonneg _)]; exact hpa
        rw [if_pos hp] at HAT
        obtain ⟨b', off', rfl, c0, ci⟩ := sliceC_int H1.out (k := sn - 1 - Q) (by rw [sprL_len]; omega)
        rw [getD_of_lt, ← HAT.out] at c0 ci
        replace c0 := hG.cell c0
        have hi1 : (sn : Int) - 1 - (Q : Int) = ((sn - 1 - Q : Nat) : Int) := by omega
        have hi2 : sn - 1 - Q < sn := by omega
        clear hp HAT
        generalize fanAt c B G n k = x at *
        generalize sn - 1 - Q = idx at *
        go_wp2_with (at_builtin; refine app_int _ rfl _ _ 31 rfl Try.underlying31 w1.heap.size _ _ rfl (hown.alloc _) _ rfl _ _ (heap_last _ _) ci (by omega) (by simp; omega) ?_; intro v' w' hown' hgrow)
        go_roundw
        case rel => exact ⟨k + 1, by omega, by go_num, by rw [HT.out]; exact hown', Own.gr (hown.alloc _) (hG.alloc _) (Nat.le_refl _) hgrow⟩
        case measure => simp [intOf]; omega
      · have hpa : ((P : Int) % 2 == 1) = false := by simp; omega
        have hpb : ((P : Int).tmod 2 == 1) = false := by rw [Int.tmod_eq_emod_of_nonneg (Int.natCast_nonneg _)]; exact hpa
        rw [if_neg hp] at HAT
        obtain ⟨b', off', rfl, c0, ci⟩ := sliceC_int H1.out (k := Q) (by rw [sprL_len]; omega)
        rw [getD_of_lt, ← HAT.out] at c0 ci
        replace c0 := hG.cell c0
        clear hp HAT
        generalize fanAt c B G n k = x at *
        go_wp2_with (at_builtin; refine app_int _ rfl _ _ 31 rfl Try.underlying31 w1.heap.size _ _ rfl (hown.alloc _) _ rfl _ _ (heap_last _ _) ci (by omega) (by simp; omega) ?_; intro v' w' hown' hgrow)
        go_roundw
        case rel => exact ⟨k + 1, by omega, by go_num, by rw [HT.out]; exact hown', Own.gr (hown.alloc _) (hG.alloc _) (Nat.le_refl _) hgrow⟩
        case measure => simp [intOf]; omega
    · go_wp2
      go_ret
      have e : (fanL c B G n).take k = fanL c B G n := List.take_of_length_le (by rw [fanL_len]; omega)
      rw [e] at hown
      exact ⟨_, rfl, hown.is, (g0.trans hb1).trans hG⟩
theorem fanF_ok {c : List Int} {b g : Int} (h : fanF c b g = 0) : 0 < c.length ∧ c.length ≤ 20 ∧ (∀ x ∈ c, withinB x 0 65535 = true) ∧ (1 ≤ b ∧ b ≤ 9999) ∧ (1 ≤ g ∧ g ≤ 50) := by
  unfold fanF at h
  split at h
  · cases h
  split at h
  · cases h
  split at h
  · cases h
  split at h
  · cases h
  rename_i h1 h2 h3 h4
  refine ⟨by omega, by omega, fun x hx => ?_, ?_, ?_⟩
  · rw [Bool.eq_false_iff.2 h3 |> fun e => show withinB x 0 65535 = true by
      have := List.any_eq_false.1 e x hx
      simpa [badLv] using this]
  · have : withinB b 1 9999 = true := by
      cases hb : withinB b 1 9999
      · exact absurd (.inl hb) h4
      · rfl
    simpa [withinB] using this
  · have : withinB g 1 50 = true := by
      cases hb : withinB g 1 50
      · exact absurd (.inr hb) h4
      · rfl
    simpa [withinB] using this
theorem whenI_not_true (n : Int) : whenI (!true) n = 0 := rfl
set_option maxHeartbeats 1000000 in
theorem Levels4_ok (c : List Int) (b g n : Int) (v : Value) (w : World) (hl : (sliceC intC).is w [v] c) (hf : fanF c b g = 0) (hn : withinB n 0 400 = true) :
    Calls Try.prog 14 #[.agg #[v, .int .i64 b, .int .i64 g], .int .i64 n] w (RetL0 (fanL c b.toNat g.toNat n.toNat) w) := by
  obtain ⟨h1, h2, h3, h4, h5⟩ := fanF_ok hf
  have hn' : 0 ≤ n ∧ n ≤ 400 := by simpa [withinB] using hn
  obtain ⟨B, rfl⟩ : ∃ B : Nat, b = B := ⟨b.toNat, by omega⟩
  obtain ⟨G, rfl⟩ : ∃ B : Nat, g = B := ⟨g.toNat, by omega⟩
  obtain ⟨N, rfl⟩ : ∃ B : Nat, n = B := ⟨n.toNat, by omega⟩
  simp only [Int.toNat_natCast]
  obtain ⟨a, cn, cap, rfl, HCN, hcn, hcap⟩ := sliceC_open hl
  have HL := Lib.hid hl; have HV := Lib.hid h3; have HF := Lib.hid hf; clear hl h3 hf
  have g0 : Gr w (w.alloc (.cells #[.slice a cn cap, .int .i64 B, .int .i64 G] 33)) := (by repeat (first | exact Gr.refl _ | assumption | refine Gr.alloc ?_ _ | refine Gr.drew ?_ | refine Gr.drewN ?_ _ | (refine Gr.put ?_ ?_ _; first | exact Nat.le_refl _ | (simp; done) | omega) | (apply Gr.after; assumption)))
  have K : Box3 (w.alloc (.cells #[.slice a cn cap, .int .i64 B, .int .i64 G] 33)) w.heap.size (.slice a cn cap) (.int .i64 B) (.int .i64 G) := Box3.of (by repeat (first | exact heap_last _ _ | (refine heap_at _ _ _ ?_; (simp; done)) | (refine heap_old _ _ _ _ (by simp; try omega) ?_)))
  go_enter Try.func14, Try.ntmps14
  go_wp2_with (first
    | (go_at_call 48; refine (within1_any _ _ _ _).mono ?_; rintro e w' ⟨rfl, rfl⟩)
    | (go_at_call 16; refine (CheckFan4_any c _ _ _ _ ((sliceC intC).mono HL.out g0)).mono ?_; rintro e w1 ⟨rfl, hb1⟩; rw [HF.out]; replace K := K.mono hb1)
    | (go_at_call 49; (with_reducible refine (levels4_ok c B G N _ _ ((sliceC intC).mono HL.out (g0.trans hb1)) HV.out h1 h2 (by omega) (by omega) (by omega) (by omega) (by omega)).mono ?_); rintro e w2 ⟨v2, rfl, h6, hb2⟩))
  go_ret2
  exact ⟨_, rfl, h6, (g0.trans hb1).trans hb2⟩
def lvE (c : List Int) (b g n : Int) : Int := if fanF c b g = 0 then (if withinB n 0 400 = true then 0 else 1) else fanF c b g
set_option maxHeartbeats 1000000 in
theorem Levels4_no (c : List Int) (b g n : Int) (v : Value) (w : World) (hl : (sliceC intC).is w [v] c) (hf : lvE c b g n ≠ 0) :
    Calls Try.prog 14 #[.agg #[v, .int .i64 b, .int .i64 g], .int .i64 n] w fun e w' => e = .returned (.tuple #[.slice none 0 0, .int .i64 (lvE c b g n)]) ∧ Gr w w' := by
  obtain ⟨a, cn, cap, rfl, HCN, hcn, hcap⟩ := sliceC_open hl
  have HL := Lib.hid hl; clear hl
  have g0 : Gr w (w.alloc (.cells #[.slice a cn cap, .int .i64 b, .int .i64 g] 33)) := (by repeat (first | exact Gr.refl _ | assumption | refine Gr.alloc ?_ _ | refine Gr.drew ?_ | refine Gr.drewN ?_ _ | (refine Gr.put ?_ ?_ _; first | exact Nat.le_refl _ | (simp; done) | omega) | (apply Gr.after; assumption)))
  by_cases h0 : fanF c b g = 0
  · have HF := Lib.hid h0
    cases hn : withinB n 0 400
    · have HE : Hid (lvE c b g n = 1) := Lib.hid (by rw [lvE, if_pos h0, if_neg (by simp [hn])])
      rw [HE.out]
      clear hf h0
      go_enter Try.func14, Try.ntmps14
      go_wp2_with (first
        | (go_at_call 48; refine (within1_any _ _ _ _).mono ?_; rintro e w' ⟨rfl, rfl⟩)
        | (go_at_call 16; refine (CheckFan4_any c _ _ _ _ ((sliceC intC).mono HL.out g0)).mono ?_; rintro e w1 ⟨rfl, hb1⟩; rw [HF.out]))
      go_ret2
      exact ⟨rfl, g0.trans hb1⟩
    · exact absurd (by rw [lvE, if_pos h0, if_pos hn]) hf
  · have HE : Hid (lvE c b g n = fanF c b g) := Lib.hid (by rw [lvE, if_neg h0])
    rw [HE.out]
    have h0' : (fanF c b g != 0) = true := by simpa using h0
    clear hf h0
    go_enter Try.func14, Try.ntmps14
    go_wp2_with (first
      | (go_at_call 48; refine (within1_any _ _ _ _).mono ?_; rintro e w' ⟨rfl, rfl⟩)
      | (go_at_call 16; refine (CheckFan4_any c _ _ _ _ ((sliceC intC).mono HL.out g0)).mono ?_; rintro e w1 ⟨rfl, hb1⟩))
    go_ret2
    exact ⟨rfl, g0.trans hb1⟩
end Go.Proofs.Ytjhdogdaldlkhaa
