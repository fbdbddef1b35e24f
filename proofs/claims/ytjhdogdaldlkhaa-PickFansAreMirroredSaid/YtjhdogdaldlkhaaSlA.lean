/- Library functions on slices of ints. -/
import Derived.Test.YtjhdogdaldlkhaaOw
namespace Go.Proofs.Ytjhdogdaldlkhaa
open Go.RowKit
set_option linter.unusedVariables false
set_option linter.unusedSimpArgs false

theorem drop_eq_cons_iff {x y : Int} {a b : List Int} : (x :: a = y :: b) ↔ x = y ∧ a = b := by simp
set_option maxHeartbeats 1000000 in
theorem equalI_any (l m : List Int) (vl vm : Value) (w : World) (hl : (sliceC intC).is w [vl] l) (hm : (sliceC intC).is w [vm] m) :
    Calls Try.prog 17 #[vl, vm] w fun e w' => e = .returned (.bool (decide (l = m))) ∧ ∃ k, w' = w.drewN k := by
  obtain ⟨a, n, cap, rfl, HN, hn, hcap⟩ := sliceC_open hl
  obtain ⟨b, q, dap, rfl, HM, hq, hdap⟩ := sliceC_open hm
  have HX := Lib.hid hl; have HY := Lib.hid hm; clear hl hm
  by_cases hnm : n = q
  · subst hnm
    have h0 : ((n : Int) != (n : Int)) = false := by simp
    go_enter Try.func17, Try.ntmps17
    go_wp2
    go_loopw [13] (fun i wr => ∃ k : Nat, k ≤ n ∧ i = .int .i64 k ∧ Hid (decide (l.drop k = m.drop k) = decide (l = m)) ∧ ∃ q, wr = w.drewN q) (fun i _ => n - (intOf i).toNat)
    case atStart => exact ⟨0, Nat.zero_le _, rfl, Lib.hid (by simp), 0, rfl⟩
    case round =>
      obtain ⟨k, hk, rfl, HE, q, rfl⟩ := hrel
      by_cases hlt : k < n
      · have hkl : k < l.length := by have := HN.out; omega
        have hkm : k < m.length := by have := HM.out; omega
        obtain ⟨B1, o1, rfl, c1, -⟩ := sliceC_int HX.out hkl
        obtain ⟨B2, o2, rfl, c2, -⟩ := sliceC_int HY.out hkm
        have hE := HE.out
        rw [List.drop_eq_getElem_cons hkl, List.drop_eq_getElem_cons hkm] at hE
        generalize l[k] = x at *
        generalize m[k] = y at *
        have hi0 : (0 : Int) ≤ (k : Int) := by omega
        have hi1 : (k : Int) < (n : Int) := by omega
        by_cases hxy : x = y
        · subst hxy
          have h1' : (x != x) = false := by simp
          simp only [drop_eq_cons_iff, true_and] at hE
          have HE2 := Lib.hid hE; clear hE HE
          go_wp2
          go_quiet (fail)
          go_wp2
          go_roundw
          case rel => exact ⟨k + 1, by omega, by go_num, HE2, _, by first | rfl | (simp only [World.drewN_drewN]; rfl)⟩
          case measure => simp [intOf]; omega
        · have h1' : (x != y) = true := by simpa using hxy
          simp only [drop_eq_cons_iff, hxy, false_and, decide_false] at hE
          have HE2 := Lib.hid hE; clear hE HE
          go_wp2
          go_quiet (fail)
          go_wp2
          go_ret
          exact ⟨by rw [← HE2.out]; rfl, _, by first | rfl | (simp only [World.drewN_drewN]; rfl)⟩
      · go_wp2
        go_ret
        have hE := HE.out
        rw [List.drop_eq_nil_of_le (by have := HN.out; omega), List.drop_eq_nil_of_le (by have := HM.out; omega)] at hE
        exact ⟨by rw [← hE]; rfl, _, rfl⟩
  · have h0 : ((n : Int) != (q : Int)) = true := by simp; omega
    have HF : Hid (decide (l = m) = false) := Lib.hid (decide_eq_false (fun h => by subst h; exact hnm (HN.out.trans HM.out.symm)))
    go_enter Try.func17, Try.ntmps17
    go_wp2
    go_ret
    exact ⟨by rw [HF.out]; rfl, 0, rfl⟩
end Go.Proofs.Ytjhdogdaldlkhaa
