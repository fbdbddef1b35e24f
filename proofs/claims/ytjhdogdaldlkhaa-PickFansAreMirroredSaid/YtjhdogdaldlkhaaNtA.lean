/- The reference's naturals: small, trim, plus, minus, times, order, short, number, scaled. -/
import Derived.Test.YtjhdogdaldlkhaaNt0
import Derived.Test.YtjhdogdaldlkhaaOw
import Derived.Deep.OwnRows
import Derived.Deep.RegionHeld
namespace Go.Proofs.Ytjhdogdaldlkhaa
open Go.RowKit
set_option linter.unusedVariables false
set_option linter.unusedSimpArgs false

/-- The slice v holds the natural n. -/
def NatIs (w : World) (v : Value) (n : Nat) : Prop := (sliceC intC).is w [v] (dig n)
theorem NatIs.mono {w w' : World} {v : Value} {n : Nat} (h : NatIs w v n) (g : Gr w w') : NatIs w' v n := (sliceC intC).mono h g
/-- The call returns this natural. -/
def Fresh (B : Nat) : Value → Prop
  | .slice (some a) _ _ => B ≤ a.block
  | _ => True
theorem Own.fresh {α : Type} {w : World} {base : Nat} {e : TypeId} {c : Cod α} {a : Option Addr} {n cap : Nat} {l : List α} (h : Own w base e c (.slice a n cap) l) (k : Nat) : Fresh base (.slice a k cap) := by
  obtain ⟨xs, h1, _⟩ := h
  cases a with
  | none => trivial
  | some a => exact (h1.lt a.block rfl).1
theorem NatIs.off {w : World} {v : Value} {n B g i : Nat} {u : Value} (h : NatIs w v n) (hf : Fresh B v) (hg : g < B) : NatIs (w.setCell ⟨g, i, none⟩ u) v n := by
  rcases h with h | ⟨b, off, sp, cap, h1, h2, h3, h4⟩
  · exact .inl h
  · refine .inr ⟨b, off, sp, cap, h1, h2, h3, fun j hj => ?_⟩
    obtain ⟨h5, cs, h6, h7⟩ := h4 j hj
    refine ⟨h5, cs, fun q hq => ?_, h7⟩
    have hbg : g ≠ b := by
      have : v = .slice (some ⟨b, off, sp⟩) (dig n).length cap := by simpa using h1
      subst this
      simp only [Fresh] at hf
      omega
    rw [World.cell?_setCell_far _ _ _ _ (by exact hbg)]
    exact h6 q hq
def RetN (n : Nat) (w : World) (e : Ending) (w' : World) : Prop := ∃ v, e = .returned v ∧ NatIs w' v n ∧ Fresh w.heap.size v ∧ Gr w w'

theorem sliceC_take {α : Type} {c : Cod α} {w : World} {a : Option Addr} {n cap : Nat} {l : List α} (h : (sliceC c).is w [.slice a n cap] l) (k : Nat) (hk : k ≤ l.length) : (sliceC c).is w [.slice a k cap] (l.take k) := by
  rcases h with ⟨h1, rfl⟩ | ⟨b, off, sp, cap', h1, h2, h3, h4⟩
  · simp at hk; subst hk; simp at h1; obtain ⟨rfl, rfl, rfl⟩ := h1; exact .inl ⟨rfl, by simp⟩
  · simp only [List.cons.injEq, Value.slice.injEq, and_true] at h1
    obtain ⟨rfl, rfl, rfl⟩ := h1
    have hl : (l.take k).length = k := by simp; omega
    refine .inr ⟨b, off, sp, cap, by rw [hl], by omega, h3, fun i hi => ?_⟩
    obtain ⟨h5, cs, h6, h7⟩ := h4 i (by omega)
    exact ⟨h5, cs, h6, by simpa using h7⟩
set_option maxHeartbeats 1000000 in
theorem trim_any (l : List Int) (a : Option Addr) (n cap : Nat) (w : World) (hl : (sliceC intC).is w [.slice a n cap] l) (hd : okD l) :
    Calls Try.prog 163 #[.slice a n cap] w fun e w' => ∃ k, e = .returned (.slice a k cap) ∧ NatIs w (.slice a k cap) (dval l).toNat ∧ w = w' := by
  obtain ⟨a', n', cap', e', HN, hn, hcap⟩ := sliceC_open hl
  injection e' with e1 e2 e3
  subst e1; subst e2; subst e3
  have HL := Lib.hid hl; clear hl
  have HT := Lib.hid (trimL_eq hd); clear hd
  go_enter Try.func163, Try.ntmps163
  go_wp2
  go_loop [3] (fun i => ∃ k : Nat, k ≤ n ∧ i = .int .i64 k ∧ Hid (trimL (l.take k) = trimL l)) (fun i => (intOf i).toNat)
  case atStart => exact ⟨n, Nat.le_refl _, rfl, Lib.hid (by rw [HN.out, List.take_length])⟩
  case round =>
    obtain ⟨k, hk, rfl, HE⟩ := hrel
    cases k with
    | zero =>
      go_wp2
      go_ret
      refine ⟨0, rfl, ?_, rfl⟩
      have h1 := sliceC_take HL.out 0 (Nat.zero_le _)
      have h2 := HE.out.trans HT.out
      rw [List.take_zero] at h1 h2
      unfold NatIs
      rw [← h2]
      exact h1
    | succ k =>
      have hkl : k < l.length := by have := HN.out; omega
      obtain ⟨b, off, rfl, hc, hi⟩ := sliceC_int HL.out hkl
      have hE := HE.out
      rw [List.take_succ_eq_append_getElem hkl, trimL_snoc] at hE
      clear HE
      generalize hgx : l[k] = x at *
      have HX := Lib.hid hgx; clear hgx
      by_cases hx : x = 0
      · subst hx
        rw [if_pos rfl] at hE
        have HE := Lib.hid hE; clear hE
        go_wp2
        go_round
        case rel => exact ⟨k, by omega, by first | rfl | (simp; done), HE⟩
        case measure => simp [intOf] <;> omega
      · have hx' : (x == 0) = false := by simpa using hx
        rw [if_neg hx] at hE
        have HE := Lib.hid hE; clear hE
        go_wp2
        go_ret
        refine ⟨k + 1, rfl, ?_, rfl⟩
        have h1 := sliceC_take HL.out (k + 1) hkl
        have h2 := HE.out.trans HT.out
        unfold NatIs
        rw [← h2, ← HX.out, ← List.take_succ_eq_append_getElem hkl]
        exact h1
set_option maxHeartbeats 1000000 in
theorem small_any (n : Nat) (w : World) (hn : n ≤ 9223372036854775807) :
    Calls Try.prog 141 #[.int .i64 n] w (RetN n w) := by
  have hown : Own w w.heap.size 3 intC (.slice none 0 0) [] := Own.nil _ _ _ _
  have HL : Hid ((dig n).length ≤ 3) := Lib.hid (dig_len3 (by omega))
  go_enter Try.func141, Try.ntmps141
  go_wp2
  go_loopw [0, 3] (fun x v wr => ∃ (m : Nat) (l : List Int), m ≤ n ∧ x = .int .i64 m ∧ Own wr w.heap.size 3 intC v l ∧ Hid (l ++ dig m = dig n) ∧ Gr w wr) (fun x _ _ => (intOf x).toNat)
  case atStart => exact ⟨n, [], Nat.le_refl _, rfl, hown, Lib.hid rfl, Gr.refl _⟩
  case round =>
    clear hown
    obtain ⟨m, l, hm, rfl, hown, HE, hG⟩ := hrel
    by_cases h0 : 0 < m
    · have hll : l.length ≤ 3 := by have h1 := congrArg List.length HE.out; have h2 := HL.out; simp at h1; omega
      have hsz := hG.size
      have HE2 : Hid (l ++ [((m % 1000000000 : Nat) : Int)] ++ dig (m / 1000000000) = dig n) := Lib.hid (by rw [← HE.out, dig_pos h0]; simp)
      clear HE
      obtain ⟨va, vn, vc, rfl, Hvn, h7, h8⟩ := hown.shape
      go_wp2_with (at_builtin; refine app_int _ rfl _ _ 170 rfl Try.underlying170 w.heap.size _ l rfl (hown.alloc _) _ rfl _ _ (heap_last _ _) (by unfold inI; omega) (by omega) (by simp; omega) ?_; intro v' w' hown' hgrow)
      go_roundw
      case rel => exact ⟨m / 1000000000, _, by omega, by go_num, hown', HE2, Own.gr (hown.alloc _) (hG.alloc _) (Nat.le_refl _) hgrow⟩
      case measure => simp [intOf]; omega
    · go_wp2
      go_ret
      obtain rfl : m = 0 := by omega
      have e := HE.out
      rw [dig_zero, List.append_nil] at e
      subst e
      obtain ⟨va, vn, vc, rfl, -, -, -⟩ := hown.shape
      exact ⟨_, rfl, hown.is, hown.fresh _, hG⟩
set_option maxHeartbeats 2000000 in
theorem plus_any (x y : Nat) (vx vy : Value) (w : World) (hx : NatIs w vx x) (hy : NatIs w vy y) (hxl : (dig x).length ≤ 1000000) (hyl : (dig y).length ≤ 1000000) :
    Calls Try.prog 153 #[vx, vy] w (RetN (x + y) w) := by
  obtain ⟨a, n, cap, rfl, HN, hn, hcap⟩ := sliceC_open hx
  obtain ⟨b, m, dap, rfl, HM, hm, hdap⟩ := sliceC_open hy
  have HX := Lib.hid hx; have HY := Lib.hid hy; clear hx hy
  have hn6 : n ≤ 1000000 := by rw [HN.out]; exact hxl
  have hm6 : m ≤ 1000000 := by rw [HM.out]; exact hyl
  clear hxl hyl
  have HS : Hid (dval (dig x) + dval (dig y) = ((x + y : Nat) : Int)) := Lib.hid (by rw [dval_dig, dval_dig]; omega)
  have HOX := Lib.hid (okD_dig x); have HOY := Lib.hid (okD_dig y)
  have hown : Own w w.heap.size 3 intC (.slice none 0 0) [] := Own.nil _ _ _ _
  go_enter Try.func153, Try.ntmps153
  go_wp2
  go_loopw [5, 6, 7] (fun v cr i wr => ∃ (k : Nat) (c : Int) (l : List Int), i = .int .i64 k ∧ cr = .int .i64 c ∧ 0 ≤ c ∧ c ≤ 1 ∧ (k ≤ max n m ∨ c = 0 ∧ k ≤ max n m + 1) ∧ Hid (l.length = k) ∧ Hid (okD l) ∧ Own wr w.heap.size 3 intC v l ∧
    Hid (dval l + 1000000000 ^ k * (c + dval ((dig x).drop k) + dval ((dig y).drop k)) = ((x + y : Nat) : Int)) ∧ Gr w wr) (fun _ _ i _ => max n m + 1 - (intOf i).toNat)
  case atStart => exact ⟨0, 0, [], rfl, rfl, by omega, by omega, .inl (Nat.zero_le _), Lib.hid rfl, Lib.hid okD_nil, hown, Lib.hid (by rw [← HS.out]; simp [dval]), Gr.refl _⟩
  case round =>
    clear hown
    obtain ⟨k, c, l, rfl, rfl, hc0, hc1, hkm, HK, HOL, hown, HE, hG⟩ := hrel
    by_cases hgo : k < max n m ∨ 0 < c
    · have hkk : k ≤ max n m := by omega
      have hsz := hG.size
      obtain ⟨va, vn, vc, rfl, Hvn, h7, h8⟩ := hown.shape
      have hdx := okD_getD HOX.out k
      have hdy := okD_getD HOY.out k
      have HX1 : Hid (k < n → ∃ (b off : Nat), a = some ⟨b, off, none⟩ ∧ w.cell? ⟨b, off + k, none⟩ = some (.int .i64 ((dig x).getD k 0))) := Lib.hid fun h => by
        obtain ⟨b, off, e, h1, _⟩ := sliceC_int HX.out (k := k) (by have := HN.out; omega)
        exact ⟨b, off, e, by rw [h1, getD_of_lt]⟩
      have HY1 : Hid (k < m → ∃ (b' off : Nat), b = some ⟨b', off, none⟩ ∧ w.cell? ⟨b', off + k, none⟩ = some (.int .i64 ((dig y).getD k 0))) := Lib.hid fun h => by
        obtain ⟨b, off, e, h1, _⟩ := sliceC_int HY.out (k := k) (by have := HM.out; omega)
        exact ⟨b, off, e, by rw [h1, getD_of_lt]⟩
      have HX0 : Hid (¬ k < n → (dig x).getD k 0 = 0) := Lib.hid fun h => getD_of_ge (by have := HN.out; omega)
      have HY0 : Hid (¬ k < m → (dig y).getD k 0 = 0) := Lib.hid fun h => getD_of_ge (by have := HM.out; omega)
      have HE2 : Hid (dval (l ++ [(c + (dig x).getD k 0 + (dig y).getD k 0) % 1000000000]) + 1000000000 ^ (k + 1) * ((c + (dig x).getD k 0 + (dig y).getD k 0) / 1000000000 + dval ((dig x).drop (k + 1)) + dval ((dig y).drop (k + 1))) = ((x + y : Nat) : Int)) := Lib.hid (by
        have h1 := HE.out
        rw [dval_drop (dig x) k, dval_drop (dig y) k, ← HK.out] at h1
        have h2 := plus_step l _ _ _ _ _ _ h1
        rw [HK.out] at h2
        exact h2)
      clear HE
      generalize (dig x).getD k 0 = dx at *
      generalize (dig y).getD k 0 = dy at *
      by_cases h1 : k < n <;> by_cases h2 : k < m
      · obtain ⟨B1, o1, rfl, c1⟩ := HX1.out h1
        replace c1 := hG.cell c1
        obtain ⟨B2, o2, rfl, c2⟩ := HY1.out h2
        replace c2 := hG.cell c2
        have hz : k < max n m := by omega
        go_wp2_with (at_builtin; refine app_int _ rfl _ _ 170 rfl Try.underlying170 w.heap.size _ l rfl (hown.alloc _) _ rfl _ _ (heap_last _ _) (by unfold inI; omega) (by have := HK.out; omega) (by simp; omega) ?_; intro v' w' hown' hgrow)
        all_goals
          go_roundw
          case rel => exact ⟨k + 1, (c + dx + dy) / 1000000000, _, by go_num, by first | rfl | go_num, by omega, by omega, by omega, Lib.hid (by simp [HK.out]), Lib.hid (okD_append.2 ⟨HOL.out, okD_cons.2 ⟨by omega, okD_nil⟩⟩), hown', HE2, Own.gr (hown.alloc _) (hG.alloc _) (Nat.le_refl _) hgrow⟩
          case measure => simp [intOf]; omega
      · obtain ⟨B1, o1, rfl, c1⟩ := HX1.out h1
        replace c1 := hG.cell c1
        obtain rfl := HY0.out h2
        simp only [Int.add_zero] at HE2
        have hz : k < max n m := by omega
        go_wp2_with (at_builtin; refine app_int _ rfl _ _ 170 rfl Try.underlying170 w.heap.size _ l rfl (hown.alloc _) _ rfl _ _ (heap_last _ _) (by unfold inI; omega) (by have := HK.out; omega) (by simp; omega) ?_; intro v' w' hown' hgrow)
        all_goals
          go_roundw
          case rel => exact ⟨k + 1, (c + dx) / 1000000000, _, by go_num, by first | rfl | go_num, by omega, by omega, by omega, Lib.hid (by simp [HK.out]), Lib.hid (okD_append.2 ⟨HOL.out, okD_cons.2 ⟨by omega, okD_nil⟩⟩), hown', HE2, Own.gr (hown.alloc _) (hG.alloc _) (Nat.le_refl _) hgrow⟩
          case measure => simp [intOf]; omega
      · obtain rfl := HX0.out h1
        simp only [Int.add_zero] at HE2
        obtain ⟨B2, o2, rfl, c2⟩ := HY1.out h2
        replace c2 := hG.cell c2
        have hz : k < max n m := by omega
        go_wp2_with (at_builtin; refine app_int _ rfl _ _ 170 rfl Try.underlying170 w.heap.size _ l rfl (hown.alloc _) _ rfl _ _ (heap_last _ _) (by unfold inI; omega) (by have := HK.out; omega) (by simp; omega) ?_; intro v' w' hown' hgrow)
        all_goals
          go_roundw
          case rel => exact ⟨k + 1, (c + dy) / 1000000000, _, by go_num, by first | rfl | go_num, by omega, by omega, by omega, Lib.hid (by simp [HK.out]), Lib.hid (okD_append.2 ⟨HOL.out, okD_cons.2 ⟨by omega, okD_nil⟩⟩), hown', HE2, Own.gr (hown.alloc _) (hG.alloc _) (Nat.le_refl _) hgrow⟩
          case measure => simp [intOf]; omega
      · obtain rfl := HX0.out h1
        simp only [Int.add_zero] at HE2
        obtain rfl := HY0.out h2
        simp only [Int.add_zero] at HE2
        have hz : decide (k < max n m) = false := by simp; omega
        have hcp : 0 < c := by omega
        go_wp2_with (at_builtin; refine app_int _ rfl _ _ 170 rfl Try.underlying170 w.heap.size _ l rfl (hown.alloc _) _ rfl _ _ (heap_last _ _) (by unfold inI; omega) (by have := HK.out; omega) (by simp; omega) ?_; intro v' w' hown' hgrow)
        all_goals
          go_roundw
          case rel => exact ⟨k + 1, (c) / 1000000000, _, by go_num, by first | rfl | go_num, by omega, by omega, by omega, Lib.hid (by simp [HK.out]), Lib.hid (okD_append.2 ⟨HOL.out, okD_cons.2 ⟨by omega, okD_nil⟩⟩), hown', HE2, Own.gr (hown.alloc _) (hG.alloc _) (Nat.le_refl _) hgrow⟩
          case measure => simp [intOf]; omega
    · have hk2 : max n m ≤ k := by omega
      obtain rfl : c = 0 := by omega
      obtain ⟨va, vn, vc, rfl, -, -, -⟩ := hown.shape
      have HIS := Lib.hid hown.is
      have hz : decide (k < max n m) = false := by simp; omega
      go_wp2_with (go_at_call 163; refine (trim_any _ _ _ _ _ HIS.out HOL.out).mono ?_; rintro e w' ⟨kt, rfl, hnt, rfl⟩)
      all_goals
       go_ret
       refine ⟨_, rfl, ?_, hown.fresh _, hG⟩
       have h1 := HE.out
       rw [List.drop_eq_nil_of_le (by have := HN.out; omega), List.drop_eq_nil_of_le (by have := HM.out; omega)] at h1
       simp only [dval, Int.add_zero, Int.mul_zero] at h1
       rw [h1, Int.toNat_natCast] at hnt
       exact hnt
/-- Block g is a row of these digits. -/
def RowD (w : World) (g : Nat) (l : List Int) : Prop := w.rowIs g 3 l.length (fun j => .int .i64 (l.getD j 0))
theorem RowD.mono {w w' : World} {g : Nat} {l : List Int} (h : RowD w g l) (k : Gr w w') : RowD w' g l := World.rowIs.of_block h (k.below.block g (World.rowIs.lt h))
theorem RowD.set {w : World} {g : Nat} {l : List Int} (h : RowD w g l) (j : Nat) (d : Int) (hj : j < l.length) : RowD (w.setCell ⟨g, j, none⟩ (.int .i64 d)) g (l.set j d) := by
  have h1 := World.rowIs.set h j (.int .i64 d)
  unfold RowD
  rw [List.length_set]
  refine h1.congr fun i hi => ?_
  by_cases e : i = j
  · subst e; simp [List.getD, List.getElem?_set_self hi]
  · rw [if_neg e]; simp [List.getD, List.getElem?_set_ne (fun h => e h.symm)]
theorem RowD.is {w : World} {g : Nat} {l : List Int} (h : RowD w g l) (hd : okD l) (hl : l.length ≤ maxLen) : (sliceC intC).is w [.slice (some ⟨g, 0, none⟩) l.length l.length] l := by
  refine .inr ⟨g, 0, none, l.length, rfl, Nat.le_refl _, hl, fun i hi => ⟨rfl, [.int .i64 l[i]], fun j hj => ?_, rfl, ?_⟩⟩
  · have hj0 : j = 0 := by simp [intC] at hj; exact hj
    subst hj0
    have := World.rowIs.cell h hi
    simp only [intC, Nat.mul_one, Nat.add_zero, Nat.zero_add, List.getElem?_cons_zero]
    rw [this, getD_of_lt hi]
  · have := hd _ (List.getElem_mem hi); omega
theorem RowD.made (w : World) (n : Nat) : RowD (w.alloc (.cells (madeCells #[.int .i64 0] n) 3)) w.heap.size (List.replicate n 0) := by
  have h := World.rowIs_made w (.int .i64 0) n 3
  unfold RowD
  rw [List.length_replicate]
  exact h.congr fun i hi => by simp [List.getD, List.getElem?_replicate, hi]
theorem okD_zeros (n : Nat) : okD (List.replicate n 0) := fun x hx => by rw [List.eq_of_mem_replicate hx]; omega
theorem dval_zeros (n : Nat) : dval (List.replicate n 0) = 0 := by
  induction n with
  | zero => rfl
  | succ n ih => simp [List.replicate_succ, dval, ih]
theorem mk_nat (n : Nat) (hn : n ≤ 10000000) (w : World) : (Instr.makeSlice 170 (.int .i64 (n : Int)) (.int .i64 (n : Int))).run Try.prog w = .ok (.slice (some ⟨w.heap.size, 0, none⟩) n n) (w.alloc (.cells (madeCells #[.int .i64 0] n) 3)) :=
  run_make_row' 170 3 (.int .i64 0) 8 Try.underlying170 (by kernel_rfl) rfl .i64 .i64 n (by omega) (by omega) w
end Go.Proofs.Ytjhdogdaldlkhaa
