/- Digits to the base 10^9: plain mathematics. -/
import Derived.Test.YtjhdogdaldlkhaaCd
namespace Go.Proofs.Ytjhdogdaldlkhaa
set_option linter.unusedVariables false

def okD (l : List Int) : Prop := ∀ x ∈ l, 0 ≤ x ∧ x < 1000000000
def dval : List Int → Int
  | [] => 0
  | x :: r => x + 1000000000 * dval r
def dig (n : Nat) : List Int := if h : n = 0 then [] else ((n % 1000000000 : Nat) : Int) :: dig (n / 1000000000)
termination_by n
decreasing_by omega
theorem dig_zero : dig 0 = [] := by unfold dig; simp
theorem dig_pos {n : Nat} (h : 0 < n) : dig n = ((n % 1000000000 : Nat) : Int) :: dig (n / 1000000000) := by
  rw [dig, dif_neg (by omega)]
theorem okD_nil : okD [] := fun x h => by simp at h
theorem okD_cons {x : Int} {l : List Int} : okD (x :: l) ↔ (0 ≤ x ∧ x < 1000000000) ∧ okD l := by
  constructor
  · intro h; exact ⟨h x (by simp), fun y hy => h y (by simp [hy])⟩
  · rintro ⟨h1, h2⟩ y hy
    rcases List.mem_cons.1 hy with rfl | hy
    · exact h1
    · exact h2 y hy
theorem okD_append {l m : List Int} : okD (l ++ m) ↔ okD l ∧ okD m := by
  constructor
  · intro h; exact ⟨fun x hx => h x (by simp [hx]), fun x hx => h x (by simp [hx])⟩
  · rintro ⟨h1, h2⟩ y hy
    rcases List.mem_append.1 hy with hy | hy
    · exact h1 y hy
    · exact h2 y hy
theorem okD_dig (n : Nat) : okD (dig n) := by
  induction n using Nat.strongRecOn with
  | _ n ih =>
    by_cases h : n = 0
    · subst h; rw [dig_zero]; exact okD_nil
    · rw [dig_pos (by omega), okD_cons]
      exact ⟨⟨by omega, by omega⟩, ih _ (by omega)⟩
theorem dval_dig (n : Nat) : dval (dig n) = n := by
  induction n using Nat.strongRecOn with
  | _ n ih =>
    by_cases h : n = 0
    · subst h; rw [dig_zero]; rfl
    · rw [dig_pos (by omega), dval, ih _ (by omega)]; omega
theorem dval_nonneg {l : List Int} (h : okD l) : 0 ≤ dval l := by
  induction l with
  | nil => simp [dval]
  | cons x r ih => have h1 := okD_cons.1 h; have := ih h1.2; simp only [dval]; omega
theorem dval_append (l m : List Int) : dval (l ++ m) = dval l + 1000000000 ^ l.length * dval m := by
  induction l with
  | nil => simp [dval]
  | cons x r ih => simp only [List.cons_append, dval, ih, List.length_cons, Int.pow_succ]; rw [Int.mul_add, ← Int.mul_assoc, Int.mul_comm (1000000000 ^ r.length) 1000000000]; omega
theorem dval_lt {l : List Int} (h : okD l) : dval l < 1000000000 ^ l.length := by
  induction l with
  | nil => simp [dval]
  | cons x r ih =>
    have h1 := okD_cons.1 h; have := ih h1.2
    simp only [dval, List.length_cons, Int.pow_succ]
    generalize (1000000000 : Int) ^ r.length = q at *
    omega
/-- Without needless zeros at the end. -/
def trimL : List Int → List Int
  | [] => []
  | x :: r => if trimL r = [] ∧ x = 0 then [] else x :: trimL r
theorem trimL_eq {l : List Int} (h : okD l) : trimL l = dig (dval l).toNat := by
  induction l with
  | nil => simp [trimL, dval, dig_zero]
  | cons x r ih =>
    have h1 := okD_cons.1 h
    have h2 := ih h1.2
    have h3 := dval_nonneg h1.2
    simp only [trimL, dval, h2]
    by_cases hz : dval r = 0
    · rw [hz]; simp only [Int.toNat_zero, dig_zero, true_and]
      by_cases hx : x = 0
      · subst hx; simp [dig_zero]
      · rw [if_neg hx, dig_pos (by omega)]
        have e1 : (x + 1000000000 * 0).toNat % 1000000000 = x.toNat := by omega
        have e2 : (x + 1000000000 * 0).toNat / 1000000000 = 0 := by omega
        rw [e1, e2, dig_zero, Int.toNat_of_nonneg h1.1.1]
    · have hne : dig (dval r).toNat ≠ [] := by rw [dig_pos (by omega)]; simp
      rw [if_neg (fun hh => hne hh.1), dig_pos (n := (x + 1000000000 * dval r).toNat) (by omega)]
      have e1 : (((x + 1000000000 * dval r).toNat % 1000000000 : Nat) : Int) = x := by omega
      have e2 : (x + 1000000000 * dval r).toNat / 1000000000 = (dval r).toNat := by omega
      rw [e1, e2]
theorem trimL_snoc (l : List Int) (x : Int) : trimL (l ++ [x]) = if x = 0 then trimL l else l ++ [x] := by
  induction l with
  | nil => simp [trimL]
  | cons y r ih =>
    simp only [List.cons_append, trimL, ih]
    by_cases hx : x = 0
    · simp [hx]
    · simp [hx]
theorem dig_len_one {n : Nat} (h : n < 1000000000) (h0 : 0 < n) : dig n = [(n : Int)] := by
  rw [dig_pos h0, Nat.div_eq_of_lt h, dig_zero, Nat.mod_eq_of_lt h]
theorem dig_nil_iff {n : Nat} : dig n = [] ↔ n = 0 := by
  constructor
  · intro h; have := dval_dig n; rw [h] at this; simp [dval] at this; omega
  · rintro rfl; exact dig_zero
theorem dig_getLast {n : Nat} (h : 0 < n) : (dig n).getLast? ≠ some 0 := by
  have h1 := trimL_eq (okD_dig n)
  rw [dval_dig] at h1
  simp only [Int.toNat_natCast] at h1
  intro h2
  obtain ⟨r, hr⟩ := List.getLast?_eq_some_iff.1 h2
  rw [hr, trimL_snoc, if_pos rfl] at h1
  have h3 : (trimL r).length ≤ r.length := by
    clear h1 h2 hr
    induction r with
    | nil => simp [trimL]
    | cons y r ih => simp only [trimL]; split <;> simp <;> omega
  have h4 := congrArg List.length h1
  simp at h4; omega
theorem plus_step (l : List Int) (c x y u v S : Int) (h : dval l + 1000000000 ^ l.length * (c + (x + 1000000000 * u) + (y + 1000000000 * v)) = S) :
    dval (l ++ [(c + x + y) % 1000000000]) + 1000000000 ^ (l.length + 1) * ((c + x + y) / 1000000000 + u + v) = S := by
  rw [dval_append, Int.pow_succ, ← h]
  simp only [dval]
  have hn := Int.emod_add_mul_ediv (c + x + y) 1000000000
  generalize (1000000000 : Int) ^ l.length = q at *
  generalize (c + x + y) % 1000000000 = r at *
  generalize (c + x + y) / 1000000000 = d at *
  have : r = c + x + y - 1000000000 * d := by omega
  subst this
  grind
theorem dval_drop (l : List Int) (k : Nat) : dval (l.drop k) = l.getD k 0 + 1000000000 * dval (l.drop (k + 1)) := by
  by_cases h : k < l.length
  · rw [List.drop_eq_getElem_cons h, dval]; simp [List.getD, List.getElem?_eq_getElem h]
  · rw [List.drop_eq_nil_of_le (by omega), List.drop_eq_nil_of_le (by omega)]; simp [dval, List.getD, List.getElem?_eq_none (show l.length ≤ k by omega)]
theorem okD_getD {l : List Int} (h : okD l) (k : Nat) : 0 ≤ l.getD k 0 ∧ l.getD k 0 < 1000000000 := by
  by_cases hk : k < l.length
  · simp only [List.getD, List.getElem?_eq_getElem hk, Option.getD_some]; exact h _ (List.getElem_mem hk)
  · simp [List.getD, List.getElem?_eq_none (show l.length ≤ k by omega)]
theorem getD_of_lt {l : List Int} {k : Nat} (h : k < l.length) : l[k] = l.getD k 0 := by simp [List.getD, List.getElem?_eq_getElem h]
theorem getD_of_ge {l : List Int} {k : Nat} (h : l.length ≤ k) : l.getD k 0 = 0 := by simp [List.getD, List.getElem?_eq_none h]
theorem dval_set (l : List Int) (j : Nat) (d : Int) (h : j < l.length) : dval (l.set j d) = dval l + (d - l.getD j 0) * 1000000000 ^ j := by
  induction l generalizing j with
  | nil => simp at h
  | cons x r ih =>
    cases j with
    | zero => simp [dval]; omega
    | succ j =>
      simp only [List.set_cons_succ, dval, ih j (by simpa using h), Int.pow_succ, List.getD_cons_succ]
      grind
theorem okD_set {l : List Int} (h : okD l) (j : Nat) (d : Int) (hd : 0 ≤ d ∧ d < 1000000000) : okD (l.set j d) := fun x hx => by
  rcases List.mem_or_eq_of_mem_set hx with h1 | rfl
  · exact h x h1
  · exact hd
theorem dval_take_succ (l : List Int) (k : Nat) : dval (l.take (k + 1)) = dval (l.take k) + 1000000000 ^ k * l.getD k 0 := by
  by_cases h : k < l.length
  · rw [List.take_succ_eq_append_getElem h, dval_append, List.length_take, Nat.min_eq_left (by omega), getD_of_lt h]; simp [dval]
  · rw [getD_of_ge (by omega), List.take_of_length_le (by omega), List.take_of_length_le (by omega)]; simp
theorem okD_take {l : List Int} (h : okD l) (k : Nat) : okD (l.take k) := fun x hx => h x (List.mem_of_mem_take hx)
theorem times_step (out A D : List Int) (i k : Nat) (c x : Int) (hk : i + k < out.length)
    (h : dval out + c * 1000000000 ^ (i + k) = dval (A.take i) * dval D + x * 1000000000 ^ i * dval (D.take k)) :
    dval (out.set (i + k) ((out.getD (i + k) 0 + c + x * D.getD k 0) % 1000000000)) + (out.getD (i + k) 0 + c + x * D.getD k 0) / 1000000000 * 1000000000 ^ (i + (k + 1)) = dval (A.take i) * dval D + x * 1000000000 ^ i * dval (D.take (k + 1)) := by
  rw [dval_set _ _ _ hk, dval_take_succ, ← Nat.add_assoc, Int.pow_succ]
  rw [Int.pow_add] at *
  have hn := Int.emod_add_mul_ediv (out.getD (i + k) 0 + c + x * D.getD k 0) 1000000000
  generalize (out.getD (i + k) 0 + c + x * D.getD k 0) % 1000000000 = r at *
  generalize (out.getD (i + k) 0 + c + x * D.getD k 0) / 1000000000 = d at *
  generalize (1000000000 : Int) ^ i = q at *
  generalize (1000000000 : Int) ^ k = p at *
  generalize D.getD k 0 = y at *
  generalize out.getD (i + k) 0 = o at *
  grind
theorem pow_pos9 (k : Nat) : (0 : Int) < 1000000000 ^ k := Int.pow_pos (by omega)
theorem times_carry (out A D : List Int) (i : Nat) (c x : Int) (ho : okD out) (hA : okD A) (hD : okD D) (hi : i ≤ A.length) (hx : 0 ≤ x ∧ x < 1000000000) (hc : 0 ≤ c)
    (h : dval out + c * 1000000000 ^ (i + (D.length + 1)) = dval (A.take i) * dval D + x * 1000000000 ^ i * dval (D.take (D.length + 1))) : c = 0 := by
  have h1 := dval_nonneg ho
  have h2 := dval_lt (okD_take hA i)
  rw [List.length_take, Nat.min_eq_left hi] at h2
  have h3 := dval_lt hD
  have h4 := dval_nonneg hD
  have h5 := dval_nonneg (okD_take hA i)
  rw [List.take_of_length_le (l := D) (by omega), ← Nat.add_assoc, Int.pow_succ, Int.pow_add] at h
  have hq := pow_pos9 i
  have hp := pow_pos9 D.length
  generalize (1000000000 : Int) ^ i = q at *
  generalize (1000000000 : Int) ^ D.length = p at *
  generalize dval D = d at *
  generalize dval (A.take i) = a at *
  generalize dval out = o at *
  have hxq : x * q ≤ 999999999 * q := Int.mul_le_mul_of_nonneg_right (by omega) (by omega)
  have hxq0 : 0 ≤ x * q := Int.mul_nonneg (by omega) (by omega)
  have hP : a + x * q < 1000000000 * q := by omega
  have e : a * d + x * q * d = (a + x * q) * d := by grind
  rw [e] at h
  have hP0 : 0 ≤ a + x * q := by omega
  generalize a + x * q = P at *
  have h6 : P * d ≤ P * p := Int.mul_le_mul_of_nonneg_left (by omega) hP0
  have h7 : P * p < 1000000000 * q * p := Int.mul_lt_mul_of_pos_right hP hp
  rcases Int.lt_or_le 0 c with hc1 | hc1
  · exfalso
    have h8 : 1 * (q * p * 1000000000) ≤ c * (q * p * 1000000000) := Int.mul_le_mul_of_nonneg_right (by omega) (Int.mul_nonneg (Int.mul_nonneg (by omega) (by omega)) (by omega))
    have h9 : 1000000000 * q * p = 1 * (q * p * 1000000000) := by grind
    omega
  · omega
theorem times_out (out A D : List Int) (i k : Nat) (x : Int) (hx : x = A.getD i 0) (hk : D.length ≤ k) (h : dval out + 0 * 1000000000 ^ (i + k) = dval (A.take i) * dval D + x * 1000000000 ^ i * dval (D.take k)) :
    dval out = dval (A.take (i + 1)) * dval D := by
  rw [dval_take_succ, ← hx]
  rw [List.take_of_length_le (l := D) (by omega)] at h
  generalize (1000000000 : Int) ^ i = q at *
  generalize dval (A.take i) = a at *
  generalize dval D = d at *
  clear hx hk
  grind
theorem dig_ge {y : Nat} (h : 0 < y) : (1000000000 : Int) ^ ((dig y).length - 1) ≤ y := by
  induction y using Nat.strongRecOn with
  | _ y ih =>
    rw [dig_pos h]
    simp only [List.length_cons, Nat.add_sub_cancel]
    by_cases h1 : y / 1000000000 = 0
    · rw [h1, dig_zero]; simp; omega
    · have h2 := ih (y / 1000000000) (by omega) (by omega)
      have h3 : 0 < (dig (y / 1000000000)).length := List.length_pos_iff.2 (by rw [Ne, dig_nil_iff]; exact h1)
      obtain ⟨q, hq⟩ : ∃ q, (dig (y / 1000000000)).length = q + 1 := ⟨_, (Nat.sub_add_cancel h3).symm⟩
      rw [hq] at h2 ⊢
      simp only [Nat.add_sub_cancel] at h2
      rw [Int.pow_succ]
      generalize (1000000000 : Int) ^ q = p at *
      omega
theorem pow_mono9 {a b : Nat} (h : a ≤ b) : (1000000000 : Int) ^ a ≤ 1000000000 ^ b := by
  obtain ⟨c, rfl⟩ := Nat.exists_eq_add_of_le h
  rw [Int.pow_add]
  have h1 := pow_pos9 a
  have h2 := pow_pos9 c
  generalize (1000000000 : Int) ^ a = p at *
  generalize (1000000000 : Int) ^ c = q at *
  have h4 : p * 1 ≤ p * q := Int.mul_le_mul_of_nonneg_left (by omega) (by omega)
  omega
theorem dig_len_lt {x y : Nat} (h : (dig x).length < (dig y).length) : x < y := by
  have h1 := dval_lt (okD_dig x)
  rw [dval_dig] at h1
  have h0 : 0 < y := by
    rcases Nat.eq_zero_or_pos y with rfl | h0
    · rw [dig_zero] at h; simp at h
    · exact h0
  have h2 := dig_ge h0
  have h3 := pow_mono9 (a := (dig x).length) (b := (dig y).length - 1) (by omega)
  omega
theorem dig_digit_lt {x y : Nat} (k : Nat) (hlx : k < (dig x).length) (hly : k < (dig y).length) (hd : (dig x).drop (k + 1) = (dig y).drop (k + 1)) (h : (dig x).getD k 0 < (dig y).getD k 0) : x < y := by
  have e1 := dval_append ((dig x).take k) ((dig x).drop k)
  have e2 := dval_append ((dig y).take k) ((dig y).drop k)
  rw [List.take_append_drop, dval_dig, dval_drop, List.length_take, Nat.min_eq_left (by omega)] at e1 e2
  rw [hd] at e1
  have b1 := dval_lt (okD_take (okD_dig x) k)
  have b2 := dval_nonneg (okD_take (okD_dig y) k)
  rw [List.length_take, Nat.min_eq_left (by omega)] at b1
  generalize dval ((dig y).drop (k + 1)) = r at *
  generalize (dig x).getD k 0 = dx at *
  generalize (dig y).getD k 0 = dy at *
  have hp := pow_pos9 k
  generalize (1000000000 : Int) ^ k = p at *
  have h4 : p * (dx + 1000000000 * r + 1) ≤ p * (dy + 1000000000 * r) := Int.mul_le_mul_of_nonneg_left (by omega) (by omega)
  rw [Int.mul_add p (dx + 1000000000 * r) 1] at h4
  generalize p * (dx + 1000000000 * r) = u at *
  generalize p * (dy + 1000000000 * r) = v at *
  omega
theorem dig_eq_of_drop {x y : Nat} (h : (dig x).drop 0 = (dig y).drop 0) : x = y := by
  have h1 := dval_dig x
  have h2 := dval_dig y
  simp at h
  rw [h, h2] at h1
  omega
theorem dval_drop_le {x : Nat} (k : Nat) : 0 ≤ dval ((dig x).drop k) ∧ dval ((dig x).drop k) ≤ x := by
  have hok : okD ((dig x).drop k) := fun y hy => okD_dig x y (List.mem_of_mem_drop hy)
  have e1 := dval_append ((dig x).take k) ((dig x).drop k)
  rw [List.take_append_drop, dval_dig] at e1
  have b2 := dval_nonneg (okD_take (okD_dig x) k)
  have b3 := dval_nonneg hok
  have hp := pow_pos9 ((dig x).take k).length
  generalize (1000000000 : Int) ^ ((dig x).take k).length = p at *
  generalize dval ((dig x).drop k) = r at *
  have h4 : 1 * r ≤ p * r := Int.mul_le_mul_of_nonneg_right (by omega) b3
  omega
theorem minus_step (l : List Int) (c x y u v S : Int) (d c' : Int) (hd : d = x - c - y + 1000000000 * c') (h : dval l + 1000000000 ^ l.length * ((x + 1000000000 * u) - (y + 1000000000 * v) - c) = S) :
    dval (l ++ [d]) + 1000000000 ^ (l.length + 1) * (u - v - c') = S := by
  rw [dval_append, Int.pow_succ, ← h]
  simp only [dval]
  generalize (1000000000 : Int) ^ l.length = q at *
  subst hd
  grind
theorem minus_end {l : List Int} (h : okD l) (c : Int) (S : Int) (hS : 0 ≤ S) (hc : c = 0 ∨ c = 1) (hE : dval l + 1000000000 ^ l.length * (0 - 0 - c) = S) : dval l = S := by
  have := dval_lt h
  generalize (1000000000 : Int) ^ l.length = q at *
  rcases hc with rfl | rfl <;> omega
theorem short_step (out X : List Int) (k : Nat) (n rest : Int) (hk : k < out.length) (hn : 0 < n) (h : dval (out.drop (k + 1)) * n + rest = dval (X.drop (k + 1))) :
    dval ((out.set k ((rest * 1000000000 + X.getD k 0) / n)).drop k) * n + (rest * 1000000000 + X.getD k 0) % n = dval (X.drop k) := by
  rw [dval_drop X k, ← h, dval_drop]
  have e1 : (out.set k ((rest * 1000000000 + X.getD k 0) / n)).getD k 0 = (rest * 1000000000 + X.getD k 0) / n := by simp [List.getD, List.getElem?_set_self hk]
  have e2 : (out.set k ((rest * 1000000000 + X.getD k 0) / n)).drop (k + 1) = out.drop (k + 1) := by rw [List.drop_set_of_lt (by omega)]
  rw [e1, e2]
  have := Int.emod_add_mul_ediv (rest * 1000000000 + X.getD k 0) n
  generalize (rest * 1000000000 + X.getD k 0) % n = r at *
  generalize hq : (rest * 1000000000 + X.getD k 0) / n = q at *
  grind
theorem dig_len3 {n : Nat} (h : n < 1000000000000000000000000000) : (dig n).length ≤ 3 := by
  by_cases h0 : n = 0
  · subst h0; simp [dig_zero]
  rw [dig_pos (by omega)]
  by_cases h1 : n / 1000000000 = 0
  · rw [h1]; simp [dig_zero]
  rw [dig_pos (by omega)]
  by_cases h2 : n / 1000000000 / 1000000000 = 0
  · rw [h2]; simp [dig_zero]
  rw [dig_pos (by omega), show n / 1000000000 / 1000000000 / 1000000000 = 0 by omega]; simp [dig_zero]
theorem inI_dig {n : Nat} : ∀ x ∈ dig n, inI x := fun x hx => by have := okD_dig n x hx; unfold inI; omega
end Go.Proofs.Ytjhdogdaldlkhaa
