/- What Read answers, program and reference: one function of the text. -/
import Derived.Test.YtchbbdplopchlaaDoorTxI
namespace Go.Proofs.YtchbbdplopchlaaDoor
open Go.RowKit Go.Sort
set_option linter.unusedVariables false
set_option linter.unusedSimpArgs false
theorem dig_dv {b : UInt8} (h : isD b = true) : dig (dv b) = b := by
  have h1 := of_decide_eq_true h
  have e : (48 + (dv b).toNat) = b.toNat := by unfold dv; omega
  rw [dig, e, UInt8.ofNat_toNat]
theorem dig_num {a b : UInt8} (ha : isD a = true) (hb : isD b = true) : dig (numS a b / 10) = a ∧ dig (numS a b % 10) = b := by
  have h1 := isD_dv ha; have h2 := isD_dv hb
  have e1 : numS a b / 10 = dv a := by unfold numS; omega
  have e2 : numS a b % 10 = dv b := by unfold numS; omega
  rw [e1, e2]
  exact ⟨dig_dv ha, dig_dv hb⟩
theorem showS_eq (r h m s f : Int) : showS r h m s f = ⟨#[dig (h / 10), dig (h % 10), 58, dig (m / 10), dig (m % 10), 58, dig (s / 10), dig (s % 10), mkC r, dig (f / 10), dig (f % 10)]⟩ := rfl
theorem rd_eq (r : Int) (b0 b1 b2 b3 b4 b5 b6 b7 b8 b9 b10 : UInt8) : rdE r b0 b1 b2 b3 b4 b5 b6 b7 b8 b9 b10 = rdP r b0 b1 b2 b3 b4 b5 b6 b7 b8 b9 b10 := by
  unfold rdE rdP
  cases hd : digB b0 b1 b2 b3 b4 b5 b6 b7 b8 b9 b10
  · rw [if_pos rfl, if_pos rfl, ite_self]
  · rw [if_neg (show ¬ (true = false) by decide), if_neg (show ¬ (true = false) by decide), showS_eq]
    unfold digB at hd
    simp only [Bool.and_eq_true] at hd
    obtain ⟨⟨⟨⟨⟨⟨⟨d0, d1⟩, d3⟩, d4⟩, d6⟩, d7⟩, d9⟩, d10⟩ := hd
    rw [(dig_num d0 d1).1, (dig_num d0 d1).2, (dig_num d3 d4).1, (dig_num d3 d4).2, (dig_num d6 d7).1, (dig_num d6 d7).2, (dig_num d9 d10).1, (dig_num d9 d10).2]
    have hiff : ((⟨#[b0, b1, 58, b3, b4, 58, b6, b7, mkC r, b9, b10]⟩ : ByteArray) = ⟨#[b0, b1, b2, b3, b4, b5, b6, b7, b8, b9, b10]⟩) ↔ (b2 = 58 ∧ b5 = 58 ∧ b8 = mkC r) := by
      constructor
      · intro e
        injection e with e; injection e with e
        injection e with _ e; injection e with _ e; injection e with e2 e; injection e with _ e; injection e with _ e; injection e with e5 e
        injection e with _ e; injection e with _ e; injection e with e8 e
        exact ⟨e2.symm, e5.symm, e8.symm⟩
      · rintro ⟨rfl, rfl, rfl⟩; rfl
    unfold sepB
    by_cases hk : b2 = 58 ∧ b5 = 58 ∧ b8 = mkC r
    · rw [if_pos (hiff.2 hk), decide_eq_true hk, if_neg (by decide)]
    · rw [if_neg (fun e => hk (hiff.1 e)), decide_eq_false hk, if_pos rfl]
/-- A byte of a text. -/
def bt (t : ByteArray) (i : Nat) : UInt8 := t.data.toList.getD i 0
theorem eleven {t : ByteArray} (h : t.size = 11) : t = ⟨#[bt t 0, bt t 1, bt t 2, bt t 3, bt t 4, bt t 5, bt t 6, bt t 7, bt t 8, bt t 9, bt t 10]⟩ := by
  obtain ⟨⟨l⟩⟩ := t
  have h : l.length = 11 := h
  obtain ⟨a0, l, rfl⟩ := List.exists_cons_of_length_eq_add_one h
  obtain ⟨a1, l, rfl⟩ := List.exists_cons_of_length_eq_add_one (Nat.succ.inj h)
  have h := Nat.succ.inj (Nat.succ.inj h)
  obtain ⟨a2, l, rfl⟩ := List.exists_cons_of_length_eq_add_one h
  have h := Nat.succ.inj h
  obtain ⟨a3, l, rfl⟩ := List.exists_cons_of_length_eq_add_one h
  have h := Nat.succ.inj h
  obtain ⟨a4, l, rfl⟩ := List.exists_cons_of_length_eq_add_one h
  have h := Nat.succ.inj h
  obtain ⟨a5, l, rfl⟩ := List.exists_cons_of_length_eq_add_one h
  have h := Nat.succ.inj h
  obtain ⟨a6, l, rfl⟩ := List.exists_cons_of_length_eq_add_one h
  have h := Nat.succ.inj h
  obtain ⟨a7, l, rfl⟩ := List.exists_cons_of_length_eq_add_one h
  have h := Nat.succ.inj h
  obtain ⟨a8, l, rfl⟩ := List.exists_cons_of_length_eq_add_one h
  have h := Nat.succ.inj h
  obtain ⟨a9, l, rfl⟩ := List.exists_cons_of_length_eq_add_one h
  have h := Nat.succ.inj h
  obtain ⟨a10, l, rfl⟩ := List.exists_cons_of_length_eq_add_one h
  have h := Nat.succ.inj h
  obtain rfl := List.eq_nil_of_length_eq_zero h
  rfl
/-- The fault that Read tells, and the parts of the stamp. -/
def rE (r : Int) (t : ByteArray) : Int := if rateB r = false then 16 else if t.size = 11 then rdE r (bt t 0) (bt t 1) (bt t 2) (bt t 3) (bt t 4) (bt t 5) (bt t 6) (bt t 7) (bt t 8) (bt t 9) (bt t 10) else 9
def rN (r : Int) (t : ByteArray) (j : Nat) : Int := if rE r t = 0 then numS (bt t (3 * j)) (bt t (3 * j + 1)) else 0
def rV (r : Int) (t : ByteArray) : Value := .tuple #[.agg #[.int .i64 (rN r t 0), .int .i64 (rN r t 1), .int .i64 (rN r t 2), .int .i64 (rN r t 3)], .int .i64 (rE r t)]
theorem rV_no {r : Int} {t : ByteArray} {e : Int} (h : rE r t = e) (he : ¬ e = 0) : rV r t = .tuple #[.agg #[.int .i64 0, .int .i64 0, .int .i64 0, .int .i64 0], .int .i64 e] := by
  subst h
  unfold rV rN
  simp only [if_neg he]
theorem rV_11 {r : Int} {t : ByteArray} (hr : rateB r = true) (h : t.size = 11) : rV r t = rdV r (bt t 0) (bt t 1) (bt t 2) (bt t 3) (bt t 4) (bt t 5) (bt t 6) (bt t 7) (bt t 8) (bt t 9) (bt t 10) := by
  have e : rE r t = rdE r (bt t 0) (bt t 1) (bt t 2) (bt t 3) (bt t 4) (bt t 5) (bt t 6) (bt t 7) (bt t 8) (bt t 9) (bt t 10) := by rw [rE, if_neg (by rw [hr]; decide), if_pos h]
  unfold rV rN rdV outV
  rw [e]
theorem Read8_any (r : Int) (t : ByteArray) (w : World) :
    Calls Tryd.prog 8 #[.int .i64 r, .string t] w fun e w' => e = .returned (rV r t) ∧ Gr w w' := by
  cases hr : rateB r
  · rw [rV_no (e := 16) (by rw [rE, if_pos hr]) (by decide)]
    exact Read8_mode r t w hr
  · by_cases ht : t.size = 11
    · rw [rV_11 hr ht]
      have h := Read8_go r (bt t 0) (bt t 1) (bt t 2) (bt t 3) (bt t 4) (bt t 5) (bt t 6) (bt t 7) (bt t 8) (bt t 9) (bt t 10) w hr
      rw [← eleven ht] at h
      exact h
    · rw [rV_no (e := 9) (by rw [rE, if_neg (by rw [hr]; decide), if_neg ht]) (by decide)]
      exact Read8_size r t w hr ht
theorem Read_any (r : Int) (t : ByteArray) (w : World) :
    Calls Tryd.prog 7 #[.int .i64 r, .string t] w fun e w' => e = .returned (rV r t) ∧ Gr w w' := by
  cases hr : rateB r
  · rw [rV_no (e := 16) (by rw [rE, if_pos hr]) (by decide)]
    exact Read_mode r t w hr
  · by_cases ht : t.size = 11
    · rw [rV_11 hr ht]
      have hp : rdV r (bt t 0) (bt t 1) (bt t 2) (bt t 3) (bt t 4) (bt t 5) (bt t 6) (bt t 7) (bt t 8) (bt t 9) (bt t 10) = rpV r (bt t 0) (bt t 1) (bt t 2) (bt t 3) (bt t 4) (bt t 5) (bt t 6) (bt t 7) (bt t 8) (bt t 9) (bt t 10) := by rw [rdV, rpV, rd_eq]
      rw [hp]
      cases hs : sepB r (bt t 0) (bt t 1) (bt t 2) (bt t 3) (bt t 4) (bt t 5) (bt t 6) (bt t 7) (bt t 8) (bt t 9) (bt t 10)
      · rw [rpV_sep hs]
        have h := Read_sep r (bt t 0) (bt t 1) (bt t 2) (bt t 3) (bt t 4) (bt t 5) (bt t 6) (bt t 7) (bt t 8) (bt t 9) (bt t 10) w hr hs
        rw [← eleven ht] at h
        exact h
      · have h := Read_go r (bt t 0) (bt t 1) (bt t 2) (bt t 3) (bt t 4) (bt t 5) (bt t 6) (bt t 7) (bt t 8) (bt t 9) (bt t 10) w hr hs
        rw [← eleven ht] at h
        exact h
    · rw [rV_no (e := 9) (by rw [rE, if_neg (by rw [hr]; decide), if_neg ht]) (by decide)]
      exact Read_size r t w hr ht
/-- What Show writes, Read reads. -/
theorem dig_back {n : Int} (h : in99 n) : isD (dig (n / 10)) = true ∧ isD (dig (n % 10)) = true ∧ numS (dig (n / 10)) (dig (n % 10)) = n := by
  obtain ⟨k, rfl⟩ := Int.eq_ofNat_of_zero_le h.1
  have hk : k < 100 := by have := h.2; omega
  have H : ∀ k : Nat, k < 100 → isD (dig ((k : Int) / 10)) = true ∧ isD (dig ((k : Int) % 10)) = true ∧ numS (dig ((k : Int) / 10)) (dig ((k : Int) % 10)) = (k : Int) := by decide +kernel
  exact H k hk
theorem read_show {r h m s f : Int} (hz : chkF r h m s f = 0) : rE r (showS r h m s f) = 0 ∧ rN r (showS r h m s f) 0 = h ∧ rN r (showS r h m s f) 1 = m ∧ rN r (showS r h m s f) 2 = s ∧ rN r (showS r h m s f) 3 = f := by
  have k := okS_of hz
  obtain ⟨g1, g2, g3, g4⟩ := okS_99 k
  obtain ⟨a1, b1, c1⟩ := dig_back g1
  obtain ⟨a2, b2, c2⟩ := dig_back g2
  obtain ⟨a3, b3, c3⟩ := dig_back g3
  obtain ⟨a4, b4, c4⟩ := dig_back g4
  have e : rE r (showS r h m s f) = 0 := by
    rw [rE, if_neg (by rw [k.1]; decide), if_pos (by rw [showS_eq]; rfl)]
    show rdE r (dig (h / 10)) (dig (h % 10)) 58 (dig (m / 10)) (dig (m % 10)) 58 (dig (s / 10)) (dig (s % 10)) (mkC r) (dig (f / 10)) (dig (f % 10)) = 0
    rw [rdE, if_neg (by unfold digB; simp only [a1, b1, a2, b2, a3, b3, a4, b4]; decide), c1, c2, c3, c4, if_pos (showS_eq r h m s f)]
    exact hz
  refine ⟨e, ?_, ?_, ?_, ?_⟩ <;> rw [rN, if_pos e]
  · exact c1
  · exact c2
  · exact c3
  · exact c4
theorem show_read {r : Int} {t : ByteArray} (h : rE r t = 0) : chkF r (rN r t 0) (rN r t 1) (rN r t 2) (rN r t 3) = 0 ∧ showS r (rN r t 0) (rN r t 1) (rN r t 2) (rN r t 3) = t := by
  have e0 : ∀ j, rN r t j = numS (bt t (3 * j)) (bt t (3 * j + 1)) := fun j => by rw [rN, if_pos h]
  rw [e0, e0, e0, e0]
  cases hr : rateB r
  · rw [rE, if_pos hr] at h; cases h
  · rw [rE, if_neg (by rw [hr]; decide)] at h
    by_cases ht : t.size = 11
    · rw [if_pos ht, rdE] at h
      by_cases hd : digB (bt t 0) (bt t 1) (bt t 2) (bt t 3) (bt t 4) (bt t 5) (bt t 6) (bt t 7) (bt t 8) (bt t 9) (bt t 10) = false
      · rw [if_pos hd] at h; cases h
      · rw [if_neg hd] at h
        by_cases hs : showS r (numS (bt t 0) (bt t 1)) (numS (bt t 3) (bt t 4)) (numS (bt t 6) (bt t 7)) (numS (bt t 9) (bt t 10)) = ⟨#[bt t 0, bt t 1, bt t 2, bt t 3, bt t 4, bt t 5, bt t 6, bt t 7, bt t 8, bt t 9, bt t 10]⟩
        · rw [if_pos hs] at h
          exact ⟨h, hs.trans (eleven ht).symm⟩
        · rw [if_neg hs] at h; cases h
    · rw [if_neg ht] at h; cases h
end Go.Proofs.YtchbbdplopchlaaDoor
