/- Library functions on slices of ints: Clone, Reverse. -/
import Derived.Test.YtjhdogdaldlkhaaSlA
import Derived.Test.YtjhdogdaldlkhaaShelf
import Derived.Maps.AppendAt
namespace Go.Proofs.Ytjhdogdaldlkhaa
open Go.RowKit
set_option linter.unusedVariables false
set_option linter.unusedSimpArgs false

theorem setCells_own {base : Nat} {e : TypeId} {g n cap : Nat} : ∀ (vs : List Value) (o : Nat) (w : World) (xs : List Value), w.ownsRow base e 1 (.slice (some ⟨g, 0, none⟩) n cap) n xs → o + vs.length = xs.length →
    (w.setCells g o vs).ownsRow base e 1 (.slice (some ⟨g, 0, none⟩) n cap) n (xs.take o ++ vs) ∧ w.grownBy (w.setCells g o vs) (some g)
  | [], o, w, xs, h, hl => ⟨by rw [List.append_nil, List.take_of_length_le (by simp at hl; omega)]; exact h, World.grownBy.refl w _⟩
  | v :: r, o, w, xs, h, hl => by
    obtain ⟨h1, h2⟩ := h.stored o v
    simp only [List.length_cons] at hl
    obtain ⟨h3, h4⟩ := setCells_own r (o + 1) (w.setCell ⟨g, o, none⟩ v) (xs.set o v) h1 (by simp; omega)
    refine ⟨?_, h2.trans h4⟩
    have e1 : (xs.set o v).take (o + 1) ++ r = xs.take o ++ v :: r := by
      rw [List.take_succ_eq_append_getElem (by simp; omega), List.getElem_set_self, List.take_set_of_le (Nat.le_refl _)]
      simp
    rw [← e1]
    exact h3
theorem own_ints {w : World} {base : Nat} {e : TypeId} {v : Value} {l : List Int} (h : Own w base e intC v l) : w.ownsRow base e 1 v l.length (l.map (Value.int .i64)) := by
  obtain ⟨xs, h1, h2⟩ := h
  have hx : xs = l.map (Value.int .i64) := by
    apply List.ext_getElem
    · have := h1.1; simp [intC] at this; simpa using this
    · intro i hi hi'
      simp at hi'
      have h3 := (h2 i hi').1
      simp only [intC, Nat.mul_one] at h3
      rw [List.drop_eq_getElem_cons hi, List.take_succ_cons, List.take_zero] at h3
      injection h3 with h3
      rw [h3]; simp
  subst hx
  exact h1
theorem own_of_ints {w : World} {base : Nat} {e : TypeId} {v : Value} {l : List Int} (h : w.ownsRow base e 1 v l.length (l.map (Value.int .i64))) (hi : ∀ x ∈ l, inI x) : Own w base e intC v l := by
  refine ⟨_, h, fun i hlt => ⟨?_, hi _ (List.getElem_mem hlt)⟩⟩
  simp only [intC, Nat.mul_one]
  rw [List.drop_eq_getElem_cons (by simpa using hlt)]
  simp
theorem is_ints {w : World} {v : Value} {l : List Int} (h : (sliceC intC).is w [v] l) : ∀ x ∈ l, inI x := by
  intro x hx
  obtain ⟨i, hi, rfl⟩ := List.getElem_of_mem hx
  obtain ⟨a, n, cap, rfl, _, _, _⟩ := sliceC_open h
  obtain ⟨b, off, _, _, h3⟩ := sliceC_int h hi
  exact h3
theorem cloneI_any (l : List Int) (v : Value) (w : World) (hl : (sliceC intC).is w [v] l) (h8 : l.length ≤ 10000000000000) :
    Calls Try.prog 18 #[v] w fun e w' => ∃ v', e = .returned v' ∧ Own w' w.heap.size 3 intC v' l ∧ Gr w w' := by
  have hI := is_ints hl
  rcases hl with ⟨h1, rfl⟩ | ⟨b, off, sp, cap, h1, h2, h3, h4⟩
  · obtain rfl : v = .slice none 0 0 := by simpa using h1
    exact (Try.slices_Clone_int_nil 0 0 w).mono fun e w' ⟨he, hw⟩ => ⟨_, he, by subst hw; exact Own.nil _ _ _ _, by subst hw; exact Gr.refl _⟩
  · obtain rfl : v = .slice (some ⟨b, off, sp⟩) l.length cap := by simpa using h1
    by_cases h0 : l.length = 0
    · rw [h0]
      obtain rfl : l = [] := List.eq_nil_of_length_eq_zero h0
      exact (Try.slices_Clone_int_zero ⟨b, off, sp⟩ cap w).mono fun e w' ⟨v', he, ho, _, hb⟩ => ⟨v', he, own_of_ints (by simpa using ho) hI, hb⟩
    · obtain ⟨rfl, _⟩ := h4 0 (by omega)
      refine (Try.slices_Clone_int b off l.length cap l w (Nat.le_refl _) (by omega) (fun j hj => ?_)).mono fun e w' ⟨v', he, ho, _, hb⟩ => ⟨v', he, own_of_ints (by simpa using ho) hI, hb⟩
      obtain ⟨_, cs, hc, hcs⟩ := h4 j hj
      obtain ⟨rfl, _⟩ := hcs
      have := hc 0 (by decide)
      simp only [intC, Nat.mul_one, Nat.add_zero, List.getElem?_cons_zero] at this
      rw [this]; simp [List.getD, List.getElem?_eq_getElem hj]
theorem reverseI_any (l : List Int) (v : Value) (base : Nat) (w : World) (hl : Own w base 3 intC v l) :
    Calls Try.prog 19 #[v] w fun e w' => e = .returned (.tuple #[]) ∧ Own w' base 3 intC v l.reverse ∧ w.grownBy w' v.ownBlock := by
  have hI := is_ints hl.is
  have ho := own_ints hl
  by_cases h0 : l.length = 0
  · obtain rfl : l = [] := List.eq_nil_of_length_eq_zero h0
    obtain ⟨a, n, cap, rfl, hn, _, _⟩ := hl.shape
    obtain rfl : n = 0 := hn.out
    exact (Try.slices_Reverse_int_empty a cap w).mono fun e w' ⟨he, hw⟩ => ⟨he, by subst hw; exact hl, by subst hw; exact World.grownBy.refl _ _⟩
  · rcases ho.2 with ⟨_, h⟩ | ⟨g, cap, cur, rfl, hb, hg, hnc, hcm, hsz, htk⟩
    · omega
    · refine (Try.slices_Reverse_int_cells g 0 l.length cap l w (Nat.le_refl _) (by unfold maxLen at hcm; omega) (fun j hj => ?_) (fun j hj => ?_)).mono fun e w' ⟨he, q, hw⟩ => ?_
      · rw [Nat.zero_add, ho.cellAt j (by omega)]
        simp [List.getD, List.getElem?_eq_getElem hj]
      · rw [Nat.zero_add]; exact ho.frozenAt j
      · have h1 : (w.drewN q).ownsRow base 3 1 (.slice (some ⟨g, 0, none⟩) l.length cap) l.length (l.map (Value.int .i64)) := ho
        obtain ⟨h2, h3⟩ := setCells_own (List.map (Value.int .i64) (l.take l.length).reverse) 0 (w.drewN q) _ h1 (by simp)
        rw [← hw] at h2 h3
        refine ⟨he, ?_, ⟨h3.os, h3.tape, h3.output, h3.size, h3.block⟩⟩
        rw [List.take_length, List.take_zero, List.nil_append] at h2
        have := own_of_ints (l := l.reverse) (by rw [List.length_reverse]; exact h2) (fun x hx => hI x (List.mem_reverse.1 hx))
        exact this
end Go.Proofs.Ytjhdogdaldlkhaa
