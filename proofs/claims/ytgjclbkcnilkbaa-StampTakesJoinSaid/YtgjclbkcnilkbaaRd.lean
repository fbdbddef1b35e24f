/- Codecs: what it means that cells hold a number, a string, a struct, a slice; and that an argument that can be read has such cells. -/
import Derived.Test.YtgjclbkcnilkbaaBs
import Derived.Deep.Slices
namespace Go.Proofs.Ytgjclbkcnilkbaa
open Go.RowKit Go.Deep
set_option linter.unusedVariables false
set_option linter.unusedSimpArgs false

theorem Gr.cells {w w' : World} (g : Gr w w') {a : Addr} {n : Nat} {cs : List Value} (h : ∀ i, i < n → w.cell? (a.add i) = cs[i]?) (hl : cs.length = n) : ∀ i, i < n → w'.cell? (a.add i) = cs[i]? := by
  intro i hi
  have h1 := h i hi
  rw [List.getElem?_eq_getElem (by omega)] at h1 ⊢
  exact g.cell h1

/-- How values of a Lean type lie in cells. -/
structure Cod (α : Type) where
  size : Nat
  is : World → List Value → α → Prop
  len : ∀ {w cs a}, is w cs a → cs.length = size
  mono : ∀ {w w' cs a}, is w cs a → Gr w w' → is w' cs a

def intC : Cod Int where
  size := 1
  is := fun _ cs n => cs = [.int .i64 n] ∧ -9223372036854775808 ≤ n ∧ n ≤ 9223372036854775807
  len := fun h => by rw [h.1]; rfl
  mono := fun h _ => h
def boolC : Cod Bool where
  size := 1
  is := fun _ cs b => cs = [.bool b]
  len := fun h => by rw [h]; rfl
  mono := fun h _ => h
def strC : Cod ByteArray where
  size := 1
  is := fun _ cs s => cs = [.string s] ∧ s.size ≤ maxLen
  len := fun h => by rw [h.1]; rfl
  mono := fun h _ => h
def Cod.pair {α β : Type} (c : Cod α) (d : Cod β) : Cod (α × β) where
  size := c.size + d.size
  is := fun w cs x => c.is w (cs.take c.size) x.1 ∧ d.is w (cs.drop c.size) x.2
  len := fun {w cs a} h => by
    have h1 := c.len h.1
    have h2 := d.len h.2
    simp at h1 h2
    omega
  mono := fun h g => ⟨c.mono h.1 g, d.mono h.2 g⟩
/-- A view of the same cells by another type. -/
def Cod.map {α β : Type} (c : Cod α) (f : α → β) : Cod β where
  size := c.size
  is := fun w cs b => ∃ a, c.is w cs a ∧ f a = b
  len := fun h => by obtain ⟨a, h, _⟩ := h; exact c.len h
  mono := fun h g => by obtain ⟨a, h, e⟩ := h; exact ⟨a, c.mono h g, e⟩
/-- A slice's elements, one behind the other. -/
def sliceC {α : Type} (c : Cod α) : Cod (List α) where
  size := 1
  is := fun w cs l => (cs = [.slice none 0 0] ∧ l = []) ∨ ∃ (b off : Nat) (sp : Option Nat) (cap : Nat), cs = [.slice (some ⟨b, off, sp⟩) l.length cap] ∧ l.length ≤ cap ∧ cap ≤ maxLen ∧
    ∀ i (h : i < l.length), sp = none ∧ ∃ cs', (∀ j, j < c.size → w.cell? ⟨b, off + (i * c.size + j), none⟩ = cs'[j]?) ∧ c.is w cs' l[i]
  len := fun h => by
    rcases h with ⟨rfl, _⟩ | ⟨b, off, sp, cap, rfl, _⟩ <;> rfl
  mono := fun {w w' cs l} h g => by
    rcases h with h | ⟨b, off, sp, cap, h1, h2, h3, h4⟩
    · exact .inl h
    · refine .inr ⟨b, off, sp, cap, h1, h2, h3, fun i hi => ?_⟩
      obtain ⟨e, cs', h5, h6⟩ := h4 i hi
      refine ⟨e, cs', fun j hj => ?_, c.mono h6 g⟩
      have h7 := h5 j hj
      have hl := c.len h6
      rw [List.getElem?_eq_getElem (by omega)] at h7 ⊢
      exact g.cell h7

/-- Whatever can be read as a value of type t has cells of this codec. -/
def Reads {α : Type} (P : Program) (c : Cod α) (t : TypeId) : Prop :=
  ∀ {H : Type} {enc : TypeId × Value → H} {w : World} {base : Nat} {spare : Nat → Bool} {held : Bool} {fuel : Nat} {cs : List Value} {x : DataW H × List MemPlace},
    DataW.trod enc P w base spare held fuel t cs = some x → ∃ a, c.is w cs a

theorem wf_i64 {n : Int} (h : (Lit.int .i64 n).wf = true) : -9223372036854775808 ≤ n ∧ n ≤ 9223372036854775807 := by
  simpa [Lit.wf, IntKind.min, IntKind.max, IntKind.signed, IntKind.bits] using h
theorem reads_int {P : Program} {t : TypeId} (ht : P.underlying t = some (.int .i64)) : Reads P intC t := by
  intro H enc w base spare held fuel cs x h
  obtain ⟨n, rfl, _, hw⟩ := DataW.trod_int ht h
  exact ⟨n, rfl, wf_i64 hw⟩
theorem reads_bool {P : Program} {t : TypeId} (ht : P.underlying t = some .bool) : Reads P boolC t := by
  intro H enc w base spare held fuel cs x h
  obtain ⟨n, rfl, _⟩ := DataW.trod_bool ht h
  exact ⟨n, rfl⟩
theorem reads_str {P : Program} {t : TypeId} (ht : P.underlying t = some .string) : Reads P strC t := by
  intro H enc w base spare held fuel cs x h
  obtain ⟨n, rfl, _, hw⟩ := DataW.trod_string ht h
  exact ⟨n, rfl, hw⟩
theorem reads_map {P : Program} {α β : Type} {c : Cod α} {t : TypeId} (f : α → β) (h : Reads P c t) : Reads P (c.map f) t := by
  intro H enc w base spare held fuel cs x h1
  obtain ⟨a, ha⟩ := h h1
  exact ⟨f a, a, ha, rfl⟩
theorem reads_slice {P : Program} {α : Type} {c : Cod α} {t e : TypeId} (ht : P.underlying t = some (.slice e)) (hz : P.cellsOf e = c.size) (hp : 0 < c.size) (hr : Reads P c e) : Reads P (sliceC c) t := by
  intro H enc w base spare held fuel cs x h
  rcases open_slice ht h with ⟨rfl, _⟩ | ⟨a, len, cap, m, n, D, Pl, rfl, hb, hl, hm, hmm, hxe, hx⟩
  · exact ⟨[], .inl ⟨rfl, rfl⟩⟩
  · have hlm : len ≤ m := by rw [hmm]; split <;> omega
    have key : ∀ i, i < len → ∃ (y : α) (cs' : List Value), (∀ j, j < c.size → w.cell? (a.add (i * c.size + j)) = cs'[j]?) ∧ c.is w cs' y := by
      intro i hi
      obtain ⟨cs', h1, h2⟩ := hx i (by omega)
      obtain ⟨y, hy⟩ := hr h2
      obtain ⟨_, h3, h4⟩ := World.cells?_some h1
      refine ⟨y, cs', fun j hj => ?_, hy⟩
      have := h4 j (by rw [hz]; exact hj)
      rw [hz] at this
      rw [← this, add_add]
    obtain ⟨ys, hys⟩ : ∃ ys : List α, ys.length = len ∧ ∀ i (h : i < ys.length), ∃ cs', (∀ j, j < c.size → w.cell? (a.add (i * c.size + j)) = cs'[j]?) ∧ c.is w cs' ys[i] := by
      clear hx hlm hmm h hl hxe
      induction len with
      | zero => exact ⟨[], rfl, fun i h => by simp at h⟩
      | succ k ih =>
        obtain ⟨ys, h1, h2⟩ := ih (fun i hi => key i (by omega))
        obtain ⟨y, cs', h3, h4⟩ := key k (by omega)
        refine ⟨ys ++ [y], by simp [h1], fun i hi => ?_⟩
        by_cases hk : i < ys.length
        · rw [List.getElem_append_left hk]; exact h2 i hk
        · have : i = k := by simp at hi; omega
          subst this
          rw [List.getElem_append_right (by omega)]
          simp only [h1, Nat.sub_self, List.getElem_cons_zero]
          exact ⟨cs', h3, h4⟩
    obtain ⟨h1, h2⟩ := hys
    obtain ⟨b, off, sp⟩ := a
    refine ⟨ys, .inr ⟨b, off, sp, cap, by rw [h1], by omega, hm, fun i hi => ?_⟩⟩
    have hs : sp = none := by
      cases sp with
      | none => rfl
      | some q =>
        exfalso
        obtain ⟨cs', h3, h4⟩ := h2 0 (by omega)
        have h5 := h3 0 hp
        have hl := c.len h4
        rw [List.getElem?_eq_getElem (by omega)] at h5
        simp only [Nat.zero_mul, Nat.zero_add, World.cell?, Addr.add] at h5
        split at h5 <;> simp at h5
    obtain ⟨cs', h3, h4⟩ := h2 i hi
    subst hs
    refine ⟨rfl, cs', fun j hj => ?_, h4⟩
    have h6 := h3 j hj
    rw [← h6]
    congr 1
    simp only [Addr.add]
    split
    · rename_i h7; simp only [h7, Nat.add_zero]
    · rfl
theorem take_drop_all {α : Type} (l : List α) (o n : Nat) (h : l.length = o + n) : (l.drop o).take n = l.drop o := List.take_of_length_le (by simp; omega)

theorem reads_struct1 {P : Program} {α0 : Type} {t : TypeId} {f0 : Field} {c0 : Cod α0} (ht : P.underlying t = some (.struct #[f0])) (hz : P.cellsOf t = c0.size) (o0 : f0.offset = 0) (z0 : P.cellsOf f0.type = c0.size) (r0 : Reads P c0 f0.type) : Reads P c0 t := by
  intro H enc w base spare held fuel cs x h
  obtain ⟨xs, m, _, _, hlen, hxl, hf⟩ := DataW.trod_struct ht h
  rw [hz] at hlen
  have hxl : xs.length = 1 := hxl
  have h0 := hf 0 f0 rfl
  rw [o0, z0, List.getElem?_eq_getElem (show 0 < xs.length by omega)] at h0
  obtain ⟨a0, k0⟩ := r0 h0
  rw [take_drop_all cs (0) c0.size (by omega)] at k0
  refine ⟨a0, ?_⟩
  simpa using k0
theorem reads_struct2 {P : Program} {α0 α1 : Type} {t : TypeId} {f0 f1 : Field} {c0 : Cod α0} {c1 : Cod α1} (ht : P.underlying t = some (.struct #[f0, f1])) (hz : P.cellsOf t = c0.size + c1.size) (o0 : f0.offset = 0) (o1 : f1.offset = c0.size) (z0 : P.cellsOf f0.type = c0.size) (z1 : P.cellsOf f1.type = c1.size) (r0 : Reads P c0 f0.type) (r1 : Reads P c1 f1.type) : Reads P (c0.pair c1) t := by
  intro H enc w base spare held fuel cs x h
  obtain ⟨xs, m, _, _, hlen, hxl, hf⟩ := DataW.trod_struct ht h
  rw [hz] at hlen
  have hxl : xs.length = 2 := hxl
  have h0 := hf 0 f0 rfl
  rw [o0, z0, List.getElem?_eq_getElem (show 0 < xs.length by omega)] at h0
  obtain ⟨a0, k0⟩ := r0 h0
  have h1 := hf 1 f1 rfl
  rw [o1, z1, List.getElem?_eq_getElem (show 1 < xs.length by omega)] at h1
  obtain ⟨a1, k1⟩ := r1 h1
  rw [take_drop_all cs (c0.size) c1.size (by omega)] at k1
  refine ⟨(a0, a1), ?_⟩
  exact ⟨by simpa using k0, (by simpa [List.drop_drop, Nat.add_assoc] using k1)⟩
theorem reads_struct3 {P : Program} {α0 α1 α2 : Type} {t : TypeId} {f0 f1 f2 : Field} {c0 : Cod α0} {c1 : Cod α1} {c2 : Cod α2} (ht : P.underlying t = some (.struct #[f0, f1, f2])) (hz : P.cellsOf t = c0.size + c1.size + c2.size) (o0 : f0.offset = 0) (o1 : f1.offset = c0.size) (o2 : f2.offset = c0.size + c1.size) (z0 : P.cellsOf f0.type = c0.size) (z1 : P.cellsOf f1.type = c1.size) (z2 : P.cellsOf f2.type = c2.size) (r0 : Reads P c0 f0.type) (r1 : Reads P c1 f1.type) (r2 : Reads P c2 f2.type) : Reads P (c0.pair (c1.pair c2)) t := by
  intro H enc w base spare held fuel cs x h
  obtain ⟨xs, m, _, _, hlen, hxl, hf⟩ := DataW.trod_struct ht h
  rw [hz] at hlen
  have hxl : xs.length = 3 := hxl
  have h0 := hf 0 f0 rfl
  rw [o0, z0, List.getElem?_eq_getElem (show 0 < xs.length by omega)] at h0
  obtain ⟨a0, k0⟩ := r0 h0
  have h1 := hf 1 f1 rfl
  rw [o1, z1, List.getElem?_eq_getElem (show 1 < xs.length by omega)] at h1
  obtain ⟨a1, k1⟩ := r1 h1
  have h2 := hf 2 f2 rfl
  rw [o2, z2, List.getElem?_eq_getElem (show 2 < xs.length by omega)] at h2
  obtain ⟨a2, k2⟩ := r2 h2
  rw [take_drop_all cs (c0.size + c1.size) c2.size (by omega)] at k2
  refine ⟨(a0, (a1, a2)), ?_⟩
  exact ⟨by simpa using k0, ⟨by simpa [List.drop_drop, Nat.add_assoc] using k1, (by simpa [List.drop_drop, Nat.add_assoc] using k2)⟩⟩
theorem reads_struct4 {P : Program} {α0 α1 α2 α3 : Type} {t : TypeId} {f0 f1 f2 f3 : Field} {c0 : Cod α0} {c1 : Cod α1} {c2 : Cod α2} {c3 : Cod α3} (ht : P.underlying t = some (.struct #[f0, f1, f2, f3])) (hz : P.cellsOf t = c0.size + c1.size + c2.size + c3.size) (o0 : f0.offset = 0) (o1 : f1.offset = c0.size) (o2 : f2.offset = c0.size + c1.size) (o3 : f3.offset = c0.size + c1.size + c2.size) (z0 : P.cellsOf f0.type = c0.size) (z1 : P.cellsOf f1.type = c1.size) (z2 : P.cellsOf f2.type = c2.size) (z3 : P.cellsOf f3.type = c3.size) (r0 : Reads P c0 f0.type) (r1 : Reads P c1 f1.type) (r2 : Reads P c2 f2.type) (r3 : Reads P c3 f3.type) : Reads P (c0.pair (c1.pair (c2.pair c3))) t := by
  intro H enc w base spare held fuel cs x h
  obtain ⟨xs, m, _, _, hlen, hxl, hf⟩ := DataW.trod_struct ht h
  rw [hz] at hlen
  have hxl : xs.length = 4 := hxl
  have h0 := hf 0 f0 rfl
  rw [o0, z0, List.getElem?_eq_getElem (show 0 < xs.length by omega)] at h0
  obtain ⟨a0, k0⟩ := r0 h0
  have h1 := hf 1 f1 rfl
  rw [o1, z1, List.getElem?_eq_getElem (show 1 < xs.length by omega)] at h1
  obtain ⟨a1, k1⟩ := r1 h1
  have h2 := hf 2 f2 rfl
  rw [o2, z2, List.getElem?_eq_getElem (show 2 < xs.length by omega)] at h2
  obtain ⟨a2, k2⟩ := r2 h2
  have h3 := hf 3 f3 rfl
  rw [o3, z3, List.getElem?_eq_getElem (show 3 < xs.length by omega)] at h3
  obtain ⟨a3, k3⟩ := r3 h3
  rw [take_drop_all cs (c0.size + c1.size + c2.size) c3.size (by omega)] at k3
  refine ⟨(a0, (a1, (a2, a3))), ?_⟩
  exact ⟨by simpa using k0, ⟨by simpa [List.drop_drop, Nat.add_assoc] using k1, ⟨by simpa [List.drop_drop, Nat.add_assoc] using k2, (by simpa [List.drop_drop, Nat.add_assoc] using k3)⟩⟩⟩
theorem reads_struct5 {P : Program} {α0 α1 α2 α3 α4 : Type} {t : TypeId} {f0 f1 f2 f3 f4 : Field} {c0 : Cod α0} {c1 : Cod α1} {c2 : Cod α2} {c3 : Cod α3} {c4 : Cod α4} (ht : P.underlying t = some (.struct #[f0, f1, f2, f3, f4])) (hz : P.cellsOf t = c0.size + c1.size + c2.size + c3.size + c4.size) (o0 : f0.offset = 0) (o1 : f1.offset = c0.size) (o2 : f2.offset = c0.size + c1.size) (o3 : f3.offset = c0.size + c1.size + c2.size) (o4 : f4.offset = c0.size + c1.size + c2.size + c3.size) (z0 : P.cellsOf f0.type = c0.size) (z1 : P.cellsOf f1.type = c1.size) (z2 : P.cellsOf f2.type = c2.size) (z3 : P.cellsOf f3.type = c3.size) (z4 : P.cellsOf f4.type = c4.size) (r0 : Reads P c0 f0.type) (r1 : Reads P c1 f1.type) (r2 : Reads P c2 f2.type) (r3 : Reads P c3 f3.type) (r4 : Reads P c4 f4.type) : Reads P (c0.pair (c1.pair (c2.pair (c3.pair c4)))) t := by
  intro H enc w base spare held fuel cs x h
  obtain ⟨xs, m, _, _, hlen, hxl, hf⟩ := DataW.trod_struct ht h
  rw [hz] at hlen
  have hxl : xs.length = 5 := hxl
  have h0 := hf 0 f0 rfl
  rw [o0, z0, List.getElem?_eq_getElem (show 0 < xs.length by omega)] at h0
  obtain ⟨a0, k0⟩ := r0 h0
  have h1 := hf 1 f1 rfl
  rw [o1, z1, List.getElem?_eq_getElem (show 1 < xs.length by omega)] at h1
  obtain ⟨a1, k1⟩ := r1 h1
  have h2 := hf 2 f2 rfl
  rw [o2, z2, List.getElem?_eq_getElem (show 2 < xs.length by omega)] at h2
  obtain ⟨a2, k2⟩ := r2 h2
  have h3 := hf 3 f3 rfl
  rw [o3, z3, List.getElem?_eq_getElem (show 3 < xs.length by omega)] at h3
  obtain ⟨a3, k3⟩ := r3 h3
  have h4 := hf 4 f4 rfl
  rw [o4, z4, List.getElem?_eq_getElem (show 4 < xs.length by omega)] at h4
  obtain ⟨a4, k4⟩ := r4 h4
  rw [take_drop_all cs (c0.size + c1.size + c2.size + c3.size) c4.size (by omega)] at k4
  refine ⟨(a0, (a1, (a2, (a3, a4)))), ?_⟩
  exact ⟨by simpa using k0, ⟨by simpa [List.drop_drop, Nat.add_assoc] using k1, ⟨by simpa [List.drop_drop, Nat.add_assoc] using k2, ⟨by simpa [List.drop_drop, Nat.add_assoc] using k3, (by simpa [List.drop_drop, Nat.add_assoc] using k4)⟩⟩⟩⟩
theorem reads_struct6 {P : Program} {α0 α1 α2 α3 α4 α5 : Type} {t : TypeId} {f0 f1 f2 f3 f4 f5 : Field} {c0 : Cod α0} {c1 : Cod α1} {c2 : Cod α2} {c3 : Cod α3} {c4 : Cod α4} {c5 : Cod α5} (ht : P.underlying t = some (.struct #[f0, f1, f2, f3, f4, f5])) (hz : P.cellsOf t = c0.size + c1.size + c2.size + c3.size + c4.size + c5.size) (o0 : f0.offset = 0) (o1 : f1.offset = c0.size) (o2 : f2.offset = c0.size + c1.size) (o3 : f3.offset = c0.size + c1.size + c2.size) (o4 : f4.offset = c0.size + c1.size + c2.size + c3.size) (o5 : f5.offset = c0.size + c1.size + c2.size + c3.size + c4.size) (z0 : P.cellsOf f0.type = c0.size) (z1 : P.cellsOf f1.type = c1.size) (z2 : P.cellsOf f2.type = c2.size) (z3 : P.cellsOf f3.type = c3.size) (z4 : P.cellsOf f4.type = c4.size) (z5 : P.cellsOf f5.type = c5.size) (r0 : Reads P c0 f0.type) (r1 : Reads P c1 f1.type) (r2 : Reads P c2 f2.type) (r3 : Reads P c3 f3.type) (r4 : Reads P c4 f4.type) (r5 : Reads P c5 f5.type) : Reads P (c0.pair (c1.pair (c2.pair (c3.pair (c4.pair c5))))) t := by
  intro H enc w base spare held fuel cs x h
  obtain ⟨xs, m, _, _, hlen, hxl, hf⟩ := DataW.trod_struct ht h
  rw [hz] at hlen
  have hxl : xs.length = 6 := hxl
  have h0 := hf 0 f0 rfl
  rw [o0, z0, List.getElem?_eq_getElem (show 0 < xs.length by omega)] at h0
  obtain ⟨a0, k0⟩ := r0 h0
  have h1 := hf 1 f1 rfl
  rw [o1, z1, List.getElem?_eq_getElem (show 1 < xs.length by omega)] at h1
  obtain ⟨a1, k1⟩ := r1 h1
  have h2 := hf 2 f2 rfl
  rw [o2, z2, List.getElem?_eq_getElem (show 2 < xs.length by omega)] at h2
  obtain ⟨a2, k2⟩ := r2 h2
  have h3 := hf 3 f3 rfl
  rw [o3, z3, List.getElem?_eq_getElem (show 3 < xs.length by omega)] at h3
  obtain ⟨a3, k3⟩ := r3 h3
  have h4 := hf 4 f4 rfl
  rw [o4, z4, List.getElem?_eq_getElem (show 4 < xs.length by omega)] at h4
  obtain ⟨a4, k4⟩ := r4 h4
  have h5 := hf 5 f5 rfl
  rw [o5, z5, List.getElem?_eq_getElem (show 5 < xs.length by omega)] at h5
  obtain ⟨a5, k5⟩ := r5 h5
  rw [take_drop_all cs (c0.size + c1.size + c2.size + c3.size + c4.size) c5.size (by omega)] at k5
  refine ⟨(a0, (a1, (a2, (a3, (a4, a5))))), ?_⟩
  exact ⟨by simpa using k0, ⟨by simpa [List.drop_drop, Nat.add_assoc] using k1, ⟨by simpa [List.drop_drop, Nat.add_assoc] using k2, ⟨by simpa [List.drop_drop, Nat.add_assoc] using k3, ⟨by simpa [List.drop_drop, Nat.add_assoc] using k4, (by simpa [List.drop_drop, Nat.add_assoc] using k5)⟩⟩⟩⟩⟩
theorem reads_struct7 {P : Program} {α0 α1 α2 α3 α4 α5 α6 : Type} {t : TypeId} {f0 f1 f2 f3 f4 f5 f6 : Field} {c0 : Cod α0} {c1 : Cod α1} {c2 : Cod α2} {c3 : Cod α3} {c4 : Cod α4} {c5 : Cod α5} {c6 : Cod α6} (ht : P.underlying t = some (.struct #[f0, f1, f2, f3, f4, f5, f6])) (hz : P.cellsOf t = c0.size + c1.size + c2.size + c3.size + c4.size + c5.size + c6.size) (o0 : f0.offset = 0) (o1 : f1.offset = c0.size) (o2 : f2.offset = c0.size + c1.size) (o3 : f3.offset = c0.size + c1.size + c2.size) (o4 : f4.offset = c0.size + c1.size + c2.size + c3.size) (o5 : f5.offset = c0.size + c1.size + c2.size + c3.size + c4.size) (o6 : f6.offset = c0.size + c1.size + c2.size + c3.size + c4.size + c5.size) (z0 : P.cellsOf f0.type = c0.size) (z1 : P.cellsOf f1.type = c1.size) (z2 : P.cellsOf f2.type = c2.size) (z3 : P.cellsOf f3.type = c3.size) (z4 : P.cellsOf f4.type = c4.size) (z5 : P.cellsOf f5.type = c5.size) (z6 : P.cellsOf f6.type = c6.size) (r0 : Reads P c0 f0.type) (r1 : Reads P c1 f1.type) (r2 : Reads P c2 f2.type) (r3 : Reads P c3 f3.type) (r4 : Reads P c4 f4.type) (r5 : Reads P c5 f5.type) (r6 : Reads P c6 f6.type) : Reads P (c0.pair (c1.pair (c2.pair (c3.pair (c4.pair (c5.pair c6)))))) t := by
  intro H enc w base spare held fuel cs x h
  obtain ⟨xs, m, _, _, hlen, hxl, hf⟩ := DataW.trod_struct ht h
  rw [hz] at hlen
  have hxl : xs.length = 7 := hxl
  have h0 := hf 0 f0 rfl
  rw [o0, z0, List.getElem?_eq_getElem (show 0 < xs.length by omega)] at h0
  obtain ⟨a0, k0⟩ := r0 h0
  have h1 := hf 1 f1 rfl
  rw [o1, z1, List.getElem?_eq_getElem (show 1 < xs.length by omega)] at h1
  obtain ⟨a1, k1⟩ := r1 h1
  have h2 := hf 2 f2 rfl
  rw [o2, z2, List.getElem?_eq_getElem (show 2 < xs.length by omega)] at h2
  obtain ⟨a2, k2⟩ := r2 h2
  have h3 := hf 3 f3 rfl
  rw [o3, z3, List.getElem?_eq_getElem (show 3 < xs.length by omega)] at h3
  obtain ⟨a3, k3⟩ := r3 h3
  have h4 := hf 4 f4 rfl
  rw [o4, z4, List.getElem?_eq_getElem (show 4 < xs.length by omega)] at h4
  obtain ⟨a4, k4⟩ := r4 h4
  have h5 := hf 5 f5 rfl
  rw [o5, z5, List.getElem?_eq_getElem (show 5 < xs.length by omega)] at h5
  obtain ⟨a5, k5⟩ := r5 h5
  have h6 := hf 6 f6 rfl
  rw [o6, z6, List.getElem?_eq_getElem (show 6 < xs.length by omega)] at h6
  obtain ⟨a6, k6⟩ := r6 h6
  rw [take_drop_all cs (c0.size + c1.size + c2.size + c3.size + c4.size + c5.size) c6.size (by omega)] at k6
  refine ⟨(a0, (a1, (a2, (a3, (a4, (a5, a6)))))), ?_⟩
  exact ⟨by simpa using k0, ⟨by simpa [List.drop_drop, Nat.add_assoc] using k1, ⟨by simpa [List.drop_drop, Nat.add_assoc] using k2, ⟨by simpa [List.drop_drop, Nat.add_assoc] using k3, ⟨by simpa [List.drop_drop, Nat.add_assoc] using k4, ⟨by simpa [List.drop_drop, Nat.add_assoc] using k5, (by simpa [List.drop_drop, Nat.add_assoc] using k6)⟩⟩⟩⟩⟩⟩
theorem reads_struct8 {P : Program} {α0 α1 α2 α3 α4 α5 α6 α7 : Type} {t : TypeId} {f0 f1 f2 f3 f4 f5 f6 f7 : Field} {c0 : Cod α0} {c1 : Cod α1} {c2 : Cod α2} {c3 : Cod α3} {c4 : Cod α4} {c5 : Cod α5} {c6 : Cod α6} {c7 : Cod α7} (ht : P.underlying t = some (.struct #[f0, f1, f2, f3, f4, f5, f6, f7])) (hz : P.cellsOf t = c0.size + c1.size + c2.size + c3.size + c4.size + c5.size + c6.size + c7.size) (o0 : f0.offset = 0) (o1 : f1.offset = c0.size) (o2 : f2.offset = c0.size + c1.size) (o3 : f3.offset = c0.size + c1.size + c2.size) (o4 : f4.offset = c0.size + c1.size + c2.size + c3.size) (o5 : f5.offset = c0.size + c1.size + c2.size + c3.size + c4.size) (o6 : f6.offset = c0.size + c1.size + c2.size + c3.size + c4.size + c5.size) (o7 : f7.offset = c0.size + c1.size + c2.size + c3.size + c4.size + c5.size + c6.size) (z0 : P.cellsOf f0.type = c0.size) (z1 : P.cellsOf f1.type = c1.size) (z2 : P.cellsOf f2.type = c2.size) (z3 : P.cellsOf f3.type = c3.size) (z4 : P.cellsOf f4.type = c4.size) (z5 : P.cellsOf f5.type = c5.size) (z6 : P.cellsOf f6.type = c6.size) (z7 : P.cellsOf f7.type = c7.size) (r0 : Reads P c0 f0.type) (r1 : Reads P c1 f1.type) (r2 : Reads P c2 f2.type) (r3 : Reads P c3 f3.type) (r4 : Reads P c4 f4.type) (r5 : Reads P c5 f5.type) (r6 : Reads P c6 f6.type) (r7 : Reads P c7 f7.type) : Reads P (c0.pair (c1.pair (c2.pair (c3.pair (c4.pair (c5.pair (c6.pair c7))))))) t := by
  intro H enc w base spare held fuel cs x h
  obtain ⟨xs, m, _, _, hlen, hxl, hf⟩ := DataW.trod_struct ht h
  rw [hz] at hlen
  have hxl : xs.length = 8 := hxl
  have h0 := hf 0 f0 rfl
  rw [o0, z0, List.getElem?_eq_getElem (show 0 < xs.length by omega)] at h0
  obtain ⟨a0, k0⟩ := r0 h0
  have h1 := hf 1 f1 rfl
  rw [o1, z1, List.getElem?_eq_getElem (show 1 < xs.length by omega)] at h1
  obtain ⟨a1, k1⟩ := r1 h1
  have h2 := hf 2 f2 rfl
  rw [o2, z2, List.getElem?_eq_getElem (show 2 < xs.length by omega)] at h2
  obtain ⟨a2, k2⟩ := r2 h2
  have h3 := hf 3 f3 rfl
  rw [o3, z3, List.getElem?_eq_getElem (show 3 < xs.length by omega)] at h3
  obtain ⟨a3, k3⟩ := r3 h3
  have h4 := hf 4 f4 rfl
  rw [o4, z4, List.getElem?_eq_getElem (show 4 < xs.length by omega)] at h4
  obtain ⟨a4, k4⟩ := r4 h4
  have h5 := hf 5 f5 rfl
  rw [o5, z5, List.getElem?_eq_getElem (show 5 < xs.length by omega)] at h5
  obtain ⟨a5, k5⟩ := r5 h5
  have h6 := hf 6 f6 rfl
  rw [o6, z6, List.getElem?_eq_getElem (show 6 < xs.length by omega)] at h6
  obtain ⟨a6, k6⟩ := r6 h6
  have h7 := hf 7 f7 rfl
  rw [o7, z7, List.getElem?_eq_getElem (show 7 < xs.length by omega)] at h7
  obtain ⟨a7, k7⟩ := r7 h7
  rw [take_drop_all cs (c0.size + c1.size + c2.size + c3.size + c4.size + c5.size + c6.size) c7.size (by omega)] at k7
  refine ⟨(a0, (a1, (a2, (a3, (a4, (a5, (a6, a7))))))), ?_⟩
  exact ⟨by simpa using k0, ⟨by simpa [List.drop_drop, Nat.add_assoc] using k1, ⟨by simpa [List.drop_drop, Nat.add_assoc] using k2, ⟨by simpa [List.drop_drop, Nat.add_assoc] using k3, ⟨by simpa [List.drop_drop, Nat.add_assoc] using k4, ⟨by simpa [List.drop_drop, Nat.add_assoc] using k5, ⟨by simpa [List.drop_drop, Nat.add_assoc] using k6, (by simpa [List.drop_drop, Nat.add_assoc] using k7)⟩⟩⟩⟩⟩⟩⟩
theorem reads_struct9 {P : Program} {α0 α1 α2 α3 α4 α5 α6 α7 α8 : Type} {t : TypeId} {f0 f1 f2 f3 f4 f5 f6 f7 f8 : Field} {c0 : Cod α0} {c1 : Cod α1} {c2 : Cod α2} {c3 : Cod α3} {c4 : Cod α4} {c5 : Cod α5} {c6 : Cod α6} {c7 : Cod α7} {c8 : Cod α8} (ht : P.underlying t = some (.struct #[f0, f1, f2, f3, f4, f5, f6, f7, f8])) (hz : P.cellsOf t = c0.size + c1.size + c2.size + c3.size + c4.size + c5.size + c6.size + c7.size + c8.size) (o0 : f0.offset = 0) (o1 : f1.offset = c0.size) (o2 : f2.offset = c0.size + c1.size) (o3 : f3.offset = c0.size + c1.size + c2.size) (o4 : f4.offset = c0.size + c1.size + c2.size + c3.size) (o5 : f5.offset = c0.size + c1.size + c2.size + c3.size + c4.size) (o6 : f6.offset = c0.size + c1.size + c2.size + c3.size + c4.size + c5.size) (o7 : f7.offset = c0.size + c1.size + c2.size + c3.size + c4.size + c5.size + c6.size) (o8 : f8.offset = c0.size + c1.size + c2.size + c3.size + c4.size + c5.size + c6.size + c7.size) (z0 : P.cellsOf f0.type = c0.size) (z1 : P.cellsOf f1.type = c1.size) (z2 : P.cellsOf f2.type = c2.size) (z3 : P.cellsOf f3.type = c3.size) (z4 : P.cellsOf f4.type = c4.size) (z5 : P.cellsOf f5.type = c5.size) (z6 : P.cellsOf f6.type = c6.size) (z7 : P.cellsOf f7.type = c7.size) (z8 : P.cellsOf f8.type = c8.size) (r0 : Reads P c0 f0.type) (r1 : Reads P c1 f1.type) (r2 : Reads P c2 f2.type) (r3 : Reads P c3 f3.type) (r4 : Reads P c4 f4.type) (r5 : Reads P c5 f5.type) (r6 : Reads P c6 f6.type) (r7 : Reads P c7 f7.type) (r8 : Reads P c8 f8.type) : Reads P (c0.pair (c1.pair (c2.pair (c3.pair (c4.pair (c5.pair (c6.pair (c7.pair c8)))))))) t := by
  intro H enc w base spare held fuel cs x h
  obtain ⟨xs, m, _, _, hlen, hxl, hf⟩ := DataW.trod_struct ht h
  rw [hz] at hlen
  have hxl : xs.length = 9 := hxl
  have h0 := hf 0 f0 rfl
  rw [o0, z0, List.getElem?_eq_getElem (show 0 < xs.length by omega)] at h0
  obtain ⟨a0, k0⟩ := r0 h0
  have h1 := hf 1 f1 rfl
  rw [o1, z1, List.getElem?_eq_getElem (show 1 < xs.length by omega)] at h1
  obtain ⟨a1, k1⟩ := r1 h1
  have h2 := hf 2 f2 rfl
  rw [o2, z2, List.getElem?_eq_getElem (show 2 < xs.length by omega)] at h2
  obtain ⟨a2, k2⟩ := r2 h2
  have h3 := hf 3 f3 rfl
  rw [o3, z3, List.getElem?_eq_getElem (show 3 < xs.length by omega)] at h3
  obtain ⟨a3, k3⟩ := r3 h3
  have h4 := hf 4 f4 rfl
  rw [o4, z4, List.getElem?_eq_getElem (show 4 < xs.length by omega)] at h4
  obtain ⟨a4, k4⟩ := r4 h4
  have h5 := hf 5 f5 rfl
  rw [o5, z5, List.getElem?_eq_getElem (show 5 < xs.length by omega)] at h5
  obtain ⟨a5, k5⟩ := r5 h5
  have h6 := hf 6 f6 rfl
  rw [o6, z6, List.getElem?_eq_getElem (show 6 < xs.length by omega)] at h6
  obtain ⟨a6, k6⟩ := r6 h6
  have h7 := hf 7 f7 rfl
  rw [o7, z7, List.getElem?_eq_getElem (show 7 < xs.length by omega)] at h7
  obtain ⟨a7, k7⟩ := r7 h7
  have h8 := hf 8 f8 rfl
  rw [o8, z8, List.getElem?_eq_getElem (show 8 < xs.length by omega)] at h8
  obtain ⟨a8, k8⟩ := r8 h8
  rw [take_drop_all cs (c0.size + c1.size + c2.size + c3.size + c4.size + c5.size + c6.size + c7.size) c8.size (by omega)] at k8
  refine ⟨(a0, (a1, (a2, (a3, (a4, (a5, (a6, (a7, a8)))))))), ?_⟩
  exact ⟨by simpa using k0, ⟨by simpa [List.drop_drop, Nat.add_assoc] using k1, ⟨by simpa [List.drop_drop, Nat.add_assoc] using k2, ⟨by simpa [List.drop_drop, Nat.add_assoc] using k3, ⟨by simpa [List.drop_drop, Nat.add_assoc] using k4, ⟨by simpa [List.drop_drop, Nat.add_assoc] using k5, ⟨by simpa [List.drop_drop, Nat.add_assoc] using k6, ⟨by simpa [List.drop_drop, Nat.add_assoc] using k7, (by simpa [List.drop_drop, Nat.add_assoc] using k8)⟩⟩⟩⟩⟩⟩⟩⟩
theorem reads_struct10 {P : Program} {α0 α1 α2 α3 α4 α5 α6 α7 α8 α9 : Type} {t : TypeId} {f0 f1 f2 f3 f4 f5 f6 f7 f8 f9 : Field} {c0 : Cod α0} {c1 : Cod α1} {c2 : Cod α2} {c3 : Cod α3} {c4 : Cod α4} {c5 : Cod α5} {c6 : Cod α6} {c7 : Cod α7} {c8 : Cod α8} {c9 : Cod α9} (ht : P.underlying t = some (.struct #[f0, f1, f2, f3, f4, f5, f6, f7, f8, f9])) (hz : P.cellsOf t = c0.size + c1.size + c2.size + c3.size + c4.size + c5.size + c6.size + c7.size + c8.size + c9.size) (o0 : f0.offset = 0) (o1 : f1.offset = c0.size) (o2 : f2.offset = c0.size + c1.size) (o3 : f3.offset = c0.size + c1.size + c2.size) (o4 : f4.offset = c0.size + c1.size + c2.size + c3.size) (o5 : f5.offset = c0.size + c1.size + c2.size + c3.size + c4.size) (o6 : f6.offset = c0.size + c1.size + c2.size + c3.size + c4.size + c5.size) (o7 : f7.offset = c0.size + c1.size + c2.size + c3.size + c4.size + c5.size + c6.size) (o8 : f8.offset = c0.size + c1.size + c2.size + c3.size + c4.size + c5.size + c6.size + c7.size) (o9 : f9.offset = c0.size + c1.size + c2.size + c3.size + c4.size + c5.size + c6.size + c7.size + c8.size) (z0 : P.cellsOf f0.type = c0.size) (z1 : P.cellsOf f1.type = c1.size) (z2 : P.cellsOf f2.type = c2.size) (z3 : P.cellsOf f3.type = c3.size) (z4 : P.cellsOf f4.type = c4.size) (z5 : P.cellsOf f5.type = c5.size) (z6 : P.cellsOf f6.type = c6.size) (z7 : P.cellsOf f7.type = c7.size) (z8 : P.cellsOf f8.type = c8.size) (z9 : P.cellsOf f9.type = c9.size) (r0 : Reads P c0 f0.type) (r1 : Reads P c1 f1.type) (r2 : Reads P c2 f2.type) (r3 : Reads P c3 f3.type) (r4 : Reads P c4 f4.type) (r5 : Reads P c5 f5.type) (r6 : Reads P c6 f6.type) (r7 : Reads P c7 f7.type) (r8 : Reads P c8 f8.type) (r9 : Reads P c9 f9.type) : Reads P (c0.pair (c1.pair (c2.pair (c3.pair (c4.pair (c5.pair (c6.pair (c7.pair (c8.pair c9))))))))) t := by
  intro H enc w base spare held fuel cs x h
  obtain ⟨xs, m, _, _, hlen, hxl, hf⟩ := DataW.trod_struct ht h
  rw [hz] at hlen
  have hxl : xs.length = 10 := hxl
  have h0 := hf 0 f0 rfl
  rw [o0, z0, List.getElem?_eq_getElem (show 0 < xs.length by omega)] at h0
  obtain ⟨a0, k0⟩ := r0 h0
  have h1 := hf 1 f1 rfl
  rw [o1, z1, List.getElem?_eq_getElem (show 1 < xs.length by omega)] at h1
  obtain ⟨a1, k1⟩ := r1 h1
  have h2 := hf 2 f2 rfl
  rw [o2, z2, List.getElem?_eq_getElem (show 2 < xs.length by omega)] at h2
  obtain ⟨a2, k2⟩ := r2 h2
  have h3 := hf 3 f3 rfl
  rw [o3, z3, List.getElem?_eq_getElem (show 3 < xs.length by omega)] at h3
  obtain ⟨a3, k3⟩ := r3 h3
  have h4 := hf 4 f4 rfl
  rw [o4, z4, List.getElem?_eq_getElem (show 4 < xs.length by omega)] at h4
  obtain ⟨a4, k4⟩ := r4 h4
  have h5 := hf 5 f5 rfl
  rw [o5, z5, List.getElem?_eq_getElem (show 5 < xs.length by omega)] at h5
  obtain ⟨a5, k5⟩ := r5 h5
  have h6 := hf 6 f6 rfl
  rw [o6, z6, List.getElem?_eq_getElem (show 6 < xs.length by omega)] at h6
  obtain ⟨a6, k6⟩ := r6 h6
  have h7 := hf 7 f7 rfl
  rw [o7, z7, List.getElem?_eq_getElem (show 7 < xs.length by omega)] at h7
  obtain ⟨a7, k7⟩ := r7 h7
  have h8 := hf 8 f8 rfl
  rw [o8, z8, List.getElem?_eq_getElem (show 8 < xs.length by omega)] at h8
  obtain ⟨a8, k8⟩ := r8 h8
  have h9 := hf 9 f9 rfl
  rw [o9, z9, List.getElem?_eq_getElem (show 9 < xs.length by omega)] at h9
  obtain ⟨a9, k9⟩ := r9 h9
  rw [take_drop_all cs (c0.size + c1.size + c2.size + c3.size + c4.size + c5.size + c6.size + c7.size + c8.size) c9.size (by omega)] at k9
  refine ⟨(a0, (a1, (a2, (a3, (a4, (a5, (a6, (a7, (a8, a9))))))))), ?_⟩
  exact ⟨by simpa using k0, ⟨by simpa [List.drop_drop, Nat.add_assoc] using k1, ⟨by simpa [List.drop_drop, Nat.add_assoc] using k2, ⟨by simpa [List.drop_drop, Nat.add_assoc] using k3, ⟨by simpa [List.drop_drop, Nat.add_assoc] using k4, ⟨by simpa [List.drop_drop, Nat.add_assoc] using k5, ⟨by simpa [List.drop_drop, Nat.add_assoc] using k6, ⟨by simpa [List.drop_drop, Nat.add_assoc] using k7, ⟨by simpa [List.drop_drop, Nat.add_assoc] using k8, (by simpa [List.drop_drop, Nat.add_assoc] using k9)⟩⟩⟩⟩⟩⟩⟩⟩⟩
theorem reads_struct11 {P : Program} {α0 α1 α2 α3 α4 α5 α6 α7 α8 α9 α10 : Type} {t : TypeId} {f0 f1 f2 f3 f4 f5 f6 f7 f8 f9 f10 : Field} {c0 : Cod α0} {c1 : Cod α1} {c2 : Cod α2} {c3 : Cod α3} {c4 : Cod α4} {c5 : Cod α5} {c6 : Cod α6} {c7 : Cod α7} {c8 : Cod α8} {c9 : Cod α9} {c10 : Cod α10} (ht : P.underlying t = some (.struct #[f0, f1, f2, f3, f4, f5, f6, f7, f8, f9, f10])) (hz : P.cellsOf t = c0.size + c1.size + c2.size + c3.size + c4.size + c5.size + c6.size + c7.size + c8.size + c9.size + c10.size) (o0 : f0.offset = 0) (o1 : f1.offset = c0.size) (o2 : f2.offset = c0.size + c1.size) (o3 : f3.offset = c0.size + c1.size + c2.size) (o4 : f4.offset = c0.size + c1.size + c2.size + c3.size) (o5 : f5.offset = c0.size + c1.size + c2.size + c3.size + c4.size) (o6 : f6.offset = c0.size + c1.size + c2.size + c3.size + c4.size + c5.size) (o7 : f7.offset = c0.size + c1.size + c2.size + c3.size + c4.size + c5.size + c6.size) (o8 : f8.offset = c0.size + c1.size + c2.size + c3.size + c4.size + c5.size + c6.size + c7.size) (o9 : f9.offset = c0.size + c1.size + c2.size + c3.size + c4.size + c5.size + c6.size + c7.size + c8.size) (o10 : f10.offset = c0.size + c1.size + c2.size + c3.size + c4.size + c5.size + c6.size + c7.size + c8.size + c9.size) (z0 : P.cellsOf f0.type = c0.size) (z1 : P.cellsOf f1.type = c1.size) (z2 : P.cellsOf f2.type = c2.size) (z3 : P.cellsOf f3.type = c3.size) (z4 : P.cellsOf f4.type = c4.size) (z5 : P.cellsOf f5.type = c5.size) (z6 : P.cellsOf f6.type = c6.size) (z7 : P.cellsOf f7.type = c7.size) (z8 : P.cellsOf f8.type = c8.size) (z9 : P.cellsOf f9.type = c9.size) (z10 : P.cellsOf f10.type = c10.size) (r0 : Reads P c0 f0.type) (r1 : Reads P c1 f1.type) (r2 : Reads P c2 f2.type) (r3 : Reads P c3 f3.type) (r4 : Reads P c4 f4.type) (r5 : Reads P c5 f5.type) (r6 : Reads P c6 f6.type) (r7 : Reads P c7 f7.type) (r8 : Reads P c8 f8.type) (r9 : Reads P c9 f9.type) (r10 : Reads P c10 f10.type) : Reads P (c0.pair (c1.pair (c2.pair (c3.pair (c4.pair (c5.pair (c6.pair (c7.pair (c8.pair (c9.pair c10)))))))))) t := by
  intro H enc w base spare held fuel cs x h
  obtain ⟨xs, m, _, _, hlen, hxl, hf⟩ := DataW.trod_struct ht h
  rw [hz] at hlen
  have hxl : xs.length = 11 := hxl
  have h0 := hf 0 f0 rfl
  rw [o0, z0, List.getElem?_eq_getElem (show 0 < xs.length by omega)] at h0
  obtain ⟨a0, k0⟩ := r0 h0
  have h1 := hf 1 f1 rfl
  rw [o1, z1, List.getElem?_eq_getElem (show 1 < xs.length by omega)] at h1
  obtain ⟨a1, k1⟩ := r1 h1
  have h2 := hf 2 f2 rfl
  rw [o2, z2, List.getElem?_eq_getElem (show 2 < xs.length by omega)] at h2
  obtain ⟨a2, k2⟩ := r2 h2
  have h3 := hf 3 f3 rfl
  rw [o3, z3, List.getElem?_eq_getElem (show 3 < xs.length by omega)] at h3
  obtain ⟨a3, k3⟩ := r3 h3
  have h4 := hf 4 f4 rfl
  rw [o4, z4, List.getElem?_eq_getElem (show 4 < xs.length by omega)] at h4
  obtain ⟨a4, k4⟩ := r4 h4
  have h5 := hf 5 f5 rfl
  rw [o5, z5, List.getElem?_eq_getElem (show 5 < xs.length by omega)] at h5
  obtain ⟨a5, k5⟩ := r5 h5
  have h6 := hf 6 f6 rfl
  rw [o6, z6, List.getElem?_eq_getElem (show 6 < xs.length by omega)] at h6
  obtain ⟨a6, k6⟩ := r6 h6
  have h7 := hf 7 f7 rfl
  rw [o7, z7, List.getElem?_eq_getElem (show 7 < xs.length by omega)] at h7
  obtain ⟨a7, k7⟩ := r7 h7
  have h8 := hf 8 f8 rfl
  rw [o8, z8, List.getElem?_eq_getElem (show 8 < xs.length by omega)] at h8
  obtain ⟨a8, k8⟩ := r8 h8
  have h9 := hf 9 f9 rfl
  rw [o9, z9, List.getElem?_eq_getElem (show 9 < xs.length by omega)] at h9
  obtain ⟨a9, k9⟩ := r9 h9
  have h10 := hf 10 f10 rfl
  rw [o10, z10, List.getElem?_eq_getElem (show 10 < xs.length by omega)] at h10
  obtain ⟨a10, k10⟩ := r10 h10
  rw [take_drop_all cs (c0.size + c1.size + c2.size + c3.size + c4.size + c5.size + c6.size + c7.size + c8.size + c9.size) c10.size (by omega)] at k10
  refine ⟨(a0, (a1, (a2, (a3, (a4, (a5, (a6, (a7, (a8, (a9, a10)))))))))), ?_⟩
  exact ⟨by simpa using k0, ⟨by simpa [List.drop_drop, Nat.add_assoc] using k1, ⟨by simpa [List.drop_drop, Nat.add_assoc] using k2, ⟨by simpa [List.drop_drop, Nat.add_assoc] using k3, ⟨by simpa [List.drop_drop, Nat.add_assoc] using k4, ⟨by simpa [List.drop_drop, Nat.add_assoc] using k5, ⟨by simpa [List.drop_drop, Nat.add_assoc] using k6, ⟨by simpa [List.drop_drop, Nat.add_assoc] using k7, ⟨by simpa [List.drop_drop, Nat.add_assoc] using k8, ⟨by simpa [List.drop_drop, Nat.add_assoc] using k9, (by simpa [List.drop_drop, Nat.add_assoc] using k10)⟩⟩⟩⟩⟩⟩⟩⟩⟩⟩
theorem reads_struct12 {P : Program} {α0 α1 α2 α3 α4 α5 α6 α7 α8 α9 α10 α11 : Type} {t : TypeId} {f0 f1 f2 f3 f4 f5 f6 f7 f8 f9 f10 f11 : Field} {c0 : Cod α0} {c1 : Cod α1} {c2 : Cod α2} {c3 : Cod α3} {c4 : Cod α4} {c5 : Cod α5} {c6 : Cod α6} {c7 : Cod α7} {c8 : Cod α8} {c9 : Cod α9} {c10 : Cod α10} {c11 : Cod α11} (ht : P.underlying t = some (.struct #[f0, f1, f2, f3, f4, f5, f6, f7, f8, f9, f10, f11])) (hz : P.cellsOf t = c0.size + c1.size + c2.size + c3.size + c4.size + c5.size + c6.size + c7.size + c8.size + c9.size + c10.size + c11.size) (o0 : f0.offset = 0) (o1 : f1.offset = c0.size) (o2 : f2.offset = c0.size + c1.size) (o3 : f3.offset = c0.size + c1.size + c2.size) (o4 : f4.offset = c0.size + c1.size + c2.size + c3.size) (o5 : f5.offset = c0.size + c1.size + c2.size + c3.size + c4.size) (o6 : f6.offset = c0.size + c1.size + c2.size + c3.size + c4.size + c5.size) (o7 : f7.offset = c0.size + c1.size + c2.size + c3.size + c4.size + c5.size + c6.size) (o8 : f8.offset = c0.size + c1.size + c2.size + c3.size + c4.size + c5.size + c6.size + c7.size) (o9 : f9.offset = c0.size + c1.size + c2.size + c3.size + c4.size + c5.size + c6.size + c7.size + c8.size) (o10 : f10.offset = c0.size + c1.size + c2.size + c3.size + c4.size + c5.size + c6.size + c7.size + c8.size + c9.size) (o11 : f11.offset = c0.size + c1.size + c2.size + c3.size + c4.size + c5.size + c6.size + c7.size + c8.size + c9.size + c10.size) (z0 : P.cellsOf f0.type = c0.size) (z1 : P.cellsOf f1.type = c1.size) (z2 : P.cellsOf f2.type = c2.size) (z3 : P.cellsOf f3.type = c3.size) (z4 : P.cellsOf f4.type = c4.size) (z5 : P.cellsOf f5.type = c5.size) (z6 : P.cellsOf f6.type = c6.size) (z7 : P.cellsOf f7.type = c7.size) (z8 : P.cellsOf f8.type = c8.size) (z9 : P.cellsOf f9.type = c9.size) (z10 : P.cellsOf f10.type = c10.size) (z11 : P.cellsOf f11.type = c11.size) (r0 : Reads P c0 f0.type) (r1 : Reads P c1 f1.type) (r2 : Reads P c2 f2.type) (r3 : Reads P c3 f3.type) (r4 : Reads P c4 f4.type) (r5 : Reads P c5 f5.type) (r6 : Reads P c6 f6.type) (r7 : Reads P c7 f7.type) (r8 : Reads P c8 f8.type) (r9 : Reads P c9 f9.type) (r10 : Reads P c10 f10.type) (r11 : Reads P c11 f11.type) : Reads P (c0.pair (c1.pair (c2.pair (c3.pair (c4.pair (c5.pair (c6.pair (c7.pair (c8.pair (c9.pair (c10.pair c11))))))))))) t := by
  intro H enc w base spare held fuel cs x h
  obtain ⟨xs, m, _, _, hlen, hxl, hf⟩ := DataW.trod_struct ht h
  rw [hz] at hlen
  have hxl : xs.length = 12 := hxl
  have h0 := hf 0 f0 rfl
  rw [o0, z0, List.getElem?_eq_getElem (show 0 < xs.length by omega)] at h0
  obtain ⟨a0, k0⟩ := r0 h0
  have h1 := hf 1 f1 rfl
  rw [o1, z1, List.getElem?_eq_getElem (show 1 < xs.length by omega)] at h1
  obtain ⟨a1, k1⟩ := r1 h1
  have h2 := hf 2 f2 rfl
  rw [o2, z2, List.getElem?_eq_getElem (show 2 < xs.length by omega)] at h2
  obtain ⟨a2, k2⟩ := r2 h2
  have h3 := hf 3 f3 rfl
  rw [o3, z3, List.getElem?_eq_getElem (show 3 < xs.length by omega)] at h3
  obtain ⟨a3, k3⟩ := r3 h3
  have h4 := hf 4 f4 rfl
  rw [o4, z4, List.getElem?_eq_getElem (show 4 < xs.length by omega)] at h4
  obtain ⟨a4, k4⟩ := r4 h4
  have h5 := hf 5 f5 rfl
  rw [o5, z5, List.getElem?_eq_getElem (show 5 < xs.length by omega)] at h5
  obtain ⟨a5, k5⟩ := r5 h5
  have h6 := hf 6 f6 rfl
  rw [o6, z6, List.getElem?_eq_getElem (show 6 < xs.length by omega)] at h6
  obtain ⟨a6, k6⟩ := r6 h6
  have h7 := hf 7 f7 rfl
  rw [o7, z7, List.getElem?_eq_getElem (show 7 < xs.length by omega)] at h7
  obtain ⟨a7, k7⟩ := r7 h7
  have h8 := hf 8 f8 rfl
  rw [o8, z8, List.getElem?_eq_getElem (show 8 < xs.length by omega)] at h8
  obtain ⟨a8, k8⟩ := r8 h8
  have h9 := hf 9 f9 rfl
  rw [o9, z9, List.getElem?_eq_getElem (show 9 < xs.length by omega)] at h9
  obtain ⟨a9, k9⟩ := r9 h9
  have h10 := hf 10 f10 rfl
  rw [o10, z10, List.getElem?_eq_getElem (show 10 < xs.length by omega)] at h10
  obtain ⟨a10, k10⟩ := r10 h10
  have h11 := hf 11 f11 rfl
  rw [o11, z11, List.getElem?_eq_getElem (show 11 < xs.length by omega)] at h11
  obtain ⟨a11, k11⟩ := r11 h11
  rw [take_drop_all cs (c0.size + c1.size + c2.size + c3.size + c4.size + c5.size + c6.size + c7.size + c8.size + c9.size + c10.size) c11.size (by omega)] at k11
  refine ⟨(a0, (a1, (a2, (a3, (a4, (a5, (a6, (a7, (a8, (a9, (a10, a11))))))))))), ?_⟩
  exact ⟨by simpa using k0, ⟨by simpa [List.drop_drop, Nat.add_assoc] using k1, ⟨by simpa [List.drop_drop, Nat.add_assoc] using k2, ⟨by simpa [List.drop_drop, Nat.add_assoc] using k3, ⟨by simpa [List.drop_drop, Nat.add_assoc] using k4, ⟨by simpa [List.drop_drop, Nat.add_assoc] using k5, ⟨by simpa [List.drop_drop, Nat.add_assoc] using k6, ⟨by simpa [List.drop_drop, Nat.add_assoc] using k7, ⟨by simpa [List.drop_drop, Nat.add_assoc] using k8, ⟨by simpa [List.drop_drop, Nat.add_assoc] using k9, ⟨by simpa [List.drop_drop, Nat.add_assoc] using k10, (by simpa [List.drop_drop, Nat.add_assoc] using k11)⟩⟩⟩⟩⟩⟩⟩⟩⟩⟩⟩
theorem reads_struct13 {P : Program} {α0 α1 α2 α3 α4 α5 α6 α7 α8 α9 α10 α11 α12 : Type} {t : TypeId} {f0 f1 f2 f3 f4 f5 f6 f7 f8 f9 f10 f11 f12 : Field} {c0 : Cod α0} {c1 : Cod α1} {c2 : Cod α2} {c3 : Cod α3} {c4 : Cod α4} {c5 : Cod α5} {c6 : Cod α6} {c7 : Cod α7} {c8 : Cod α8} {c9 : Cod α9} {c10 : Cod α10} {c11 : Cod α11} {c12 : Cod α12} (ht : P.underlying t = some (.struct #[f0, f1, f2, f3, f4, f5, f6, f7, f8, f9, f10, f11, f12])) (hz : P.cellsOf t = c0.size + c1.size + c2.size + c3.size + c4.size + c5.size + c6.size + c7.size + c8.size + c9.size + c10.size + c11.size + c12.size) (o0 : f0.offset = 0) (o1 : f1.offset = c0.size) (o2 : f2.offset = c0.size + c1.size) (o3 : f3.offset = c0.size + c1.size + c2.size) (o4 : f4.offset = c0.size + c1.size + c2.size + c3.size) (o5 : f5.offset = c0.size + c1.size + c2.size + c3.size + c4.size) (o6 : f6.offset = c0.size + c1.size + c2.size + c3.size + c4.size + c5.size) (o7 : f7.offset = c0.size + c1.size + c2.size + c3.size + c4.size + c5.size + c6.size) (o8 : f8.offset = c0.size + c1.size + c2.size + c3.size + c4.size + c5.size + c6.size + c7.size) (o9 : f9.offset = c0.size + c1.size + c2.size + c3.size + c4.size + c5.size + c6.size + c7.size + c8.size) (o10 : f10.offset = c0.size + c1.size + c2.size + c3.size + c4.size + c5.size + c6.size + c7.size + c8.size + c9.size) (o11 : f11.offset = c0.size + c1.size + c2.size + c3.size + c4.size + c5.size + c6.size + c7.size + c8.size + c9.size + c10.size) (o12 : f12.offset = c0.size + c1.size + c2.size + c3.size + c4.size + c5.size + c6.size + c7.size + c8.size + c9.size + c10.size + c11.size) (z0 : P.cellsOf f0.type = c0.size) (z1 : P.cellsOf f1.type = c1.size) (z2 : P.cellsOf f2.type = c2.size) (z3 : P.cellsOf f3.type = c3.size) (z4 : P.cellsOf f4.type = c4.size) (z5 : P.cellsOf f5.type = c5.size) (z6 : P.cellsOf f6.type = c6.size) (z7 : P.cellsOf f7.type = c7.size) (z8 : P.cellsOf f8.type = c8.size) (z9 : P.cellsOf f9.type = c9.size) (z10 : P.cellsOf f10.type = c10.size) (z11 : P.cellsOf f11.type = c11.size) (z12 : P.cellsOf f12.type = c12.size) (r0 : Reads P c0 f0.type) (r1 : Reads P c1 f1.type) (r2 : Reads P c2 f2.type) (r3 : Reads P c3 f3.type) (r4 : Reads P c4 f4.type) (r5 : Reads P c5 f5.type) (r6 : Reads P c6 f6.type) (r7 : Reads P c7 f7.type) (r8 : Reads P c8 f8.type) (r9 : Reads P c9 f9.type) (r10 : Reads P c10 f10.type) (r11 : Reads P c11 f11.type) (r12 : Reads P c12 f12.type) : Reads P (c0.pair (c1.pair (c2.pair (c3.pair (c4.pair (c5.pair (c6.pair (c7.pair (c8.pair (c9.pair (c10.pair (c11.pair c12)))))))))))) t := by
  intro H enc w base spare held fuel cs x h
  obtain ⟨xs, m, _, _, hlen, hxl, hf⟩ := DataW.trod_struct ht h
  rw [hz] at hlen
  have hxl : xs.length = 13 := hxl
  have h0 := hf 0 f0 rfl
  rw [o0, z0, List.getElem?_eq_getElem (show 0 < xs.length by omega)] at h0
  obtain ⟨a0, k0⟩ := r0 h0
  have h1 := hf 1 f1 rfl
  rw [o1, z1, List.getElem?_eq_getElem (show 1 < xs.length by omega)] at h1
  obtain ⟨a1, k1⟩ := r1 h1
  have h2 := hf 2 f2 rfl
  rw [o2, z2, List.getElem?_eq_getElem (show 2 < xs.length by omega)] at h2
  obtain ⟨a2, k2⟩ := r2 h2
  have h3 := hf 3 f3 rfl
  rw [o3, z3, List.getElem?_eq_getElem (show 3 < xs.length by omega)] at h3
  obtain ⟨a3, k3⟩ := r3 h3
  have h4 := hf 4 f4 rfl
  rw [o4, z4, List.getElem?_eq_getElem (show 4 < xs.length by omega)] at h4
  obtain ⟨a4, k4⟩ := r4 h4
  have h5 := hf 5 f5 rfl
  rw [o5, z5, List.getElem?_eq_getElem (show 5 < xs.length by omega)] at h5
  obtain ⟨a5, k5⟩ := r5 h5
  have h6 := hf 6 f6 rfl
  rw [o6, z6, List.getElem?_eq_getElem (show 6 < xs.length by omega)] at h6
  obtain ⟨a6, k6⟩ := r6 h6
  have h7 := hf 7 f7 rfl
  rw [o7, z7, List.getElem?_eq_getElem (show 7 < xs.length by omega)] at h7
  obtain ⟨a7, k7⟩ := r7 h7
  have h8 := hf 8 f8 rfl
  rw [o8, z8, List.getElem?_eq_getElem (show 8 < xs.length by omega)] at h8
  obtain ⟨a8, k8⟩ := r8 h8
  have h9 := hf 9 f9 rfl
  rw [o9, z9, List.getElem?_eq_getElem (show 9 < xs.length by omega)] at h9
  obtain ⟨a9, k9⟩ := r9 h9
  have h10 := hf 10 f10 rfl
  rw [o10, z10, List.getElem?_eq_getElem (show 10 < xs.length by omega)] at h10
  obtain ⟨a10, k10⟩ := r10 h10
  have h11 := hf 11 f11 rfl
  rw [o11, z11, List.getElem?_eq_getElem (show 11 < xs.length by omega)] at h11
  obtain ⟨a11, k11⟩ := r11 h11
  have h12 := hf 12 f12 rfl
  rw [o12, z12, List.getElem?_eq_getElem (show 12 < xs.length by omega)] at h12
  obtain ⟨a12, k12⟩ := r12 h12
  rw [take_drop_all cs (c0.size + c1.size + c2.size + c3.size + c4.size + c5.size + c6.size + c7.size + c8.size + c9.size + c10.size + c11.size) c12.size (by omega)] at k12
  refine ⟨(a0, (a1, (a2, (a3, (a4, (a5, (a6, (a7, (a8, (a9, (a10, (a11, a12)))))))))))), ?_⟩
  exact ⟨by simpa using k0, ⟨by simpa [List.drop_drop, Nat.add_assoc] using k1, ⟨by simpa [List.drop_drop, Nat.add_assoc] using k2, ⟨by simpa [List.drop_drop, Nat.add_assoc] using k3, ⟨by simpa [List.drop_drop, Nat.add_assoc] using k4, ⟨by simpa [List.drop_drop, Nat.add_assoc] using k5, ⟨by simpa [List.drop_drop, Nat.add_assoc] using k6, ⟨by simpa [List.drop_drop, Nat.add_assoc] using k7, ⟨by simpa [List.drop_drop, Nat.add_assoc] using k8, ⟨by simpa [List.drop_drop, Nat.add_assoc] using k9, ⟨by simpa [List.drop_drop, Nat.add_assoc] using k10, ⟨by simpa [List.drop_drop, Nat.add_assoc] using k11, (by simpa [List.drop_drop, Nat.add_assoc] using k12)⟩⟩⟩⟩⟩⟩⟩⟩⟩⟩⟩⟩
theorem reads_struct14 {P : Program} {α0 α1 α2 α3 α4 α5 α6 α7 α8 α9 α10 α11 α12 α13 : Type} {t : TypeId} {f0 f1 f2 f3 f4 f5 f6 f7 f8 f9 f10 f11 f12 f13 : Field} {c0 : Cod α0} {c1 : Cod α1} {c2 : Cod α2} {c3 : Cod α3} {c4 : Cod α4} {c5 : Cod α5} {c6 : Cod α6} {c7 : Cod α7} {c8 : Cod α8} {c9 : Cod α9} {c10 : Cod α10} {c11 : Cod α11} {c12 : Cod α12} {c13 : Cod α13} (ht : P.underlying t = some (.struct #[f0, f1, f2, f3, f4, f5, f6, f7, f8, f9, f10, f11, f12, f13])) (hz : P.cellsOf t = c0.size + c1.size + c2.size + c3.size + c4.size + c5.size + c6.size + c7.size + c8.size + c9.size + c10.size + c11.size + c12.size + c13.size) (o0 : f0.offset = 0) (o1 : f1.offset = c0.size) (o2 : f2.offset = c0.size + c1.size) (o3 : f3.offset = c0.size + c1.size + c2.size) (o4 : f4.offset = c0.size + c1.size + c2.size + c3.size) (o5 : f5.offset = c0.size + c1.size + c2.size + c3.size + c4.size) (o6 : f6.offset = c0.size + c1.size + c2.size + c3.size + c4.size + c5.size) (o7 : f7.offset = c0.size + c1.size + c2.size + c3.size + c4.size + c5.size + c6.size) (o8 : f8.offset = c0.size + c1.size + c2.size + c3.size + c4.size + c5.size + c6.size + c7.size) (o9 : f9.offset = c0.size + c1.size + c2.size + c3.size + c4.size + c5.size + c6.size + c7.size + c8.size) (o10 : f10.offset = c0.size + c1.size + c2.size + c3.size + c4.size + c5.size + c6.size + c7.size + c8.size + c9.size) (o11 : f11.offset = c0.size + c1.size + c2.size + c3.size + c4.size + c5.size + c6.size + c7.size + c8.size + c9.size + c10.size) (o12 : f12.offset = c0.size + c1.size + c2.size + c3.size + c4.size + c5.size + c6.size + c7.size + c8.size + c9.size + c10.size + c11.size) (o13 : f13.offset = c0.size + c1.size + c2.size + c3.size + c4.size + c5.size + c6.size + c7.size + c8.size + c9.size + c10.size + c11.size + c12.size) (z0 : P.cellsOf f0.type = c0.size) (z1 : P.cellsOf f1.type = c1.size) (z2 : P.cellsOf f2.type = c2.size) (z3 : P.cellsOf f3.type = c3.size) (z4 : P.cellsOf f4.type = c4.size) (z5 : P.cellsOf f5.type = c5.size) (z6 : P.cellsOf f6.type = c6.size) (z7 : P.cellsOf f7.type = c7.size) (z8 : P.cellsOf f8.type = c8.size) (z9 : P.cellsOf f9.type = c9.size) (z10 : P.cellsOf f10.type = c10.size) (z11 : P.cellsOf f11.type = c11.size) (z12 : P.cellsOf f12.type = c12.size) (z13 : P.cellsOf f13.type = c13.size) (r0 : Reads P c0 f0.type) (r1 : Reads P c1 f1.type) (r2 : Reads P c2 f2.type) (r3 : Reads P c3 f3.type) (r4 : Reads P c4 f4.type) (r5 : Reads P c5 f5.type) (r6 : Reads P c6 f6.type) (r7 : Reads P c7 f7.type) (r8 : Reads P c8 f8.type) (r9 : Reads P c9 f9.type) (r10 : Reads P c10 f10.type) (r11 : Reads P c11 f11.type) (r12 : Reads P c12 f12.type) (r13 : Reads P c13 f13.type) : Reads P (c0.pair (c1.pair (c2.pair (c3.pair (c4.pair (c5.pair (c6.pair (c7.pair (c8.pair (c9.pair (c10.pair (c11.pair (c12.pair c13))))))))))))) t := by
  intro H enc w base spare held fuel cs x h
  obtain ⟨xs, m, _, _, hlen, hxl, hf⟩ := DataW.trod_struct ht h
  rw [hz] at hlen
  have hxl : xs.length = 14 := hxl
  have h0 := hf 0 f0 rfl
  rw [o0, z0, List.getElem?_eq_getElem (show 0 < xs.length by omega)] at h0
  obtain ⟨a0, k0⟩ := r0 h0
  have h1 := hf 1 f1 rfl
  rw [o1, z1, List.getElem?_eq_getElem (show 1 < xs.length by omega)] at h1
  obtain ⟨a1, k1⟩ := r1 h1
  have h2 := hf 2 f2 rfl
  rw [o2, z2, List.getElem?_eq_getElem (show 2 < xs.length by omega)] at h2
  obtain ⟨a2, k2⟩ := r2 h2
  have h3 := hf 3 f3 rfl
  rw [o3, z3, List.getElem?_eq_getElem (show 3 < xs.length by omega)] at h3
  obtain ⟨a3, k3⟩ := r3 h3
  have h4 := hf 4 f4 rfl
  rw [o4, z4, List.getElem?_eq_getElem (show 4 < xs.length by omega)] at h4
  obtain ⟨a4, k4⟩ := r4 h4
  have h5 := hf 5 f5 rfl
  rw [o5, z5, List.getElem?_eq_getElem (show 5 < xs.length by omega)] at h5
  obtain ⟨a5, k5⟩ := r5 h5
  have h6 := hf 6 f6 rfl
  rw [o6, z6, List.getElem?_eq_getElem (show 6 < xs.length by omega)] at h6
  obtain ⟨a6, k6⟩ := r6 h6
  have h7 := hf 7 f7 rfl
  rw [o7, z7, List.getElem?_eq_getElem (show 7 < xs.length by omega)] at h7
  obtain ⟨a7, k7⟩ := r7 h7
  have h8 := hf 8 f8 rfl
  rw [o8, z8, List.getElem?_eq_getElem (show 8 < xs.length by omega)] at h8
  obtain ⟨a8, k8⟩ := r8 h8
  have h9 := hf 9 f9 rfl
  rw [o9, z9, List.getElem?_eq_getElem (show 9 < xs.length by omega)] at h9
  obtain ⟨a9, k9⟩ := r9 h9
  have h10 := hf 10 f10 rfl
  rw [o10, z10, List.getElem?_eq_getElem (show 10 < xs.length by omega)] at h10
  obtain ⟨a10, k10⟩ := r10 h10
  have h11 := hf 11 f11 rfl
  rw [o11, z11, List.getElem?_eq_getElem (show 11 < xs.length by omega)] at h11
  obtain ⟨a11, k11⟩ := r11 h11
  have h12 := hf 12 f12 rfl
  rw [o12, z12, List.getElem?_eq_getElem (show 12 < xs.length by omega)] at h12
  obtain ⟨a12, k12⟩ := r12 h12
  have h13 := hf 13 f13 rfl
  rw [o13, z13, List.getElem?_eq_getElem (show 13 < xs.length by omega)] at h13
  obtain ⟨a13, k13⟩ := r13 h13
  rw [take_drop_all cs (c0.size + c1.size + c2.size + c3.size + c4.size + c5.size + c6.size + c7.size + c8.size + c9.size + c10.size + c11.size + c12.size) c13.size (by omega)] at k13
  refine ⟨(a0, (a1, (a2, (a3, (a4, (a5, (a6, (a7, (a8, (a9, (a10, (a11, (a12, a13))))))))))))), ?_⟩
  exact ⟨by simpa using k0, ⟨by simpa [List.drop_drop, Nat.add_assoc] using k1, ⟨by simpa [List.drop_drop, Nat.add_assoc] using k2, ⟨by simpa [List.drop_drop, Nat.add_assoc] using k3, ⟨by simpa [List.drop_drop, Nat.add_assoc] using k4, ⟨by simpa [List.drop_drop, Nat.add_assoc] using k5, ⟨by simpa [List.drop_drop, Nat.add_assoc] using k6, ⟨by simpa [List.drop_drop, Nat.add_assoc] using k7, ⟨by simpa [List.drop_drop, Nat.add_assoc] using k8, ⟨by simpa [List.drop_drop, Nat.add_assoc] using k9, ⟨by simpa [List.drop_drop, Nat.add_assoc] using k10, ⟨by simpa [List.drop_drop, Nat.add_assoc] using k11, ⟨by simpa [List.drop_drop, Nat.add_assoc] using k12, (by simpa [List.drop_drop, Nat.add_assoc] using k13)⟩⟩⟩⟩⟩⟩⟩⟩⟩⟩⟩⟩⟩
end Go.Proofs.Ytgjclbkcnilkbaa
